/- law16 -/
import Derived.KernelRfl
import Derived.Test.YtgiopebfjmfmhaaGreatLp25
import Derived.Test.YtgiopebfjmfmhaaGreatLp23
set_option linter.unusedVariables false
open Option renaming some->J
open Bool renaming true->I
open Option renaming bind->Aa
set_option maxRecDepth 1000000
set_option maxHeartbeats 4000000
namespace Go.Ve
open Go Go.Proofs
structure Cmp{α:Type}(b:Option α) where
 c:Option α
 le:∀r,c=J r->b=J r
section
variable {α β σ ρ:Type}
def Cmp.self(b:Option α):Cmp b:=⟨b,fun _ h=>h⟩
def Cmp.bnd{m:Option α}{f:α->Option β}(h:Cmp m)(k:∀y,Cmp (f y)):Cmp (Aa m f):=
 ⟨match h.c with
  |some y=>(k y).c
  |none=>none,fun r hr=>by
  grind[le]⟩
def Cmp.cnd{x y:Option α}(b:Bool)(h:Cmp x)(k:Cmp y):Cmp (bif b then x else y):=
 ⟨match b with
  |true=>h.c
  |false=>k.c,fun r hr=>by
  cases b with
  |true=>exact h.le r hr
  |false=>exact k.le r hr⟩
def Cmp.ite{x y:Option α}(p:Prop)[Decidable p](h:Cmp x)(k:Cmp y):Cmp (if p then x else y):=
 ⟨if p then h.c else k.c,fun r hr=>by
  by_cases hp:p
  .rw[if_pos hp]at hr ⊢;exact h.le r hr
  .rw[if_neg hp]at hr ⊢;exact k.le r hr⟩
def Cmp.map{m:Option α}(f:α->β)(h:Cmp m):Cmp (Option.map f m):=
 ⟨h.c.map f,fun r hr=>by
  cases a:h.c with
  |none=>grind
  |some y=>rw[a]at hr;rw[h.le y a];exact hr⟩
theorem zXq{f g:σ->Option (σ ⊕ ρ)}(h:∀s r,f s=J r->g s=J r):∀(n:Nat) (s:σ) (r:ρ),zDg f n s=J r->zDg g n s=J r
 |0,_,_,a=>by cases a
 |n+1,s,r,a=>by
  unfold zDg at a ⊢
  cases c:f s with
  |none=>grind
  |some o=>
   rw[c]at a;rw[h s o c]
   cases o with
   |inl d=>exact zXq h n d r a
   |inr e=>exact a
def Cmp.lp{f:σ->Option (σ ⊕ ρ)}(n:Nat)(h:∀s,Cmp (f s))(s:σ):Cmp (zR f s):=
 ⟨zDg (fun s=>(h s).c) n s,fun r hr=>zHS.2 ⟨n,zXq (fun s r=>(h s).le r) n s r hr⟩⟩
def Cmp.ct{m:Option (σ ⊕ ρ)}{K:σ->Option ρ}(h:Cmp m)(k:∀s,Cmp (K s)):Cmp (wL m K):=
 ⟨match h.c with
  |some (.inl s)=>(k s).c
  |some (.inr r)=>J r
  |none=>none,fun r hr=>by
  cases a:h.c with
  |none=>grind
  |some o=>
   rw[a]at hr;rw[h.le o a]
   cases o with
   |inl s=>exact(k s).le r hr
   |inr d=>exact hr⟩
def Cmp.mo{f:α->Option β}(h:∀x,Cmp (f x)):∀xs:List α,Cmp (zCn f xs)
 |[]=>⟨J [],fun _ h=>h⟩
 |x::r=>⟨match(h x).c,(Cmp.mo h r).c with
  |some y,J ys=>J (y::ys)
  |_,_=>none,fun z hz=>by
  cases a:(h x).c with
  |none=>grind
  |some y=>
   cases d:(Cmp.mo h r).c with
   |none=>grind
   |some ys=>
    grind[le,zCn]⟩
end
end Go.Ve
namespace Go.Ve
noncomputable section
open Go Go.Proofs
def zMF:∀x,Cmp (yL x):=by
 rintro⟨a,c,⟨⟩⟩
 delta yL
 dsimp only
 repeat' (with_reducible first|refine Cmp.bnd ?_ (fun _=>?_)|refine Cmp.cnd _ ?_ ?_|refine Cmp.ct ?_ (fun _=>?_)|refine Cmp.lp 12 (fun _=>?_) _|refine Cmp.ite _ ?_ ?_|refine Cmp.map _ ?_)
 all_goals exact Cmp.self _
def zJr:∀x,Cmp (uG x):=by
 rintro⟨a,c,⟨⟩⟩
 delta uG
 dsimp only
 repeat' (with_reducible first|exact zMF _|refine Cmp.bnd ?_ (fun _=>?_)|refine Cmp.cnd _ ?_ ?_|refine Cmp.ct ?_ (fun _=>?_)|refine Cmp.lp 12 (fun _=>?_) _|refine Cmp.ite _ ?_ ?_|refine Cmp.map _ ?_)
 all_goals exact Cmp.self _
def zHs:∀x,Cmp (zAw x):=by
 rintro⟨a,c,d,⟨⟩⟩
 delta zAw
 dsimp only
 repeat' (with_reducible first|exact zJr _|refine Cmp.bnd ?_ (fun _=>?_)|refine Cmp.cnd _ ?_ ?_|refine Cmp.ct ?_ (fun _=>?_)|refine Cmp.lp 12 (fun _=>?_) _|refine Cmp.ite _ ?_ ?_|refine Cmp.map _ ?_)
 all_goals exact Cmp.self _
def zGo:∀x,Cmp (uO x):=by
 rintro⟨a,c,⟨⟩⟩
 delta uO
 dsimp only
 repeat' (with_reducible first|refine Cmp.bnd ?_ (fun _=>?_)|refine Cmp.cnd _ ?_ ?_|refine Cmp.ct ?_ (fun _=>?_)|refine Cmp.lp 12 (fun _=>?_) _|refine Cmp.ite _ ?_ ?_|refine Cmp.map _ ?_)
 all_goals exact Cmp.self _
def zDT:∀x,Cmp (vZ x):=by
 rintro⟨a,c,⟨⟩⟩
 delta vZ
 dsimp only
 repeat' (with_reducible first|exact zGo _|refine Cmp.bnd ?_ (fun _=>?_)|refine Cmp.cnd _ ?_ ?_|refine Cmp.ct ?_ (fun _=>?_)|refine Cmp.lp 12 (fun _=>?_) _|refine Cmp.ite _ ?_ ?_|refine Cmp.map _ ?_)
 all_goals exact Cmp.self _
def zX1:∀x,Cmp (zFN x):=by
 rintro⟨a,c,d,⟨⟩⟩
 delta zFN
 dsimp only
 repeat' (with_reducible first|exact zGo _|exact zHs _|refine Cmp.bnd ?_ (fun _=>?_)|refine Cmp.cnd _ ?_ ?_|refine Cmp.ct ?_ (fun _=>?_)|refine Cmp.lp 12 (fun _=>?_) _|refine Cmp.ite _ ?_ ?_|refine Cmp.map _ ?_)
 all_goals exact Cmp.self _
def zPj:∀x,Cmp (zGK x):=by
 rintro⟨a,c,d,⟨⟩⟩
 delta zGK
 dsimp only
 repeat' (with_reducible first|exact zX1 _|exact zDT _|exact zHs _|refine Cmp.bnd ?_ (fun _=>?_)|refine Cmp.cnd _ ?_ ?_|refine Cmp.ct ?_ (fun _=>?_)|refine Cmp.lp 12 (fun _=>?_) _|refine Cmp.ite _ ?_ ?_|refine Cmp.map _ ?_)
 all_goals exact Cmp.self _
def zPk:∀x,Cmp (zAe x):=by
 rintro⟨a,c,d,⟨⟩⟩
 delta zAe
 dsimp only
 repeat' (with_reducible first|exact zPj _|exact zHs _|refine Cmp.bnd ?_ (fun _=>?_)|refine Cmp.cnd _ ?_ ?_|refine Cmp.ct ?_ (fun _=>?_)|refine Cmp.lp 12 (fun _=>?_) _|refine Cmp.ite _ ?_ ?_|refine Cmp.map _ ?_)
 all_goals exact Cmp.self _
def zCG:∀x,Cmp (vI x):=by
 rintro⟨a,c,d,⟨⟩⟩
 delta vI
 dsimp only
 repeat' (with_reducible first|refine Cmp.bnd ?_ (fun _=>?_)|refine Cmp.cnd _ ?_ ?_|refine Cmp.ct ?_ (fun _=>?_)|refine Cmp.lp 12 (fun _=>?_) _|refine Cmp.ite _ ?_ ?_|refine Cmp.map _ ?_)
 all_goals exact Cmp.self _
def zAY:∀x,Cmp (wC x):=by
 rintro⟨a,c,d,e,⟨⟩⟩
 delta wC
 dsimp only
 repeat' (with_reducible first|exact zCG _|exact zPj _|refine Cmp.bnd ?_ (fun _=>?_)|refine Cmp.cnd _ ?_ ?_|refine Cmp.ct ?_ (fun _=>?_)|refine Cmp.lp 12 (fun _=>?_) _|refine Cmp.ite _ ?_ ?_|refine Cmp.map _ ?_)
 all_goals exact Cmp.self _
def zOb:∀x,Cmp (jD x):=by
 rintro⟨a,c,⟨⟩⟩
 delta jD
 dsimp only
 repeat' (with_reducible first|exact zAY _|exact zCG _|exact zPk _|refine Cmp.bnd ?_ (fun _=>?_)|refine Cmp.cnd _ ?_ ?_|refine Cmp.ct ?_ (fun _=>?_)|refine Cmp.lp 12 (fun _=>?_) _|refine Cmp.ite _ ?_ ?_|refine Cmp.map _ ?_)
 all_goals exact Cmp.self _
def zP1:∀x,Cmp (zDY x):=by
 rintro⟨a,⟨⟩⟩
 delta zDY
 dsimp only
 repeat' (with_reducible first|refine Cmp.bnd ?_ (fun _=>?_)|refine Cmp.cnd _ ?_ ?_|refine Cmp.ct ?_ (fun _=>?_)|refine Cmp.lp 12 (fun _=>?_) _|refine Cmp.ite _ ?_ ?_|refine Cmp.map _ ?_)
 all_goals exact Cmp.self _
def zOa:∀x,Cmp (yQ x):=by
 rintro⟨a,c,⟨⟩⟩
 delta yQ
 dsimp only
 repeat' (with_reducible first|refine Cmp.bnd ?_ (fun _=>?_)|refine Cmp.cnd _ ?_ ?_|refine Cmp.ct ?_ (fun _=>?_)|refine Cmp.lp 12 (fun _=>?_) _|refine Cmp.ite _ ?_ ?_|refine Cmp.map _ ?_)
 all_goals exact Cmp.self _
def zI8:∀x,Cmp (jH x):=by
 rintro⟨a,c,d,⟨⟩⟩
 delta jH
 dsimp only
 repeat' (with_reducible first|exact zOa _|exact zP1 _|refine Cmp.bnd ?_ (fun _=>?_)|refine Cmp.cnd _ ?_ ?_|refine Cmp.ct ?_ (fun _=>?_)|refine Cmp.lp 12 (fun _=>?_) _|refine Cmp.ite _ ?_ ?_|refine Cmp.map _ ?_)
 all_goals exact Cmp.self _
end
end Go.Ve
namespace Go.Ve
open Go Go.Proofs
def ifL(c:ByteArray)(a:Int):Ty.El z6:=(c,a,24,0,false,I,0,10,false,⟨#[]⟩,⟨#[]⟩,0,())
def rtL(c:ByteArray)(a:List (Ty.El z6)):Ty.El zG:=(c,0,a,[],[],[],[],[],(I,110,[],[],()),(false,0,⟨#[]⟩,⟨#[]⟩,[],()),(false,0,0,[],[],[],[],[],()),())
def zZa:Ty.El zI:=([rtL ⟨#[97]⟩ [ifL ⟨#[101,48]⟩ 167772161],rtL ⟨#[98]⟩ [ifL ⟨#[101,48]⟩ 167772162,ifL ⟨#[101,49]⟩ 167772418],rtL ⟨#[99]⟩ [ifL ⟨#[101,48]⟩ 167772419,ifL ⟨#[101,49]⟩ 167772675]],())
def zYx:Ty.El zLk:=([((167772160,24,()),0,[(0,0,()),(1,0,())],()),((167772416,24,()),0,[(1,1,()),(2,0,())],()),((167772672,24,()),0,[(2,1,())],())],[0,1],())
def xR:Ty.El zF:=(zZa,zYx,[],())
def qFO:List (Ty.El qD):=[(0,1,10,(0,167772162,()),()),(1,0,10,(0,167772161,()),()),(1,2,10,(1,167772419,()),()),(2,1,10,(0,167772418,()),())]
end Go.Ve
namespace Go.Ve
noncomputable section
open Go Go.Proofs
def qEF:List (Ty.El zC)->Bool
 |[]=>I
 |x::r=>decide (x.2.1=(3:Int))&&(decide (List.length x.2.2.2.2.2.2.2.2.1<=1048576)&&(decide (List.length x.2.2.2.2.2.2.2.2.2.2.2.1<=1048576)&&qEF r))
theorem zYj:∀{l:List (Ty.El zC)},qEF l=I->∀x,x∈l->x.2.1=(3:Int)/\RtS x
 |y::r,h,x,a=>by
  simp only[qEF,am]at h;rcases bi.1 a with rfl|a
  .exact⟨of_decide_eq_true h.1,⟨of_decide_eq_true h.2.1,of_decide_eq_true h.2.2.1⟩⟩
  .exact zYj h.2.2.2 x a
def zTv:∀x,Cmp (zCx x):=by
 rintro⟨l,⟨⟩⟩;refine⟨bif decide (l.length<=524288)&&qEF l then J (zBY l)else none,fun r c=>?_⟩
 cases a:(decide (l.length<=524288)&&qEF l)with
 |false=>rw[a]at c;cases c
 |true=>rw[a]at c;rw[am]at a;have d:=zYj a.2;have:=vB (zD0 l (of_decide_eq_true a.1) (fun x e=>(d x e).2) (fun x y e f=>zCh x y (d x e).1 (d y f).1));rw[this];exact c
def qGy{α:Type}:List α->Option (List α)
 |[]=>J []
 |[x]=>J [x]
 |_=>none
theorem zRp{xs l:List (Ty.El zQ)}(h:qGy xs=J l):Aa (jG xs ((),())) (fun y=>jB y.1 ())=J l:=by
 have c:xs.length<1099511627776/\l=xs/\(xs=[]\/∃x,xs=[x]):=by
  match xs,h with
  |[],h=>cases h;exact⟨by decide,rfl,.inl rfl⟩
  |[x],h=>cases h;exact⟨by simp,rfl,.inr ⟨x,rfl⟩⟩
 obtain⟨z,f,d⟩:=zQR xs c.1;rw[f];congr 1;rw[c.2.1];rcases c.2.2 with rfl|⟨x,rfl⟩
 .exact bD.2 (fun y g=>by have:=(d.2.2 y).1 g;cases this)
 .have e:=(d.2.2 x).2 (by simp);have a:=d.2.1
  match z,e,a with
  |[y],e,_=>rw[aM.1 e]
  |_::_::_,_,a=>simp at a
def zG5:∀x,Cmp (xE x):=by
 rintro⟨a,b,⟨⟩⟩;refine⟨bif decide ((a++b).length<=1048576)then qGy (a++b)else none,fun r d=>?_⟩
 cases c:decide ((a++b).length<=1048576)with
 |false=>rw[c]at d;cases d
 |true=>rw[c]at d;have c:=of_decide_eq_true c;rw[aN]at c;obtain⟨z,h,e⟩:=zLX a b (by omega) (by omega);have f:=zRp d;obtain⟨w,i,g⟩:=zQR (a++b) (by rw[aN];omega);rw[i]at f;cases f;rw[h];congr 1;exact zD2 zGX e.1 g.1 (fun x=>by rw[e.2.2,g.2.2])
def qGY(xs:List (Ty.El zQ)):Cmp (Aa (uA xs ((),())) (fun y=>jB y.1 ())):=⟨qGy xs,fun _ h=>zRp h⟩
def zX2(n:Int)(es:List (Ty.El qD))(r:Int):Cmp (zHq n es r):=by
 delta zHq
 exact Cmp.bnd (zI8 _) (fun _=>Cmp.self _)
def zZT:∀x,Cmp (zCY x):=by
 rintro⟨a,c,d,⟨⟩⟩
 delta zCY
 dsimp only;exact Cmp.bnd (zP1 _) (fun _=>Cmp.ite _ (Cmp.self _) (Cmp.bnd (zX2 _ _ _) (fun _=>Cmp.bnd (Cmp.mo (fun _=>Cmp.bnd (zOa _) (fun _=>Cmp.cnd _ (Cmp.map _ (zX2 _ _ _)) (Cmp.self _))) _) (fun _=>Cmp.mo (fun _=>qGY _) _))))
def uE:∀x,Cmp (qC x):=by
 rintro⟨a,c,d,e,⟨⟩⟩
 delta qC
 dsimp only;exact Cmp.bnd (Cmp.self _) (fun _=>Cmp.bnd (Cmp.self _) (fun _=>Cmp.cnd _ (Cmp.bnd (zZT _) (fun _=>Cmp.self _)) (Cmp.self _)))
def zSI:∀x,Cmp (zBM x):=by rintro⟨a,l,⟨⟩⟩;exact⟨J (kX a l),fun r c=>by rw[xI];exact c⟩
def zLC:∀x,Cmp (zCI x):=by rintro⟨p,q,⟨⟩⟩;exact⟨J (zVL p q),fun r a=>by rw[zD1];exact a⟩
def zLg:∀x,Cmp (u4 x):=by
 rintro⟨a,c,⟨⟩⟩
 delta u4
 dsimp only
 repeat' (with_reducible first|refine Cmp.bnd ?_ (fun _=>?_)|refine Cmp.cnd _ ?_ ?_|refine Cmp.ct ?_ (fun _=>?_)|refine Cmp.lp 12 (fun _=>?_) _|refine Cmp.ite _ ?_ ?_|refine Cmp.map _ ?_|refine Cmp.mo (fun _=>?_) _)
 all_goals exact Cmp.self _
def zEK:∀x,Cmp (vM x):=by
 rintro⟨a,⟨c,⟨⟩⟩,⟨⟩⟩
 delta vM
 dsimp only
 repeat' (with_reducible first|exact zLg _|refine Cmp.bnd ?_ (fun _=>?_)|refine Cmp.cnd _ ?_ ?_|refine Cmp.ct ?_ (fun _=>?_)|refine Cmp.lp 12 (fun _=>?_) _|refine Cmp.ite _ ?_ ?_|refine Cmp.map _ ?_|refine Cmp.mo (fun _=>?_) _)
 all_goals exact Cmp.self _
def zEf:∀x,Cmp (vE x):=by
 rintro⟨a,c,⟨⟩⟩
 delta vE
 dsimp only
 repeat' (with_reducible first|exact zEK _|refine Cmp.bnd ?_ (fun _=>?_)|refine Cmp.cnd _ ?_ ?_|refine Cmp.ct ?_ (fun _=>?_)|refine Cmp.lp 12 (fun _=>?_) _|refine Cmp.ite _ ?_ ?_|refine Cmp.map _ ?_|refine Cmp.mo (fun _=>?_) _)
 all_goals exact Cmp.self _
def zBx:∀a0 x,Cmp (jC a0 x):=by
 rintro a0 ⟨a,⟨⟩⟩
 delta jC
 dsimp only
 repeat' (with_reducible first|exact zEf _|refine Cmp.bnd ?_ (fun _=>?_)|refine Cmp.cnd _ ?_ ?_|refine Cmp.ct ?_ (fun _=>?_)|refine Cmp.lp 12 (fun _=>?_) _|refine Cmp.ite _ ?_ ?_|refine Cmp.map _ ?_|refine Cmp.mo (fun _=>?_) _)
 all_goals exact Cmp.self _
def qT:∀x,Cmp (zW x):=by
 rintro⟨a,c,d,⟨⟩⟩
 delta zW
 dsimp only
 repeat' (with_reducible first|refine Cmp.bnd ?_ (fun _=>?_)|refine Cmp.cnd _ ?_ ?_|refine Cmp.ct ?_ (fun _=>?_)|refine Cmp.lp 12 (fun _=>?_) _|refine Cmp.ite _ ?_ ?_|refine Cmp.map _ ?_|refine Cmp.mo (fun _=>?_) _)
 all_goals exact Cmp.self _
def uL:∀x,Cmp (jA x):=by
 rintro⟨a,c,d,⟨⟩⟩
 delta jA
 dsimp only
 repeat' (with_reducible first|exact qT _|exact zBx _ _|refine Cmp.bnd ?_ (fun _=>?_)|refine Cmp.cnd _ ?_ ?_|refine Cmp.ct ?_ (fun _=>?_)|refine Cmp.lp 12 (fun _=>?_) _|refine Cmp.ite _ ?_ ?_|refine Cmp.map _ ?_|refine Cmp.mo (fun _=>?_) _)
 all_goals exact Cmp.self _
def yA:∀x,Cmp (qO x):=by
 rintro⟨a,c,d,⟨⟩⟩
 delta qO
 dsimp only
 repeat' (with_reducible first|exact zPj _|exact zSI _|refine Cmp.bnd ?_ (fun _=>?_)|refine Cmp.cnd _ ?_ ?_|refine Cmp.ct ?_ (fun _=>?_)|refine Cmp.lp 12 (fun _=>?_) _|refine Cmp.ite _ ?_ ?_|refine Cmp.map _ ?_|refine Cmp.mo (fun _=>?_) _)
 all_goals exact Cmp.self _
def kS:∀x,Cmp (qE x):=by
 rintro⟨a,c,d,e,⟨⟩⟩
 delta qE
 dsimp only
 repeat' (with_reducible first|refine Cmp.bnd ?_ (fun _=>?_)|refine Cmp.cnd _ ?_ ?_|refine Cmp.ct ?_ (fun _=>?_)|refine Cmp.lp 12 (fun _=>?_) _|refine Cmp.ite _ ?_ ?_|refine Cmp.map _ ?_|refine Cmp.mo (fun _=>?_) _)
 all_goals exact Cmp.self _
def zGE:∀x,Cmp (vO x):=by
 rintro⟨a,c,⟨⟩⟩
 delta vO
 dsimp only
 repeat' (with_reducible first|exact kS _|exact yA _|exact uL _|exact qT _|exact zG5 _|exact uE _|refine Cmp.bnd ?_ (fun _=>?_)|refine Cmp.cnd _ ?_ ?_|refine Cmp.ct ?_ (fun _=>?_)|refine Cmp.lp 12 (fun _=>?_) _|refine Cmp.ite _ ?_ ?_|refine Cmp.map _ ?_|refine Cmp.mo (fun _=>?_) _)
 all_goals exact Cmp.self _
def zB6:∀x,Cmp (wY x):=by
 rintro⟨a,c,⟨⟩⟩
 delta wY
 dsimp only
 repeat' (with_reducible first|refine Cmp.bnd ?_ (fun _=>?_)|refine Cmp.cnd _ ?_ ?_|refine Cmp.ct ?_ (fun _=>?_)|refine Cmp.lp 12 (fun _=>?_) _|refine Cmp.ite _ ?_ ?_|refine Cmp.map _ ?_|refine Cmp.mo (fun _=>?_) _)
 all_goals exact Cmp.self _
def zDt:∀x,Cmp (vU x):=by
 rintro⟨a,c,d,⟨⟩⟩
 delta vU
 dsimp only
 repeat' (with_reducible first|exact zB6 _|refine Cmp.bnd ?_ (fun _=>?_)|refine Cmp.cnd _ ?_ ?_|refine Cmp.ct ?_ (fun _=>?_)|refine Cmp.lp 12 (fun _=>?_) _|refine Cmp.ite _ ?_ ?_|refine Cmp.map _ ?_|refine Cmp.mo (fun _=>?_) _)
 all_goals exact Cmp.self _
def yX:∀x,Cmp (jI x):=by
 rintro⟨a,c,⟨⟩⟩
 delta jI
 dsimp only
 repeat' (with_reducible first|exact zDt _|refine Cmp.bnd ?_ (fun _=>?_)|refine Cmp.cnd _ ?_ ?_|refine Cmp.ct ?_ (fun _=>?_)|refine Cmp.lp 12 (fun _=>?_) _|refine Cmp.ite _ ?_ ?_|refine Cmp.map _ ?_|refine Cmp.mo (fun _=>?_) _)
 all_goals exact Cmp.self _
def zDI:∀x,Cmp (qW x):=by
 rintro⟨a,c,⟨⟩⟩
 delta qW
 dsimp only
 repeat' (with_reducible first|exact zLC _|refine Cmp.bnd ?_ (fun _=>?_)|refine Cmp.cnd _ ?_ ?_|refine Cmp.ct ?_ (fun _=>?_)|refine Cmp.lp 12 (fun _=>?_) _|refine Cmp.ite _ ?_ ?_|refine Cmp.map _ ?_|refine Cmp.mo (fun _=>?_) _)
 all_goals exact Cmp.self _
def zDr:∀x,Cmp (wD x):=by
 rintro⟨a,⟨c,⟨⟩⟩,⟨⟩⟩
 delta wD
 dsimp only
 repeat' (with_reducible first|exact zDI _|refine Cmp.bnd ?_ (fun _=>?_)|refine Cmp.cnd _ ?_ ?_|refine Cmp.ct ?_ (fun _=>?_)|refine Cmp.lp 12 (fun _=>?_) _|refine Cmp.ite _ ?_ ?_|refine Cmp.map _ ?_|refine Cmp.mo (fun _=>?_) _)
 all_goals exact Cmp.self _
def zDs:∀x,Cmp (jL x):=by
 rintro⟨a,⟨c,⟨⟩⟩,⟨⟩⟩
 delta jL
 dsimp only
 repeat' (with_reducible first|exact zDr _|refine Cmp.bnd ?_ (fun _=>?_)|refine Cmp.cnd _ ?_ ?_|refine Cmp.ct ?_ (fun _=>?_)|refine Cmp.lp 12 (fun _=>?_) _|refine Cmp.ite _ ?_ ?_|refine Cmp.map _ ?_|refine Cmp.mo (fun _=>?_) _)
 all_goals exact Cmp.self _
def zDH:∀x,Cmp (jP x):=by
 rintro⟨a,c,⟨⟩⟩
 delta jP
 dsimp only
 repeat' (with_reducible first|refine Cmp.bnd ?_ (fun _=>?_)|refine Cmp.cnd _ ?_ ?_|refine Cmp.ct ?_ (fun _=>?_)|refine Cmp.lp 12 (fun _=>?_) _|refine Cmp.ite _ ?_ ?_|refine Cmp.map _ ?_|refine Cmp.mo (fun _=>?_) _)
 all_goals exact Cmp.self _
def zHt:∀x,Cmp (uB x):=by
 rintro⟨a,⟨c,⟨⟩⟩,⟨⟩⟩
 delta uB
 dsimp only
 repeat' (with_reducible first|exact zDH _|refine Cmp.bnd ?_ (fun _=>?_)|refine Cmp.cnd _ ?_ ?_|refine Cmp.ct ?_ (fun _=>?_)|refine Cmp.lp 12 (fun _=>?_) _|refine Cmp.ite _ ?_ ?_|refine Cmp.map _ ?_|refine Cmp.mo (fun _=>?_) _)
 all_goals exact Cmp.self _
def zFF:∀x,Cmp (wN x):=by
 rintro⟨a,⟨c,⟨⟩⟩,⟨⟩⟩
 delta wN
 dsimp only
 repeat' (with_reducible first|exact zHt _|refine Cmp.bnd ?_ (fun _=>?_)|refine Cmp.cnd _ ?_ ?_|refine Cmp.ct ?_ (fun _=>?_)|refine Cmp.lp 12 (fun _=>?_) _|refine Cmp.ite _ ?_ ?_|refine Cmp.map _ ?_|refine Cmp.mo (fun _=>?_) _)
 all_goals exact Cmp.self _
def zE6:∀x,Cmp (wF x):=by
 rintro⟨a,c,d,⟨⟩⟩
 delta wF
 dsimp only
 repeat' (with_reducible first|exact zFF _|exact zDs _|exact yX _|exact zB6 _|exact kS _|exact yA _|exact uL _|refine Cmp.bnd ?_ (fun _=>?_)|refine Cmp.cnd _ ?_ ?_|refine Cmp.ct ?_ (fun _=>?_)|refine Cmp.lp 12 (fun _=>?_) _|refine Cmp.ite _ ?_ ?_|refine Cmp.map _ ?_|refine Cmp.mo (fun _=>?_) _)
 all_goals exact Cmp.self _
def zA9:∀x,Cmp (jU x):=by
 rintro⟨a,c,d,e,⟨⟩⟩
 delta jU
 dsimp only
 repeat' (with_reducible first|exact zDt _|exact qT _|refine Cmp.bnd ?_ (fun _=>?_)|refine Cmp.cnd _ ?_ ?_|refine Cmp.ct ?_ (fun _=>?_)|refine Cmp.lp 12 (fun _=>?_) _|refine Cmp.ite _ ?_ ?_|refine Cmp.map _ ?_|refine Cmp.mo (fun _=>?_) _)
 all_goals exact Cmp.self _
def zE7:∀x,Cmp (wG x):=by
 rintro⟨a,c,d,e,⟨⟩⟩
 delta wG
 dsimp only
 repeat' (with_reducible first|exact zLC _|refine Cmp.bnd ?_ (fun _=>?_)|refine Cmp.cnd _ ?_ ?_|refine Cmp.ct ?_ (fun _=>?_)|refine Cmp.lp 12 (fun _=>?_) _|refine Cmp.ite _ ?_ ?_|refine Cmp.map _ ?_|refine Cmp.mo (fun _=>?_) _)
 all_goals exact Cmp.self _
def zFG:∀x,Cmp (wO x):=by
 rintro⟨a,c,d,⟨⟩⟩
 delta wO
 dsimp only
 repeat' (with_reducible first|exact zE7 _|exact uL _|exact zBx _ _|exact zEf _|refine Cmp.bnd ?_ (fun _=>?_)|refine Cmp.cnd _ ?_ ?_|refine Cmp.ct ?_ (fun _=>?_)|refine Cmp.lp 12 (fun _=>?_) _|refine Cmp.ite _ ?_ ?_|refine Cmp.map _ ?_|refine Cmp.mo (fun _=>?_) _)
 all_goals exact Cmp.self _
def zFJ:∀x,Cmp (wT x):=by
 rintro⟨a,c,d,⟨⟩⟩
 delta wT
 dsimp only
 repeat' (with_reducible first|exact uL _|exact zEf _|refine Cmp.bnd ?_ (fun _=>?_)|refine Cmp.cnd _ ?_ ?_|refine Cmp.ct ?_ (fun _=>?_)|refine Cmp.lp 12 (fun _=>?_) _|refine Cmp.ite _ ?_ ?_|refine Cmp.map _ ?_|refine Cmp.mo (fun _=>?_) _)
 all_goals exact Cmp.self _
def zDJ{qF:ElS [(.pt qL),tI]->Option (RTy.El (.o zC))}(a:∀x,Cmp (qF x)):∀x,Cmp (jQ qF x):=by
 rintro⟨c,d,e,⟨⟩⟩
 delta jQ
 dsimp only
 repeat' (with_reducible first|exact zFJ _|exact zFG _|exact zBx _ _|exact a _|refine Cmp.bnd ?_ (fun _=>?_)|refine Cmp.cnd _ ?_ ?_|refine Cmp.ct ?_ (fun _=>?_)|refine Cmp.lp 12 (fun _=>?_) _|refine Cmp.ite _ ?_ ?_|refine Cmp.map _ ?_|refine Cmp.mo (fun _=>?_) _)
 all_goals exact Cmp.self _
def zFI{linkstate_areaSet_announced:ElS [(.pt qL),tI,(.pt qN)]->Option (RTy.El (.p (.sl zL)))}(a:∀x,Cmp (linkstate_areaSet_announced x)):∀x,Cmp (wS linkstate_areaSet_announced x):=by
 rintro⟨c,d,⟨⟩⟩
 delta wS
 dsimp only
 repeat' (with_reducible first|exact zA9 _|exact yX _|exact kS _|exact yA _|exact qT _|exact uE _|exact a _|refine Cmp.bnd ?_ (fun _=>?_)|refine Cmp.cnd _ ?_ ?_|refine Cmp.ct ?_ (fun _=>?_)|refine Cmp.lp 12 (fun _=>?_) _|refine Cmp.ite _ ?_ ?_|refine Cmp.map _ ?_|refine Cmp.mo (fun _=>?_) _)
 all_goals exact Cmp.self _
def zEg{linkstate_areaSet_inter:ElS [(.pt qL),tI]->Option (RTy.El (.p (.sl zC)))}(a:∀x,Cmp (linkstate_areaSet_inter x)):∀x,Cmp (jZ linkstate_areaSet_inter x):=by
 rintro⟨c,d,⟨⟩⟩
 delta jZ
 dsimp only
 repeat' (with_reducible first|exact zE6 _|exact zGE _|exact zTv _|exact a _|refine Cmp.bnd ?_ (fun _=>?_)|refine Cmp.cnd _ ?_ ?_|refine Cmp.ct ?_ (fun _=>?_)|refine Cmp.lp 12 (fun _=>?_) _|refine Cmp.ite _ ?_ ?_|refine Cmp.map _ ?_|refine Cmp.mo (fun _=>?_) _)
 all_goals exact Cmp.self _
def zEL:∀a0 x,Cmp (kF a0 x):=by
 rintro a0 ⟨a,c,⟨⟩⟩
 delta kF
 dsimp only
 repeat' (with_reducible first|exact zG5 _|refine Cmp.bnd ?_ (fun _=>?_)|refine Cmp.cnd _ ?_ ?_|refine Cmp.ct ?_ (fun _=>?_)|refine Cmp.lp 12 (fun _=>?_) _|refine Cmp.ite _ ?_ ?_|refine Cmp.map _ ?_|refine Cmp.mo (fun _=>?_) _)
 all_goals exact Cmp.self _
def zE5{qM:ElS [(.pt qL),tI,tI]->Option (RTy.El (.tu [tI,(.sl zQ),.bool]))}(a:∀x,Cmp (qM x)):∀x,Cmp (wE qM x):=by
 rintro⟨c,d,e,f,⟨⟩⟩
 delta wE
 dsimp only
 repeat' (with_reducible first|exact qT _|exact a _|refine Cmp.bnd ?_ (fun _=>?_)|refine Cmp.cnd _ ?_ ?_|refine Cmp.ct ?_ (fun _=>?_)|refine Cmp.lp 12 (fun _=>?_) _|refine Cmp.ite _ ?_ ?_|refine Cmp.map _ ?_|refine Cmp.mo (fun _=>?_) _)
 all_goals exact Cmp.self _
def zDG{linkstate_areaSet_onward:ElS [(.pt qL),tI,(.pt qN),tI]->Option (RTy.El (.p tI))}(a:∀x,Cmp (linkstate_areaSet_onward x)):∀a0 x,Cmp (jO linkstate_areaSet_onward a0 x):=by
 rintro a0 ⟨c,d,e,⟨⟩⟩
 delta jO
 dsimp only
 repeat' (with_reducible first|exact zEL _ _|exact zA9 _|exact yX _|exact qT _|exact uE _|exact a _|refine Cmp.bnd ?_ (fun _=>?_)|refine Cmp.cnd _ ?_ ?_|refine Cmp.ct ?_ (fun _=>?_)|refine Cmp.lp 12 (fun _=>?_) _|refine Cmp.ite _ ?_ ?_|refine Cmp.map _ ?_|refine Cmp.mo (fun _=>?_) _)
 all_goals exact Cmp.self _
def zFH{linkstate_areaSet_reachOver:Ty.El wA->ElA [.d (.pt qL),.d tI,.d tI]->Option (Ty.El wA×RTy.El (.tu []))}(a:∀a0 x,Cmp (linkstate_areaSet_reachOver a0 x)):∀x,Cmp (wR linkstate_areaSet_reachOver x):=by
 rintro⟨c,e,f,⟨⟩⟩
 delta wR
 dsimp only
 repeat' (with_reducible first|exact zEL _ _|exact qT _|exact uE _|exact a _ _|refine Cmp.bnd ?_ (fun _=>?_)|refine Cmp.cnd _ ?_ ?_|refine Cmp.ct ?_ (fun _=>?_)|refine Cmp.lp 12 (fun _=>?_) _|refine Cmp.ite _ ?_ ?_|refine Cmp.map _ ?_|refine Cmp.mo (fun _=>?_) _)
 all_goals exact Cmp.self _
def zOd:∀n x,Cmp (jX n x)
 |0,_=>Cmp.self _
 |n+1,x=>zEg (zFI (zDJ (zOd n))) x
def zUz:∀n x,Cmp (wP n x)
 |0,_=>Cmp.self _
 |n+1,x=>zFH (zDG (zE5 (zUz n))) x
def p16(r a:Int):Ty.El zJv:=(r,(a,24,()),10,())
def d16(r q:Nat):Int:=((([[0,10,20],[10,0,10],[20,10,0]]:List (List Int)).getD r []).getD q (-1))
def qEA:Ty.El qN:=(0,[p16 0 167772160,p16 1 167772160,p16 1 167772416,p16 2 167772416,p16 2 167772672],qFO,b8 (fun r=>decide (r<3)),i88 d16,())
def qCW:Option (Nat×Ty.El qL):=some (3,(xR,3,[J (19,qEA)],()))
def qG9(a m:Int):Ty.El zC:=((a,24,()),3,1,110,m,0,0,0,[],0,0,[(0,167772162,())],false,())
def l16:List (Ty.El zC):=[qG9 167772416 20,qG9 167772672 30]
theorem zZe:qF (qCW,0,())=J l16:=(zOd 4 _).le _ (by kernel_rfl)
theorem qFi:qM (qCW,0,2,())=J (20,[(0,167772162,())],I,()):=(zUz 4 _).le _ (by kernel_rfl)
def qFS(v:Ty.El zF)(n:Nat):Cmp (zPw v n):=by
 delta zPw
 refine Cmp.mo (fun r=>?_) _;refine Cmp.mo (fun i=>?_) _;generalize (wH ((zV v).getD r default))[i]?=o
 cases o with
 |none=>exact Cmp.self _
 |some x=>exact zAY _
def qEt(v:Ty.El zF)(n:Nat)(a:AR):Cmp (zDv v n a):=by
 delta zDv
 exact Cmp.bnd (zOb _) (fun _=>Cmp.bnd (Cmp.mo (fun _=>Cmp.ite _ (Cmp.bnd (zI8 _) (fun _=>Cmp.self _)) (Cmp.self _)) _) (fun _=>Cmp.self _))
def qCH:List (List Bool):=[[I],[I,I],[I,I]]
theorem qEY:zPw xR 3=J qCH:=(qFS _ _).le _ (by kernel_rfl)
def zYP:List AR:=qV (fun r i=>(qCH.getD r []).getD i false) zNB ((zV xR).map wH) 3
def qG0:AR:=zYP.headD ⟨0,[],fun _=>false⟩
theorem qE9:zYP=[qG0]:=by kernel_rfl
theorem qHq:zSK xR 3 qCH=[qG0]:=by show zCr zYP=_;rw[qE9];exact List.mergeSort_singleton _
theorem qF1:zDv xR 3 qG0=J qEA:=(qEt _ _ _).le _ (by kernel_rfl)
theorem qCT:(zD8 xR).map (fun s=>(J s:Option (Nat×Ty.El qL)))=J qCW:=by have h:zD8 xR=Aa (zPw xR 3) (fun c=>Aa (zCn (zDv xR 3) (zSK xR 3 c)) fun d=>J (3,xR,((3:Nat):Int),d.zipIdx.map (fun a=>J (16*(a.2+1)+3,a.1)),())):=rfl;rw[h,qEY,af,qHq];simp only[zCn,qF1];rfl
theorem zS7:zCp (xR,0,())=J l16:=by
 obtain⟨s,d,e⟩:=ak.1 qCT;have h:zCp (xR,0,())=((Aa ((zD8 xR).map (fun s=>(I,J s))) fun(a:Bool×Option (Nat×Ty.El qL))=>Aa (jY a.1 (a.2,0,())) fun(c:Bool×List (Ty.El zC))=>J (c.1,c.2))).map Prod.snd:=rfl;rw[h,d];have f:jY I (J s,0,())=J (I,l16):=by show(qF (J s,0,())).map _=_;rw[e,zZe];rfl
 show(Aa (jY I (J s,0,())) _).map _=_;rw[f];rfl
theorem zYY:xF (xR,0,2,())=J (20,[(0,167772162,())],I,()):=by
 obtain⟨s,d,e⟩:=ak.1 qCT
 have h : xF (xR, 0, 2, ()) = ((Aa ((zD8 xR).map (fun s =>(I, J s))) fun(c : Bool × Option (Nat × Ty.El qL)) => Aa (wQ c.1 (c.2, 0, 2, ())) fun(a : Bool × Int × List (Ty.El zQ) × Bool × Unit) =>
      J (a.1,a.2.1,a.2.2.1,a.2.2.2.1,()))).map Prod.snd:=rfl
 rw[h,d];have f:wQ I (J s,0,2,())=J (I,20,[(0,167772162,())],I,()):=by show(qM (J s,0,2,())).map _=_;rw[e,qFi];rfl
 show(Aa (wQ I (J s,0,2,())) _).map _=_;rw[f];rfl
end
end Go.Ve
