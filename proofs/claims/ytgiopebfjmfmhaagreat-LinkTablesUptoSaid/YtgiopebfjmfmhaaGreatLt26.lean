/- law16 -/
import Derived.KernelRfl
import Derived.Test.YtgiopebfjmfmhaaGreatLt25
import Derived.Test.YtgiopebfjmfmhaaGreatLt23
set_option linter.unusedVariables false
open Option renaming some->J
open Bool renaming true->I
open Option renaming bind->Aa
set_option maxRecDepth 1000000
set_option maxHeartbeats 4000000
namespace Go.Ve
open Go Go.Proofs
structure Cmp{α:Type}(b:Option α) where
 c:Option α
 le:∀r,c=J r->b=J r
section
variable {α β σ ρ:Type}
def Cmp.self(b:Option α):Cmp b:=⟨b,fun _ h=>h⟩
def Cmp.bnd{m:Option α}{f:α->Option β}(h:Cmp m)(k:∀y,Cmp (f y)):Cmp (Aa m f):=
 ⟨match h.c with
  |some y=>(k y).c
  |none=>none,fun r hr=>by
  grind[le]⟩
def Cmp.cnd{x y:Option α}(b:Bool)(h:Cmp x)(k:Cmp y):Cmp (bif b then x else y):=
 ⟨match b with
  |true=>h.c
  |false=>k.c,fun r hr=>by
  cases b with
  |true=>exact h.le r hr
  |false=>exact k.le r hr⟩
def Cmp.ite{x y:Option α}(p:Prop)[Decidable p](h:Cmp x)(k:Cmp y):Cmp (if p then x else y):=
 ⟨if p then h.c else k.c,fun r hr=>by
  by_cases hp:p
  .rw[if_pos hp]at hr ⊢;exact h.le r hr
  .rw[if_neg hp]at hr ⊢;exact k.le r hr⟩
def Cmp.map{m:Option α}(f:α->β)(h:Cmp m):Cmp (Option.map f m):=
 ⟨h.c.map f,fun r hr=>by
  cases a:h.c with
  |none=>grind
  |some y=>rw[a]at hr;rw[h.le y a];exact hr⟩
theorem zX3{f g:σ->Option (σ ⊕ ρ)}(h:∀s r,f s=J r->g s=J r):∀(n:Nat) (s:σ) (r:ρ),zDp f n s=J r->zDp g n s=J r
 |0,_,_,a=>by cases a
 |n+1,s,r,a=>by
  unfold zDp at a ⊢
  cases c:f s with
  |none=>grind
  |some o=>
   rw[c]at a;rw[h s o c]
   cases o with
   |inl d=>exact zX3 h n d r a
   |inr e=>exact a
def Cmp.lp{f:σ->Option (σ ⊕ ρ)}(n:Nat)(h:∀s,Cmp (f s))(s:σ):Cmp (zS f s):=
 ⟨zDp (fun s=>(h s).c) n s,fun r hr=>zH8.2 ⟨n,zX3 (fun s r=>(h s).le r) n s r hr⟩⟩
def Cmp.ct{m:Option (σ ⊕ ρ)}{K:σ->Option ρ}(h:Cmp m)(k:∀s,Cmp (K s)):Cmp (wB m K):=
 ⟨match h.c with
  |some (.inl s)=>(k s).c
  |some (.inr r)=>J r
  |none=>none,fun r hr=>by
  cases a:h.c with
  |none=>grind
  |some o=>
   rw[a]at hr;rw[h.le o a]
   cases o with
   |inl s=>exact(k s).le r hr
   |inr d=>exact hr⟩
def Cmp.mo{f:α->Option β}(h:∀x,Cmp (f x)):∀xs:List α,Cmp (zCw f xs)
 |[]=>⟨J [],fun _ h=>h⟩
 |x::r=>⟨match(h x).c,(Cmp.mo h r).c with
  |some y,J ys=>J (y::ys)
  |_,_=>none,fun z hz=>by
  cases a:(h x).c with
  |none=>grind
  |some y=>
   cases d:(Cmp.mo h r).c with
   |none=>grind
   |some ys=>
    grind[le,zCw]⟩
end
end Go.Ve
namespace Go.Ve
noncomputable section
open Go Go.Proofs
def zM7:∀x,Cmp (yM x):=by
 rintro⟨a,c,⟨⟩⟩
 delta yM
 dsimp only
 repeat' (with_reducible first|refine Cmp.bnd ?_ (fun _=>?_)|refine Cmp.cnd _ ?_ ?_|refine Cmp.ct ?_ (fun _=>?_)|refine Cmp.lp 12 (fun _=>?_) _|refine Cmp.ite _ ?_ ?_|refine Cmp.map _ ?_)
 all_goals exact Cmp.self _
def zJM:∀x,Cmp (uK x):=by
 rintro⟨a,c,⟨⟩⟩
 delta uK
 dsimp only
 repeat' (with_reducible first|exact zM7 _|refine Cmp.bnd ?_ (fun _=>?_)|refine Cmp.cnd _ ?_ ?_|refine Cmp.ct ?_ (fun _=>?_)|refine Cmp.lp 12 (fun _=>?_) _|refine Cmp.ite _ ?_ ?_|refine Cmp.map _ ?_)
 all_goals exact Cmp.self _
def zHI:∀x,Cmp (zAG x):=by
 rintro⟨a,c,d,⟨⟩⟩
 delta zAG
 dsimp only
 repeat' (with_reducible first|exact zJM _|refine Cmp.bnd ?_ (fun _=>?_)|refine Cmp.cnd _ ?_ ?_|refine Cmp.ct ?_ (fun _=>?_)|refine Cmp.lp 12 (fun _=>?_) _|refine Cmp.ite _ ?_ ?_|refine Cmp.map _ ?_)
 all_goals exact Cmp.self _
def zGA:∀x,Cmp (uT x):=by
 rintro⟨a,c,⟨⟩⟩
 delta uT
 dsimp only
 repeat' (with_reducible first|refine Cmp.bnd ?_ (fun _=>?_)|refine Cmp.cnd _ ?_ ?_|refine Cmp.ct ?_ (fun _=>?_)|refine Cmp.lp 12 (fun _=>?_) _|refine Cmp.ite _ ?_ ?_|refine Cmp.map _ ?_)
 all_goals exact Cmp.self _
def zD7:∀x,Cmp (v7 x):=by
 rintro⟨a,c,⟨⟩⟩
 delta v7
 dsimp only
 repeat' (with_reducible first|exact zGA _|refine Cmp.bnd ?_ (fun _=>?_)|refine Cmp.cnd _ ?_ ?_|refine Cmp.ct ?_ (fun _=>?_)|refine Cmp.lp 12 (fun _=>?_) _|refine Cmp.ite _ ?_ ?_|refine Cmp.map _ ?_)
 all_goals exact Cmp.self _
def zYD:∀x,Cmp (zFZ x):=by
 rintro⟨a,c,d,⟨⟩⟩
 delta zFZ
 dsimp only
 repeat' (with_reducible first|exact zGA _|exact zHI _|refine Cmp.bnd ?_ (fun _=>?_)|refine Cmp.cnd _ ?_ ?_|refine Cmp.ct ?_ (fun _=>?_)|refine Cmp.lp 12 (fun _=>?_) _|refine Cmp.ite _ ?_ ?_|refine Cmp.map _ ?_)
 all_goals exact Cmp.self _
def zPT:∀x,Cmp (zGU x):=by
 rintro⟨a,c,d,⟨⟩⟩
 delta zGU
 dsimp only
 repeat' (with_reducible first|exact zYD _|exact zD7 _|exact zHI _|refine Cmp.bnd ?_ (fun _=>?_)|refine Cmp.cnd _ ?_ ?_|refine Cmp.ct ?_ (fun _=>?_)|refine Cmp.lp 12 (fun _=>?_) _|refine Cmp.ite _ ?_ ?_|refine Cmp.map _ ?_)
 all_goals exact Cmp.self _
def zPU:∀x,Cmp (zAo x):=by
 rintro⟨a,c,d,⟨⟩⟩
 delta zAo
 dsimp only
 repeat' (with_reducible first|exact zPT _|exact zHI _|refine Cmp.bnd ?_ (fun _=>?_)|refine Cmp.cnd _ ?_ ?_|refine Cmp.ct ?_ (fun _=>?_)|refine Cmp.lp 12 (fun _=>?_) _|refine Cmp.ite _ ?_ ?_|refine Cmp.map _ ?_)
 all_goals exact Cmp.self _
def zCQ:∀x,Cmp (vJ x):=by
 rintro⟨a,c,d,⟨⟩⟩
 delta vJ
 dsimp only
 repeat' (with_reducible first|refine Cmp.bnd ?_ (fun _=>?_)|refine Cmp.cnd _ ?_ ?_|refine Cmp.ct ?_ (fun _=>?_)|refine Cmp.lp 12 (fun _=>?_) _|refine Cmp.ite _ ?_ ?_|refine Cmp.map _ ?_)
 all_goals exact Cmp.self _
def zA8:∀x,Cmp (wF x):=by
 rintro⟨a,c,d,e,⟨⟩⟩
 delta wF
 dsimp only
 repeat' (with_reducible first|exact zCQ _|exact zPT _|refine Cmp.bnd ?_ (fun _=>?_)|refine Cmp.cnd _ ?_ ?_|refine Cmp.ct ?_ (fun _=>?_)|refine Cmp.lp 12 (fun _=>?_) _|refine Cmp.ite _ ?_ ?_|refine Cmp.map _ ?_)
 all_goals exact Cmp.self _
def zOG:∀x,Cmp (jD x):=by
 rintro⟨a,c,⟨⟩⟩
 delta jD
 dsimp only
 repeat' (with_reducible first|exact zA8 _|exact zCQ _|exact zPU _|refine Cmp.bnd ?_ (fun _=>?_)|refine Cmp.cnd _ ?_ ?_|refine Cmp.ct ?_ (fun _=>?_)|refine Cmp.lp 12 (fun _=>?_) _|refine Cmp.ite _ ?_ ?_|refine Cmp.map _ ?_)
 all_goals exact Cmp.self _
def zQA:∀x,Cmp (zEc x):=by
 rintro⟨a,⟨⟩⟩
 delta zEc
 dsimp only
 repeat' (with_reducible first|refine Cmp.bnd ?_ (fun _=>?_)|refine Cmp.cnd _ ?_ ?_|refine Cmp.ct ?_ (fun _=>?_)|refine Cmp.lp 12 (fun _=>?_) _|refine Cmp.ite _ ?_ ?_|refine Cmp.map _ ?_)
 all_goals exact Cmp.self _
def zOF:∀x,Cmp (yR x):=by
 rintro⟨a,c,⟨⟩⟩
 delta yR
 dsimp only
 repeat' (with_reducible first|refine Cmp.bnd ?_ (fun _=>?_)|refine Cmp.cnd _ ?_ ?_|refine Cmp.ct ?_ (fun _=>?_)|refine Cmp.lp 12 (fun _=>?_) _|refine Cmp.ite _ ?_ ?_|refine Cmp.map _ ?_)
 all_goals exact Cmp.self _
def zJt:∀x,Cmp (jH x):=by
 rintro⟨a,c,d,⟨⟩⟩
 delta jH
 dsimp only
 repeat' (with_reducible first|exact zOF _|exact zQA _|refine Cmp.bnd ?_ (fun _=>?_)|refine Cmp.cnd _ ?_ ?_|refine Cmp.ct ?_ (fun _=>?_)|refine Cmp.lp 12 (fun _=>?_) _|refine Cmp.ite _ ?_ ?_|refine Cmp.map _ ?_)
 all_goals exact Cmp.self _
end
end Go.Ve
namespace Go.Ve
open Go Go.Proofs
def ifL(c:ByteArray)(a:Int):Ty.El zZ:=(c,a,24,0,false,I,0,10,false,⟨#[]⟩,⟨#[]⟩,0,())
def rtL(c:ByteArray)(a:List (Ty.El zZ)):Ty.El zG:=(c,0,a,[],[],[],[],[],(I,110,[],[],()),(false,0,⟨#[]⟩,⟨#[]⟩,[],()),(false,0,0,[],[],[],[],[],()),())
def zZP:Ty.El zJ:=([rtL ⟨#[97]⟩ [ifL ⟨#[101,48]⟩ 167772161],rtL ⟨#[98]⟩ [ifL ⟨#[101,48]⟩ 167772162,ifL ⟨#[101,49]⟩ 167772418],rtL ⟨#[99]⟩ [ifL ⟨#[101,48]⟩ 167772419,ifL ⟨#[101,49]⟩ 167772675]],())
def zZb:Ty.El zLK:=([((167772160,24,()),0,[(0,0,()),(1,0,())],()),((167772416,24,()),0,[(1,1,()),(2,0,())],()),((167772672,24,()),0,[(2,1,())],())],[0,1],())
def x4:Ty.El zH:=(zZP,zZb,[],())
def qGu:List (Ty.El qD):=[(0,1,10,(0,167772162,()),()),(1,0,10,(0,167772161,()),()),(1,2,10,(1,167772419,()),()),(2,1,10,(0,167772418,()),())]
end Go.Ve
namespace Go.Ve
noncomputable section
open Go Go.Proofs
def qFk:List (Ty.El zC)->Bool
 |[]=>I
 |x::r=>decide (x.2.1=(3:Int))&&(decide (List.length x.2.2.2.2.2.2.2.2.1<=1048576)&&(decide (List.length x.2.2.2.2.2.2.2.2.2.2.2.1<=1048576)&&qFk r))
theorem zYW:∀{l:List (Ty.El zC)},qFk l=I->∀x,x∈l->x.2.1=(3:Int)/\RtS x
 |y::r,h,x,a=>by
  simp only[qFk,am]at h;rcases bg.1 a with rfl|a
  .exact⟨of_decide_eq_true h.1,⟨of_decide_eq_true h.2.1,of_decide_eq_true h.2.2.1⟩⟩
  .exact zYW h.2.2.2 x a
def zUb:∀x,Cmp (zCH x):=by
 rintro⟨l,⟨⟩⟩;refine⟨bif decide (l.length<=524288)&&qFk l then J (zBs l)else none,fun r c=>?_⟩
 cases a:(decide (l.length<=524288)&&qFk l)with
 |false=>rw[a]at c;cases c
 |true=>rw[a]at c;rw[am]at a;have d:=zYW a.2;have:=jS (zEe l (of_decide_eq_true a.1) (fun x e=>(d x e).2) (fun x y e f=>zCq x y (d x e).1 (d y f).1));rw[this];exact c
def qHe{α:Type}:List α->Option (List α)
 |[]=>J []
 |[x]=>J [x]
 |_=>none
theorem zRT{xs l:List (Ty.El zP)}(h:qHe xs=J l):Aa (jG xs ((),())) (fun y=>jB y.1 ())=J l:=by
 have c:xs.length<1099511627776/\l=xs/\(xs=[]\/∃x,xs=[x]):=by
  match xs,h with
  |[],h=>cases h;exact⟨by decide,rfl,.inl rfl⟩
  |[x],h=>cases h;exact⟨by simp,rfl,.inr ⟨x,rfl⟩⟩
 obtain⟨z,f,d⟩:=zRp xs c.1;rw[f];congr 1;rw[c.2.1];rcases c.2.2 with rfl|⟨x,rfl⟩
 .exact br.2 (fun y g=>by have:=(d.2.2 y).1 g;cases this)
 .have e:=(d.2.2 x).2 (by simp);have a:=d.2.1
  match z,e,a with
  |[y],e,_=>rw[aK.1 e]
  |_::_::_,_,a=>simp at a
def zHk:∀x,Cmp (xK x):=by
 rintro⟨a,b,⟨⟩⟩;refine⟨bif decide ((a++b).length<=1048576)then qHe (a++b)else none,fun r d=>?_⟩
 cases c:decide ((a++b).length<=1048576)with
 |false=>rw[c]at d;cases d
 |true=>rw[c]at d;have c:=of_decide_eq_true c;rw[aN]at c;obtain⟨z,h,e⟩:=zMm a b (by omega) (by omega);have f:=zRT d;obtain⟨w,i,g⟩:=zRp (a++b) (by rw[aN];omega);rw[i]at f;cases f;rw[h];congr 1;exact zEg zHb e.1 g.1 (fun x=>by rw[e.2.2,g.2.2])
def qHD(xs:List (Ty.El zP)):Cmp (Aa (uC xs ((),())) (fun y=>jB y.1 ())):=⟨qHe xs,fun _ h=>zRT h⟩
def zYE(n:Int)(es:List (Ty.El qD))(r:Int):Cmp (zHG n es r):=by
 delta zHG
 exact Cmp.bnd (zJt _) (fun _=>Cmp.self _)
def qAx:∀x,Cmp (zC8 x):=by
 rintro⟨a,c,d,⟨⟩⟩
 delta zC8
 dsimp only;exact Cmp.bnd (zQA _) (fun _=>Cmp.ite _ (Cmp.self _) (Cmp.bnd (zYE _ _ _) (fun _=>Cmp.bnd (Cmp.mo (fun _=>Cmp.bnd (zOF _) (fun _=>Cmp.cnd _ (Cmp.map _ (zYE _ _ _)) (Cmp.self _))) _) (fun _=>Cmp.mo (fun _=>qHD _) _))))
def uI:∀x,Cmp (qC x):=by
 rintro⟨a,c,d,e,⟨⟩⟩
 delta qC
 dsimp only;exact Cmp.bnd (Cmp.self _) (fun _=>Cmp.bnd (Cmp.self _) (fun _=>Cmp.cnd _ (Cmp.bnd (qAx _) (fun _=>Cmp.self _)) (Cmp.self _)))
def zTj:∀x,Cmp (zBT x):=by rintro⟨a,l,⟨⟩⟩;exact⟨J (kD a l),fun r c=>by rw[xN];exact c⟩
def zL2:∀x,Cmp (zCS x):=by rintro⟨p,q,⟨⟩⟩;exact⟨J (zWr p q),fun r a=>by rw[zEf];exact a⟩
def zLG:∀x,Cmp (u6 x):=by
 rintro⟨a,c,⟨⟩⟩
 delta u6
 dsimp only
 repeat' (with_reducible first|refine Cmp.bnd ?_ (fun _=>?_)|refine Cmp.cnd _ ?_ ?_|refine Cmp.ct ?_ (fun _=>?_)|refine Cmp.lp 12 (fun _=>?_) _|refine Cmp.ite _ ?_ ?_|refine Cmp.map _ ?_|refine Cmp.mo (fun _=>?_) _)
 all_goals exact Cmp.self _
def zEX:∀x,Cmp (vM x):=by
 rintro⟨a,⟨c,⟨⟩⟩,⟨⟩⟩
 delta vM
 dsimp only
 repeat' (with_reducible first|exact zLG _|refine Cmp.bnd ?_ (fun _=>?_)|refine Cmp.cnd _ ?_ ?_|refine Cmp.ct ?_ (fun _=>?_)|refine Cmp.lp 12 (fun _=>?_) _|refine Cmp.ite _ ?_ ?_|refine Cmp.map _ ?_|refine Cmp.mo (fun _=>?_) _)
 all_goals exact Cmp.self _
def zEp:∀x,Cmp (vF x):=by
 rintro⟨a,c,⟨⟩⟩
 delta vF
 dsimp only
 repeat' (with_reducible first|exact zEX _|refine Cmp.bnd ?_ (fun _=>?_)|refine Cmp.cnd _ ?_ ?_|refine Cmp.ct ?_ (fun _=>?_)|refine Cmp.lp 12 (fun _=>?_) _|refine Cmp.ite _ ?_ ?_|refine Cmp.map _ ?_|refine Cmp.mo (fun _=>?_) _)
 all_goals exact Cmp.self _
def zBD:∀a0 x,Cmp (jC a0 x):=by
 rintro a0 ⟨a,⟨⟩⟩
 delta jC
 dsimp only
 repeat' (with_reducible first|exact zEp _|refine Cmp.bnd ?_ (fun _=>?_)|refine Cmp.cnd _ ?_ ?_|refine Cmp.ct ?_ (fun _=>?_)|refine Cmp.lp 12 (fun _=>?_) _|refine Cmp.ite _ ?_ ?_|refine Cmp.map _ ?_|refine Cmp.mo (fun _=>?_) _)
 all_goals exact Cmp.self _
def qT:∀x,Cmp (zV x):=by
 rintro⟨a,c,d,⟨⟩⟩
 delta zV
 dsimp only
 repeat' (with_reducible first|refine Cmp.bnd ?_ (fun _=>?_)|refine Cmp.cnd _ ?_ ?_|refine Cmp.ct ?_ (fun _=>?_)|refine Cmp.lp 12 (fun _=>?_) _|refine Cmp.ite _ ?_ ?_|refine Cmp.map _ ?_|refine Cmp.mo (fun _=>?_) _)
 all_goals exact Cmp.self _
def uR:∀x,Cmp (jA x):=by
 rintro⟨a,c,d,⟨⟩⟩
 delta jA
 dsimp only
 repeat' (with_reducible first|exact qT _|exact zBD _ _|refine Cmp.bnd ?_ (fun _=>?_)|refine Cmp.cnd _ ?_ ?_|refine Cmp.ct ?_ (fun _=>?_)|refine Cmp.lp 12 (fun _=>?_) _|refine Cmp.ite _ ?_ ?_|refine Cmp.map _ ?_|refine Cmp.mo (fun _=>?_) _)
 all_goals exact Cmp.self _
def yB:∀x,Cmp (qO x):=by
 rintro⟨a,c,d,⟨⟩⟩
 delta qO
 dsimp only
 repeat' (with_reducible first|exact zPT _|exact zTj _|refine Cmp.bnd ?_ (fun _=>?_)|refine Cmp.cnd _ ?_ ?_|refine Cmp.ct ?_ (fun _=>?_)|refine Cmp.lp 12 (fun _=>?_) _|refine Cmp.ite _ ?_ ?_|refine Cmp.map _ ?_|refine Cmp.mo (fun _=>?_) _)
 all_goals exact Cmp.self _
def kW:∀x,Cmp (qF x):=by
 rintro⟨a,c,d,e,⟨⟩⟩
 delta qF
 dsimp only
 repeat' (with_reducible first|refine Cmp.bnd ?_ (fun _=>?_)|refine Cmp.cnd _ ?_ ?_|refine Cmp.ct ?_ (fun _=>?_)|refine Cmp.lp 12 (fun _=>?_) _|refine Cmp.ite _ ?_ ?_|refine Cmp.map _ ?_|refine Cmp.mo (fun _=>?_) _)
 all_goals exact Cmp.self _
def zGO:∀x,Cmp (vO x):=by
 rintro⟨a,c,⟨⟩⟩
 delta vO
 dsimp only
 repeat' (with_reducible first|exact kW _|exact yB _|exact uR _|exact qT _|exact zHk _|exact uI _|refine Cmp.bnd ?_ (fun _=>?_)|refine Cmp.cnd _ ?_ ?_|refine Cmp.ct ?_ (fun _=>?_)|refine Cmp.lp 12 (fun _=>?_) _|refine Cmp.ite _ ?_ ?_|refine Cmp.map _ ?_|refine Cmp.mo (fun _=>?_) _)
 all_goals exact Cmp.self _
def zCe:∀x,Cmp (w6 x):=by
 rintro⟨a,c,⟨⟩⟩
 delta w6
 dsimp only
 repeat' (with_reducible first|refine Cmp.bnd ?_ (fun _=>?_)|refine Cmp.cnd _ ?_ ?_|refine Cmp.ct ?_ (fun _=>?_)|refine Cmp.lp 12 (fun _=>?_) _|refine Cmp.ite _ ?_ ?_|refine Cmp.map _ ?_|refine Cmp.mo (fun _=>?_) _)
 all_goals exact Cmp.self _
def zDD:∀x,Cmp (vV x):=by
 rintro⟨a,c,d,⟨⟩⟩
 delta vV
 dsimp only
 repeat' (with_reducible first|exact zCe _|refine Cmp.bnd ?_ (fun _=>?_)|refine Cmp.cnd _ ?_ ?_|refine Cmp.ct ?_ (fun _=>?_)|refine Cmp.lp 12 (fun _=>?_) _|refine Cmp.ite _ ?_ ?_|refine Cmp.map _ ?_|refine Cmp.mo (fun _=>?_) _)
 all_goals exact Cmp.self _
def xC:∀x,Cmp (jI x):=by
 rintro⟨a,c,⟨⟩⟩
 delta jI
 dsimp only
 repeat' (with_reducible first|exact zDD _|refine Cmp.bnd ?_ (fun _=>?_)|refine Cmp.cnd _ ?_ ?_|refine Cmp.ct ?_ (fun _=>?_)|refine Cmp.lp 12 (fun _=>?_) _|refine Cmp.ite _ ?_ ?_|refine Cmp.map _ ?_|refine Cmp.mo (fun _=>?_) _)
 all_goals exact Cmp.self _
def zDT:∀x,Cmp (qW x):=by
 rintro⟨a,c,⟨⟩⟩
 delta qW
 dsimp only
 repeat' (with_reducible first|exact zL2 _|refine Cmp.bnd ?_ (fun _=>?_)|refine Cmp.cnd _ ?_ ?_|refine Cmp.ct ?_ (fun _=>?_)|refine Cmp.lp 12 (fun _=>?_) _|refine Cmp.ite _ ?_ ?_|refine Cmp.map _ ?_|refine Cmp.mo (fun _=>?_) _)
 all_goals exact Cmp.self _
def zDB:∀x,Cmp (wG x):=by
 rintro⟨a,⟨c,⟨⟩⟩,⟨⟩⟩
 delta wG
 dsimp only
 repeat' (with_reducible first|exact zDT _|refine Cmp.bnd ?_ (fun _=>?_)|refine Cmp.cnd _ ?_ ?_|refine Cmp.ct ?_ (fun _=>?_)|refine Cmp.lp 12 (fun _=>?_) _|refine Cmp.ite _ ?_ ?_|refine Cmp.map _ ?_|refine Cmp.mo (fun _=>?_) _)
 all_goals exact Cmp.self _
def zDC:∀x,Cmp (jM x):=by
 rintro⟨a,⟨c,⟨⟩⟩,⟨⟩⟩
 delta jM
 dsimp only
 repeat' (with_reducible first|exact zDB _|refine Cmp.bnd ?_ (fun _=>?_)|refine Cmp.cnd _ ?_ ?_|refine Cmp.ct ?_ (fun _=>?_)|refine Cmp.lp 12 (fun _=>?_) _|refine Cmp.ite _ ?_ ?_|refine Cmp.map _ ?_|refine Cmp.mo (fun _=>?_) _)
 all_goals exact Cmp.self _
def zDS:∀x,Cmp (jQ x):=by
 rintro⟨a,c,⟨⟩⟩
 delta jQ
 dsimp only
 repeat' (with_reducible first|refine Cmp.bnd ?_ (fun _=>?_)|refine Cmp.cnd _ ?_ ?_|refine Cmp.ct ?_ (fun _=>?_)|refine Cmp.lp 12 (fun _=>?_) _|refine Cmp.ite _ ?_ ?_|refine Cmp.map _ ?_|refine Cmp.mo (fun _=>?_) _)
 all_goals exact Cmp.self _
def zHJ:∀x,Cmp (uD x):=by
 rintro⟨a,⟨c,⟨⟩⟩,⟨⟩⟩
 delta uD
 dsimp only
 repeat' (with_reducible first|exact zDS _|refine Cmp.bnd ?_ (fun _=>?_)|refine Cmp.cnd _ ?_ ?_|refine Cmp.ct ?_ (fun _=>?_)|refine Cmp.lp 12 (fun _=>?_) _|refine Cmp.ite _ ?_ ?_|refine Cmp.map _ ?_|refine Cmp.mo (fun _=>?_) _)
 all_goals exact Cmp.self _
def zFR:∀x,Cmp (wP x):=by
 rintro⟨a,⟨c,⟨⟩⟩,⟨⟩⟩
 delta wP
 dsimp only
 repeat' (with_reducible first|exact zHJ _|refine Cmp.bnd ?_ (fun _=>?_)|refine Cmp.cnd _ ?_ ?_|refine Cmp.ct ?_ (fun _=>?_)|refine Cmp.lp 12 (fun _=>?_) _|refine Cmp.ite _ ?_ ?_|refine Cmp.map _ ?_|refine Cmp.mo (fun _=>?_) _)
 all_goals exact Cmp.self _
def zFj:∀x,Cmp (wI x):=by
 rintro⟨a,c,d,⟨⟩⟩
 delta wI
 dsimp only
 repeat' (with_reducible first|exact zFR _|exact zDC _|exact xC _|exact zCe _|exact kW _|exact yB _|exact uR _|refine Cmp.bnd ?_ (fun _=>?_)|refine Cmp.cnd _ ?_ ?_|refine Cmp.ct ?_ (fun _=>?_)|refine Cmp.lp 12 (fun _=>?_) _|refine Cmp.ite _ ?_ ?_|refine Cmp.map _ ?_|refine Cmp.mo (fun _=>?_) _)
 all_goals exact Cmp.self _
def zBi:∀x,Cmp (jX x):=by
 rintro⟨a,c,d,e,⟨⟩⟩
 delta jX
 dsimp only
 repeat' (with_reducible first|exact zDD _|exact qT _|refine Cmp.bnd ?_ (fun _=>?_)|refine Cmp.cnd _ ?_ ?_|refine Cmp.ct ?_ (fun _=>?_)|refine Cmp.lp 12 (fun _=>?_) _|refine Cmp.ite _ ?_ ?_|refine Cmp.map _ ?_|refine Cmp.mo (fun _=>?_) _)
 all_goals exact Cmp.self _
def zFk:∀x,Cmp (wJ x):=by
 rintro⟨a,c,d,e,⟨⟩⟩
 delta wJ
 dsimp only
 repeat' (with_reducible first|exact zL2 _|refine Cmp.bnd ?_ (fun _=>?_)|refine Cmp.cnd _ ?_ ?_|refine Cmp.ct ?_ (fun _=>?_)|refine Cmp.lp 12 (fun _=>?_) _|refine Cmp.ite _ ?_ ?_|refine Cmp.map _ ?_|refine Cmp.mo (fun _=>?_) _)
 all_goals exact Cmp.self _
def zFS:∀x,Cmp (wQ x):=by
 rintro⟨a,c,d,⟨⟩⟩
 delta wQ
 dsimp only
 repeat' (with_reducible first|exact zFk _|exact uR _|exact zBD _ _|exact zEp _|refine Cmp.bnd ?_ (fun _=>?_)|refine Cmp.cnd _ ?_ ?_|refine Cmp.ct ?_ (fun _=>?_)|refine Cmp.lp 12 (fun _=>?_) _|refine Cmp.ite _ ?_ ?_|refine Cmp.map _ ?_|refine Cmp.mo (fun _=>?_) _)
 all_goals exact Cmp.self _
def zFV:∀x,Cmp (wV x):=by
 rintro⟨a,c,d,⟨⟩⟩
 delta wV
 dsimp only
 repeat' (with_reducible first|exact uR _|exact zEp _|refine Cmp.bnd ?_ (fun _=>?_)|refine Cmp.cnd _ ?_ ?_|refine Cmp.ct ?_ (fun _=>?_)|refine Cmp.lp 12 (fun _=>?_) _|refine Cmp.ite _ ?_ ?_|refine Cmp.map _ ?_|refine Cmp.mo (fun _=>?_) _)
 all_goals exact Cmp.self _
def zDU{qG:ElS [(.pt qL),tI]->Option (RTy.El (.o zC))}(a:∀x,Cmp (qG x)):∀x,Cmp (jR qG x):=by
 rintro⟨c,d,e,⟨⟩⟩
 delta jR
 dsimp only
 repeat' (with_reducible first|exact zFV _|exact zFS _|exact zBD _ _|exact a _|refine Cmp.bnd ?_ (fun _=>?_)|refine Cmp.cnd _ ?_ ?_|refine Cmp.ct ?_ (fun _=>?_)|refine Cmp.lp 12 (fun _=>?_) _|refine Cmp.ite _ ?_ ?_|refine Cmp.map _ ?_|refine Cmp.mo (fun _=>?_) _)
 all_goals exact Cmp.self _
def zFU{linkstate_areaSet_announced:ElS [(.pt qL),tI,(.pt qN)]->Option (RTy.El (.p (.sl zN)))}(a:∀x,Cmp (linkstate_areaSet_announced x)):∀x,Cmp (wU linkstate_areaSet_announced x):=by
 rintro⟨c,d,⟨⟩⟩
 delta wU
 dsimp only
 repeat' (with_reducible first|exact zBi _|exact xC _|exact kW _|exact yB _|exact qT _|exact uI _|exact a _|refine Cmp.bnd ?_ (fun _=>?_)|refine Cmp.cnd _ ?_ ?_|refine Cmp.ct ?_ (fun _=>?_)|refine Cmp.lp 12 (fun _=>?_) _|refine Cmp.ite _ ?_ ?_|refine Cmp.map _ ?_|refine Cmp.mo (fun _=>?_) _)
 all_goals exact Cmp.self _
def zEq{linkstate_areaSet_inter:ElS [(.pt qL),tI]->Option (RTy.El (.p (.sl zC)))}(a:∀x,Cmp (linkstate_areaSet_inter x)):∀x,Cmp (j7 linkstate_areaSet_inter x):=by
 rintro⟨c,d,⟨⟩⟩
 delta j7
 dsimp only
 repeat' (with_reducible first|exact zFj _|exact zGO _|exact zUb _|exact a _|refine Cmp.bnd ?_ (fun _=>?_)|refine Cmp.cnd _ ?_ ?_|refine Cmp.ct ?_ (fun _=>?_)|refine Cmp.lp 12 (fun _=>?_) _|refine Cmp.ite _ ?_ ?_|refine Cmp.map _ ?_|refine Cmp.mo (fun _=>?_) _)
 all_goals exact Cmp.self _
def zEY:∀a0 x,Cmp (kI a0 x):=by
 rintro a0 ⟨a,c,⟨⟩⟩
 delta kI
 dsimp only
 repeat' (with_reducible first|exact zHk _|refine Cmp.bnd ?_ (fun _=>?_)|refine Cmp.cnd _ ?_ ?_|refine Cmp.ct ?_ (fun _=>?_)|refine Cmp.lp 12 (fun _=>?_) _|refine Cmp.ite _ ?_ ?_|refine Cmp.map _ ?_|refine Cmp.mo (fun _=>?_) _)
 all_goals exact Cmp.self _
def zFi{qM:ElS [(.pt qL),tI,tI]->Option (RTy.El (.tu [tI,(.sl zP),.bool]))}(a:∀x,Cmp (qM x)):∀x,Cmp (wH qM x):=by
 rintro⟨c,d,e,f,⟨⟩⟩
 delta wH
 dsimp only
 repeat' (with_reducible first|exact qT _|exact a _|refine Cmp.bnd ?_ (fun _=>?_)|refine Cmp.cnd _ ?_ ?_|refine Cmp.ct ?_ (fun _=>?_)|refine Cmp.lp 12 (fun _=>?_) _|refine Cmp.ite _ ?_ ?_|refine Cmp.map _ ?_|refine Cmp.mo (fun _=>?_) _)
 all_goals exact Cmp.self _
def zDR{linkstate_areaSet_onward:ElS [(.pt qL),tI,(.pt qN),tI]->Option (RTy.El (.p tI))}(a:∀x,Cmp (linkstate_areaSet_onward x)):∀a0 x,Cmp (jP linkstate_areaSet_onward a0 x):=by
 rintro a0 ⟨c,d,e,⟨⟩⟩
 delta jP
 dsimp only
 repeat' (with_reducible first|exact zEY _ _|exact zBi _|exact xC _|exact qT _|exact uI _|exact a _|refine Cmp.bnd ?_ (fun _=>?_)|refine Cmp.cnd _ ?_ ?_|refine Cmp.ct ?_ (fun _=>?_)|refine Cmp.lp 12 (fun _=>?_) _|refine Cmp.ite _ ?_ ?_|refine Cmp.map _ ?_|refine Cmp.mo (fun _=>?_) _)
 all_goals exact Cmp.self _
def zFT{linkstate_areaSet_reachOver:Ty.El wD->ElA [.d (.pt qL),.d tI,.d tI]->Option (Ty.El wD×RTy.El (.tu []))}(a:∀a0 x,Cmp (linkstate_areaSet_reachOver a0 x)):∀x,Cmp (wT linkstate_areaSet_reachOver x):=by
 rintro⟨c,e,f,⟨⟩⟩
 delta wT
 dsimp only
 repeat' (with_reducible first|exact zEY _ _|exact qT _|exact uI _|exact a _ _|refine Cmp.bnd ?_ (fun _=>?_)|refine Cmp.cnd _ ?_ ?_|refine Cmp.ct ?_ (fun _=>?_)|refine Cmp.lp 12 (fun _=>?_) _|refine Cmp.ite _ ?_ ?_|refine Cmp.map _ ?_|refine Cmp.mo (fun _=>?_) _)
 all_goals exact Cmp.self _
def zOI:∀n x,Cmp (j5 n x)
 |0,_=>Cmp.self _
 |n+1,x=>zEq (zFU (zDU (zOI n))) x
def zVf:∀n x,Cmp (wR n x)
 |0,_=>Cmp.self _
 |n+1,x=>zFT (zDR (zFi (zVf n))) x
def p16(r a:Int):Ty.El zJS:=(r,(a,24,()),10,())
def d16(r q:Nat):Int:=((([[0,10,20],[10,0,10],[20,10,0]]:List (List Int)).getD r []).getD q (-1))
def qFf:Ty.El qN:=(0,[p16 0 167772160,p16 1 167772160,p16 1 167772416,p16 2 167772416,p16 2 167772672],qGu,b8 (fun r=>decide (r<3)),i88 d16,())
def qDC:Option (Nat×Ty.El qL):=some (3,(x4,3,[J (19,qFf)],()))
def qHO(a m:Int):Ty.El zC:=((a,24,()),3,1,110,m,0,0,0,[],0,0,[(0,167772162,())],false,())
def l16:List (Ty.El zC):=[qHO 167772416 20,qHO 167772672 30]
theorem zZT:qG (qDC,0,())=J l16:=(zOI 4 _).le _ (by kernel_rfl)
theorem qFX:qM (qDC,0,2,())=J (20,[(0,167772162,())],I,()):=(zVf 4 _).le _ (by kernel_rfl)
def qGy(v:Ty.El zH)(n:Nat):Cmp (zP6 v n):=by
 delta zP6
 refine Cmp.mo (fun r=>?_) _;refine Cmp.mo (fun i=>?_) _;generalize (vZ ((z8 v).getD r default))[i]?=o
 cases o with
 |none=>exact Cmp.self _
 |some x=>exact zA8 _
def qE8(v:Ty.El zH)(n:Nat)(a:AR):Cmp (zDF v n a):=by
 delta zDF
 exact Cmp.bnd (zOG _) (fun _=>Cmp.bnd (Cmp.mo (fun _=>Cmp.ite _ (Cmp.bnd (zJt _) (fun _=>Cmp.self _)) (Cmp.self _)) _) (fun _=>Cmp.self _))
def qDm:List (List Bool):=[[I],[I,I],[I,I]]
theorem qFD:zP6 x4 3=J qDm:=(qGy _ _).le _ (by kernel_rfl)
def zZu:List AR:=qV (fun r i=>(qDm.getD r []).getD i false) zN5 ((z8 x4).map vZ) 3
def qHF:AR:=zZu.headD ⟨0,[],fun _=>false⟩
theorem qFO:zZu=[qHF]:=by kernel_rfl
theorem qH5:zTl x4 3 qDm=[qHF]:=by show zCB zZu=_;rw[qFO];exact List.mergeSort_singleton _
theorem qGG:zDF x4 3 qHF=J qFf:=(qE8 _ _ _).le _ (by kernel_rfl)
theorem qDz:(zFf x4).map (fun s=>(J s:Option (Nat×Ty.El qL)))=J qDC:=by have h:zFf x4=Aa (zP6 x4 3) (fun c=>Aa (zCw (zDF x4 3) (zTl x4 3 c)) fun d=>J (3,x4,((3:Nat):Int),d.zipIdx.map (fun a=>J (16*(a.2+1)+3,a.1)),())):=rfl;rw[h,qFD,af,qH5];simp only[zCw,qGG];rfl
theorem zTJ:zCy (x4,0,())=J l16:=by
 obtain⟨s,d,e⟩:=ak.1 qDz;have h:zCy (x4,0,())=((Aa ((zFf x4).map (fun s=>(I,J s))) fun(a:Bool×Option (Nat×Ty.El qL))=>Aa (j6 a.1 (a.2,0,())) fun(c:Bool×List (Ty.El zC))=>J (c.1,c.2))).map Prod.snd:=rfl;rw[h,d];have f:j6 I (J s,0,())=J (I,l16):=by show(qG (J s,0,())).map _=_;rw[e,zZT];rfl
 show(Aa (j6 I (J s,0,())) _).map _=_;rw[f];rfl
theorem zZC:zFg (x4,0,2,())=J (20,[(0,167772162,())],I,()):=by
 obtain⟨s,d,e⟩:=ak.1 qDz
 have h : zFg (x4, 0, 2, ()) = ((Aa ((zFf x4).map (fun s =>(I, J s))) fun(c : Bool × Option (Nat × Ty.El qL)) => Aa (wS c.1 (c.2, 0, 2, ())) fun(a : Bool × Int × List (Ty.El zP) × Bool × Unit) =>
      J (a.1,a.2.1,a.2.2.1,a.2.2.2.1,()))).map Prod.snd:=rfl
 rw[h,d];have f:wS I (J s,0,2,())=J (I,20,[(0,167772162,())],I,()):=by show(qM (J s,0,2,())).map _=_;rw[e,qFX];rfl
 show(Aa (wS I (J s,0,2,())) _).map _=_;rw[f];rfl
end
end Go.Ve
