/- law16 -/
import Derived.KernelRfl
import Derived.Test.YtgiopebfjmfmhaaGreatLt25
import Derived.Test.YtgiopebfjmfmhaaGreatLt23
set_option linter.unusedVariables false
open Option renaming some->J
open Bool renaming true->I
open Option renaming bind->Aa
set_option maxRecDepth 1000000
set_option maxHeartbeats 4000000
namespace Go.Ve
open Go Go.Proofs
structure Cmp{α:Type}(b:Option α) where
 c:Option α
 le:∀r,c=J r->b=J r
section
variable {α β σ ρ:Type}
def Cmp.self(b:Option α):Cmp b:=⟨b,fun _ h=>h⟩
def Cmp.bnd{m:Option α}{f:α->Option β}(h:Cmp m)(k:∀y,Cmp (f y)):Cmp (Aa m f):=
 ⟨match h.c with
  |some y=>(k y).c
  |none=>none,fun r hr=>by
  grind[le]⟩
def Cmp.cnd{x y:Option α}(b:Bool)(h:Cmp x)(k:Cmp y):Cmp (bif b then x else y):=
 ⟨match b with
  |true=>h.c
  |false=>k.c,fun r hr=>by
  cases b with
  |true=>exact h.le r hr
  |false=>exact k.le r hr⟩
def Cmp.ite{x y:Option α}(p:Prop)[Decidable p](h:Cmp x)(k:Cmp y):Cmp (if p then x else y):=
 ⟨if p then h.c else k.c,fun r hr=>by
  by_cases hp:p
  .rw[if_pos hp]at hr ⊢;exact h.le r hr
  .rw[if_neg hp]at hr ⊢;exact k.le r hr⟩
def Cmp.map{m:Option α}(f:α->β)(h:Cmp m):Cmp (Option.map f m):=
 ⟨h.c.map f,fun r hr=>by
  cases a:h.c with
  |none=>grind
  |some y=>rw[a]at hr;rw[h.le y a];exact hr⟩
theorem zX1{f g:σ->Option (σ ⊕ ρ)}(h:∀s r,f s=J r->g s=J r):∀(n:Nat) (s:σ) (r:ρ),zDp f n s=J r->zDp g n s=J r
 |0,_,_,a=>by cases a
 |n+1,s,r,a=>by
  unfold zDp at a ⊢
  cases c:f s with
  |none=>grind
  |some o=>
   rw[c]at a;rw[h s o c]
   cases o with
   |inl d=>exact zX1 h n d r a
   |inr e=>exact a
def Cmp.lp{f:σ->Option (σ ⊕ ρ)}(n:Nat)(h:∀s,Cmp (f s))(s:σ):Cmp (zS f s):=
 ⟨zDp (fun s=>(h s).c) n s,fun r hr=>zH6.2 ⟨n,zX1 (fun s r=>(h s).le r) n s r hr⟩⟩
def Cmp.ct{m:Option (σ ⊕ ρ)}{K:σ->Option ρ}(h:Cmp m)(k:∀s,Cmp (K s)):Cmp (wB m K):=
 ⟨match h.c with
  |some (.inl s)=>(k s).c
  |some (.inr r)=>J r
  |none=>none,fun r hr=>by
  cases a:h.c with
  |none=>grind
  |some o=>
   rw[a]at hr;rw[h.le o a]
   cases o with
   |inl s=>exact(k s).le r hr
   |inr d=>exact hr⟩
def Cmp.mo{f:α->Option β}(h:∀x,Cmp (f x)):∀xs:List α,Cmp (zCw f xs)
 |[]=>⟨J [],fun _ h=>h⟩
 |x::r=>⟨match(h x).c,(Cmp.mo h r).c with
  |some y,J ys=>J (y::ys)
  |_,_=>none,fun z hz=>by
  cases a:(h x).c with
  |none=>grind
  |some y=>
   cases d:(Cmp.mo h r).c with
   |none=>grind
   |some ys=>
    grind[le,zCw]⟩
end
end Go.Ve
namespace Go.Ve
noncomputable section
open Go Go.Proofs
def zM6:∀x,Cmp (yL x):=by
 rintro⟨a,c,⟨⟩⟩
 delta yL
 dsimp only
 repeat' (with_reducible first|refine Cmp.bnd ?_ (fun _=>?_)|refine Cmp.cnd _ ?_ ?_|refine Cmp.ct ?_ (fun _=>?_)|refine Cmp.lp 12 (fun _=>?_) _|refine Cmp.ite _ ?_ ?_|refine Cmp.map _ ?_)
 all_goals exact Cmp.self _
def zJN:∀x,Cmp (uK x):=by
 rintro⟨a,c,⟨⟩⟩
 delta uK
 dsimp only
 repeat' (with_reducible first|exact zM6 _|refine Cmp.bnd ?_ (fun _=>?_)|refine Cmp.cnd _ ?_ ?_|refine Cmp.ct ?_ (fun _=>?_)|refine Cmp.lp 12 (fun _=>?_) _|refine Cmp.ite _ ?_ ?_|refine Cmp.map _ ?_)
 all_goals exact Cmp.self _
def zHG:∀x,Cmp (zAF x):=by
 rintro⟨a,c,d,⟨⟩⟩
 delta zAF
 dsimp only
 repeat' (with_reducible first|exact zJN _|refine Cmp.bnd ?_ (fun _=>?_)|refine Cmp.cnd _ ?_ ?_|refine Cmp.ct ?_ (fun _=>?_)|refine Cmp.lp 12 (fun _=>?_) _|refine Cmp.ite _ ?_ ?_|refine Cmp.map _ ?_)
 all_goals exact Cmp.self _
def zGz:∀x,Cmp (uT x):=by
 rintro⟨a,c,⟨⟩⟩
 delta uT
 dsimp only
 repeat' (with_reducible first|refine Cmp.bnd ?_ (fun _=>?_)|refine Cmp.cnd _ ?_ ?_|refine Cmp.ct ?_ (fun _=>?_)|refine Cmp.lp 12 (fun _=>?_) _|refine Cmp.ite _ ?_ ?_|refine Cmp.map _ ?_)
 all_goals exact Cmp.self _
def zD6:∀x,Cmp (v7 x):=by
 rintro⟨a,c,⟨⟩⟩
 delta v7
 dsimp only
 repeat' (with_reducible first|exact zGz _|refine Cmp.bnd ?_ (fun _=>?_)|refine Cmp.cnd _ ?_ ?_|refine Cmp.ct ?_ (fun _=>?_)|refine Cmp.lp 12 (fun _=>?_) _|refine Cmp.ite _ ?_ ?_|refine Cmp.map _ ?_)
 all_goals exact Cmp.self _
def zYB:∀x,Cmp (zFZ x):=by
 rintro⟨a,c,d,⟨⟩⟩
 delta zFZ
 dsimp only
 repeat' (with_reducible first|exact zGz _|exact zHG _|refine Cmp.bnd ?_ (fun _=>?_)|refine Cmp.cnd _ ?_ ?_|refine Cmp.ct ?_ (fun _=>?_)|refine Cmp.lp 12 (fun _=>?_) _|refine Cmp.ite _ ?_ ?_|refine Cmp.map _ ?_)
 all_goals exact Cmp.self _
def zPR:∀x,Cmp (zGT x):=by
 rintro⟨a,c,d,⟨⟩⟩
 delta zGT
 dsimp only
 repeat' (with_reducible first|exact zYB _|exact zD6 _|exact zHG _|refine Cmp.bnd ?_ (fun _=>?_)|refine Cmp.cnd _ ?_ ?_|refine Cmp.ct ?_ (fun _=>?_)|refine Cmp.lp 12 (fun _=>?_) _|refine Cmp.ite _ ?_ ?_|refine Cmp.map _ ?_)
 all_goals exact Cmp.self _
def zPS:∀x,Cmp (zAn x):=by
 rintro⟨a,c,d,⟨⟩⟩
 delta zAn
 dsimp only
 repeat' (with_reducible first|exact zPR _|exact zHG _|refine Cmp.bnd ?_ (fun _=>?_)|refine Cmp.cnd _ ?_ ?_|refine Cmp.ct ?_ (fun _=>?_)|refine Cmp.lp 12 (fun _=>?_) _|refine Cmp.ite _ ?_ ?_|refine Cmp.map _ ?_)
 all_goals exact Cmp.self _
def zCQ:∀x,Cmp (vJ x):=by
 rintro⟨a,c,d,⟨⟩⟩
 delta vJ
 dsimp only
 repeat' (with_reducible first|refine Cmp.bnd ?_ (fun _=>?_)|refine Cmp.cnd _ ?_ ?_|refine Cmp.ct ?_ (fun _=>?_)|refine Cmp.lp 12 (fun _=>?_) _|refine Cmp.ite _ ?_ ?_|refine Cmp.map _ ?_)
 all_goals exact Cmp.self _
def zA8:∀x,Cmp (wF x):=by
 rintro⟨a,c,d,e,⟨⟩⟩
 delta wF
 dsimp only
 repeat' (with_reducible first|exact zCQ _|exact zPR _|refine Cmp.bnd ?_ (fun _=>?_)|refine Cmp.cnd _ ?_ ?_|refine Cmp.ct ?_ (fun _=>?_)|refine Cmp.lp 12 (fun _=>?_) _|refine Cmp.ite _ ?_ ?_|refine Cmp.map _ ?_)
 all_goals exact Cmp.self _
def zOE:∀x,Cmp (jD x):=by
 rintro⟨a,c,⟨⟩⟩
 delta jD
 dsimp only
 repeat' (with_reducible first|exact zA8 _|exact zCQ _|exact zPS _|refine Cmp.bnd ?_ (fun _=>?_)|refine Cmp.cnd _ ?_ ?_|refine Cmp.ct ?_ (fun _=>?_)|refine Cmp.lp 12 (fun _=>?_) _|refine Cmp.ite _ ?_ ?_|refine Cmp.map _ ?_)
 all_goals exact Cmp.self _
def zQz:∀x,Cmp (zEb x):=by
 rintro⟨a,⟨⟩⟩
 delta zEb
 dsimp only
 repeat' (with_reducible first|refine Cmp.bnd ?_ (fun _=>?_)|refine Cmp.cnd _ ?_ ?_|refine Cmp.ct ?_ (fun _=>?_)|refine Cmp.lp 12 (fun _=>?_) _|refine Cmp.ite _ ?_ ?_|refine Cmp.map _ ?_)
 all_goals exact Cmp.self _
def zOD:∀x,Cmp (yR x):=by
 rintro⟨a,c,⟨⟩⟩
 delta yR
 dsimp only
 repeat' (with_reducible first|refine Cmp.bnd ?_ (fun _=>?_)|refine Cmp.cnd _ ?_ ?_|refine Cmp.ct ?_ (fun _=>?_)|refine Cmp.lp 12 (fun _=>?_) _|refine Cmp.ite _ ?_ ?_|refine Cmp.map _ ?_)
 all_goals exact Cmp.self _
def zJu:∀x,Cmp (jH x):=by
 rintro⟨a,c,d,⟨⟩⟩
 delta jH
 dsimp only
 repeat' (with_reducible first|exact zOD _|exact zQz _|refine Cmp.bnd ?_ (fun _=>?_)|refine Cmp.cnd _ ?_ ?_|refine Cmp.ct ?_ (fun _=>?_)|refine Cmp.lp 12 (fun _=>?_) _|refine Cmp.ite _ ?_ ?_|refine Cmp.map _ ?_)
 all_goals exact Cmp.self _
end
end Go.Ve
namespace Go.Ve
open Go Go.Proofs
def ifL(c:ByteArray)(a:Int):Ty.El zZ:=(c,a,24,0,false,I,0,10,false,⟨#[]⟩,⟨#[]⟩,0,())
def rtL(c:ByteArray)(a:List (Ty.El zZ)):Ty.El zG:=(c,0,a,[],[],[],[],[],(I,110,[],[],()),(false,0,⟨#[]⟩,⟨#[]⟩,[],()),(false,0,0,[],[],[],[],[],()),())
def zZO:Ty.El zJ:=([rtL ⟨#[97]⟩ [ifL ⟨#[101,48]⟩ 167772161],rtL ⟨#[98]⟩ [ifL ⟨#[101,48]⟩ 167772162,ifL ⟨#[101,49]⟩ 167772418],rtL ⟨#[99]⟩ [ifL ⟨#[101,48]⟩ 167772419,ifL ⟨#[101,49]⟩ 167772675]],())
def zY9:Ty.El zLJ:=([((167772160,24,()),0,[(0,0,()),(1,0,())],()),((167772416,24,()),0,[(1,1,()),(2,0,())],()),((167772672,24,()),0,[(2,1,())],())],[0,1],())
def x4:Ty.El zI:=(zZO,zY9,[],())
def qGs:List (Ty.El qD):=[(0,1,10,(0,167772162,()),()),(1,0,10,(0,167772161,()),()),(1,2,10,(1,167772419,()),()),(2,1,10,(0,167772418,()),())]
end Go.Ve
namespace Go.Ve
noncomputable section
open Go Go.Proofs
def qFi:List (Ty.El zC)->Bool
 |[]=>I
 |x::r=>decide (x.2.1=(3:Int))&&(decide (List.length x.2.2.2.2.2.2.2.2.1<=1048576)&&(decide (List.length x.2.2.2.2.2.2.2.2.2.2.2.1<=1048576)&&qFi r))
theorem zYU:∀{l:List (Ty.El zC)},qFi l=I->∀x,x∈l->x.2.1=(3:Int)/\RtS x
 |y::r,h,x,a=>by
  simp only[qFi,ak]at h;rcases bg.1 a with rfl|a
  .exact⟨of_decide_eq_true h.1,⟨of_decide_eq_true h.2.1,of_decide_eq_true h.2.2.1⟩⟩
  .exact zYU h.2.2.2 x a
def zT9:∀x,Cmp (zCH x):=by
 rintro⟨l,⟨⟩⟩;refine⟨bif decide (l.length<=524288)&&qFi l then J (zBs l)else none,fun r c=>?_⟩
 cases a:(decide (l.length<=524288)&&qFi l)with
 |false=>rw[a]at c;cases c
 |true=>rw[a]at c;rw[ak]at a;have d:=zYU a.2;have:=jS (zEd l (of_decide_eq_true a.1) (fun x e=>(d x e).2) (fun x y e f=>zCq x y (d x e).1 (d y f).1));rw[this];exact c
def qHc{α:Type}:List α->Option (List α)
 |[]=>J []
 |[x]=>J [x]
 |_=>none
theorem zRS{xs l:List (Ty.El zP)}(h:qHc xs=J l):Aa (jG xs ((),())) (fun y=>jB y.1 ())=J l:=by
 have c:xs.length<1099511627776/\l=xs/\(xs=[]\/∃x,xs=[x]):=by
  match xs,h with
  |[],h=>cases h;exact⟨by decide,rfl,.inl rfl⟩
  |[x],h=>cases h;exact⟨by simp,rfl,.inr ⟨x,rfl⟩⟩
 obtain⟨z,f,d⟩:=zRo xs c.1;rw[f];congr 1;rw[c.2.1];rcases c.2.2 with rfl|⟨x,rfl⟩
 .exact bw.2 (fun y g=>by have:=(d.2.2 y).1 g;cases this)
 .have e:=(d.2.2 x).2 (by simp);have a:=d.2.1
  match z,e,a with
  |[y],e,_=>rw[aM.1 e]
  |_::_::_,_,a=>simp at a
def zHi:∀x,Cmp (xK x):=by
 rintro⟨a,b,⟨⟩⟩;refine⟨bif decide ((a++b).length<=1048576)then qHc (a++b)else none,fun r d=>?_⟩
 cases c:decide ((a++b).length<=1048576)with
 |false=>rw[c]at d;cases d
 |true=>rw[c]at d;have c:=of_decide_eq_true c;rw[aO]at c;obtain⟨z,h,e⟩:=zMl a b (by omega) (by omega);have f:=zRS d;obtain⟨w,i,g⟩:=zRo (a++b) (by rw[aO];omega);rw[i]at f;cases f;rw[h];congr 1;exact zEf zHa e.1 g.1 (fun x=>by rw[e.2.2,g.2.2])
def qHB(xs:List (Ty.El zP)):Cmp (Aa (uB xs ((),())) (fun y=>jB y.1 ())):=⟨qHc xs,fun _ h=>zRS h⟩
def zYC(n:Int)(es:List (Ty.El qD))(r:Int):Cmp (zHE n es r):=by
 delta zHE
 exact Cmp.bnd (zJu _) (fun _=>Cmp.self _)
def qAw:∀x,Cmp (zC8 x):=by
 rintro⟨a,c,d,⟨⟩⟩
 delta zC8
 dsimp only;exact Cmp.bnd (zQz _) (fun _=>Cmp.ite _ (Cmp.self _) (Cmp.bnd (zYC _ _ _) (fun _=>Cmp.bnd (Cmp.mo (fun _=>Cmp.bnd (zOD _) (fun _=>Cmp.cnd _ (Cmp.map _ (zYC _ _ _)) (Cmp.self _))) _) (fun _=>Cmp.mo (fun _=>qHB _) _))))
def uI:∀x,Cmp (qC x):=by
 rintro⟨a,c,d,e,⟨⟩⟩
 delta qC
 dsimp only;exact Cmp.bnd (Cmp.self _) (fun _=>Cmp.bnd (Cmp.self _) (fun _=>Cmp.cnd _ (Cmp.bnd (qAw _) (fun _=>Cmp.self _)) (Cmp.self _)))
def zTh:∀x,Cmp (zBT x):=by rintro⟨a,l,⟨⟩⟩;exact⟨J (kF a l),fun r c=>by rw[xO];exact c⟩
def zL1:∀x,Cmp (zCS x):=by rintro⟨p,q,⟨⟩⟩;exact⟨J (zWp p q),fun r a=>by rw[zEe];exact a⟩
def zLF:∀x,Cmp (u6 x):=by
 rintro⟨a,c,⟨⟩⟩
 delta u6
 dsimp only
 repeat' (with_reducible first|refine Cmp.bnd ?_ (fun _=>?_)|refine Cmp.cnd _ ?_ ?_|refine Cmp.ct ?_ (fun _=>?_)|refine Cmp.lp 12 (fun _=>?_) _|refine Cmp.ite _ ?_ ?_|refine Cmp.map _ ?_|refine Cmp.mo (fun _=>?_) _)
 all_goals exact Cmp.self _
def zEX:∀x,Cmp (vM x):=by
 rintro⟨a,⟨c,⟨⟩⟩,⟨⟩⟩
 delta vM
 dsimp only
 repeat' (with_reducible first|exact zLF _|refine Cmp.bnd ?_ (fun _=>?_)|refine Cmp.cnd _ ?_ ?_|refine Cmp.ct ?_ (fun _=>?_)|refine Cmp.lp 12 (fun _=>?_) _|refine Cmp.ite _ ?_ ?_|refine Cmp.map _ ?_|refine Cmp.mo (fun _=>?_) _)
 all_goals exact Cmp.self _
def zEp:∀x,Cmp (vF x):=by
 rintro⟨a,c,⟨⟩⟩
 delta vF
 dsimp only
 repeat' (with_reducible first|exact zEX _|refine Cmp.bnd ?_ (fun _=>?_)|refine Cmp.cnd _ ?_ ?_|refine Cmp.ct ?_ (fun _=>?_)|refine Cmp.lp 12 (fun _=>?_) _|refine Cmp.ite _ ?_ ?_|refine Cmp.map _ ?_|refine Cmp.mo (fun _=>?_) _)
 all_goals exact Cmp.self _
def zBD:∀a0 x,Cmp (jC a0 x):=by
 rintro a0 ⟨a,⟨⟩⟩
 delta jC
 dsimp only
 repeat' (with_reducible first|exact zEp _|refine Cmp.bnd ?_ (fun _=>?_)|refine Cmp.cnd _ ?_ ?_|refine Cmp.ct ?_ (fun _=>?_)|refine Cmp.lp 12 (fun _=>?_) _|refine Cmp.ite _ ?_ ?_|refine Cmp.map _ ?_|refine Cmp.mo (fun _=>?_) _)
 all_goals exact Cmp.self _
def qT:∀x,Cmp (zV x):=by
 rintro⟨a,c,d,⟨⟩⟩
 delta zV
 dsimp only
 repeat' (with_reducible first|refine Cmp.bnd ?_ (fun _=>?_)|refine Cmp.cnd _ ?_ ?_|refine Cmp.ct ?_ (fun _=>?_)|refine Cmp.lp 12 (fun _=>?_) _|refine Cmp.ite _ ?_ ?_|refine Cmp.map _ ?_|refine Cmp.mo (fun _=>?_) _)
 all_goals exact Cmp.self _
def uR:∀x,Cmp (jA x):=by
 rintro⟨a,c,d,⟨⟩⟩
 delta jA
 dsimp only
 repeat' (with_reducible first|exact qT _|exact zBD _ _|refine Cmp.bnd ?_ (fun _=>?_)|refine Cmp.cnd _ ?_ ?_|refine Cmp.ct ?_ (fun _=>?_)|refine Cmp.lp 12 (fun _=>?_) _|refine Cmp.ite _ ?_ ?_|refine Cmp.map _ ?_|refine Cmp.mo (fun _=>?_) _)
 all_goals exact Cmp.self _
def yB:∀x,Cmp (qO x):=by
 rintro⟨a,c,d,⟨⟩⟩
 delta qO
 dsimp only
 repeat' (with_reducible first|exact zPR _|exact zTh _|refine Cmp.bnd ?_ (fun _=>?_)|refine Cmp.cnd _ ?_ ?_|refine Cmp.ct ?_ (fun _=>?_)|refine Cmp.lp 12 (fun _=>?_) _|refine Cmp.ite _ ?_ ?_|refine Cmp.map _ ?_|refine Cmp.mo (fun _=>?_) _)
 all_goals exact Cmp.self _
def kU:∀x,Cmp (qF x):=by
 rintro⟨a,c,d,e,⟨⟩⟩
 delta qF
 dsimp only
 repeat' (with_reducible first|refine Cmp.bnd ?_ (fun _=>?_)|refine Cmp.cnd _ ?_ ?_|refine Cmp.ct ?_ (fun _=>?_)|refine Cmp.lp 12 (fun _=>?_) _|refine Cmp.ite _ ?_ ?_|refine Cmp.map _ ?_|refine Cmp.mo (fun _=>?_) _)
 all_goals exact Cmp.self _
def zGN:∀x,Cmp (vO x):=by
 rintro⟨a,c,⟨⟩⟩
 delta vO
 dsimp only
 repeat' (with_reducible first|exact kU _|exact yB _|exact uR _|exact qT _|exact zHi _|exact uI _|refine Cmp.bnd ?_ (fun _=>?_)|refine Cmp.cnd _ ?_ ?_|refine Cmp.ct ?_ (fun _=>?_)|refine Cmp.lp 12 (fun _=>?_) _|refine Cmp.ite _ ?_ ?_|refine Cmp.map _ ?_|refine Cmp.mo (fun _=>?_) _)
 all_goals exact Cmp.self _
def zCe:∀x,Cmp (w6 x):=by
 rintro⟨a,c,⟨⟩⟩
 delta w6
 dsimp only
 repeat' (with_reducible first|refine Cmp.bnd ?_ (fun _=>?_)|refine Cmp.cnd _ ?_ ?_|refine Cmp.ct ?_ (fun _=>?_)|refine Cmp.lp 12 (fun _=>?_) _|refine Cmp.ite _ ?_ ?_|refine Cmp.map _ ?_|refine Cmp.mo (fun _=>?_) _)
 all_goals exact Cmp.self _
def zDC:∀x,Cmp (vU x):=by
 rintro⟨a,c,d,⟨⟩⟩
 delta vU
 dsimp only
 repeat' (with_reducible first|exact zCe _|refine Cmp.bnd ?_ (fun _=>?_)|refine Cmp.cnd _ ?_ ?_|refine Cmp.ct ?_ (fun _=>?_)|refine Cmp.lp 12 (fun _=>?_) _|refine Cmp.ite _ ?_ ?_|refine Cmp.map _ ?_|refine Cmp.mo (fun _=>?_) _)
 all_goals exact Cmp.self _
def xC:∀x,Cmp (jI x):=by
 rintro⟨a,c,⟨⟩⟩
 delta jI
 dsimp only
 repeat' (with_reducible first|exact zDC _|refine Cmp.bnd ?_ (fun _=>?_)|refine Cmp.cnd _ ?_ ?_|refine Cmp.ct ?_ (fun _=>?_)|refine Cmp.lp 12 (fun _=>?_) _|refine Cmp.ite _ ?_ ?_|refine Cmp.map _ ?_|refine Cmp.mo (fun _=>?_) _)
 all_goals exact Cmp.self _
def zDS:∀x,Cmp (qW x):=by
 rintro⟨a,c,⟨⟩⟩
 delta qW
 dsimp only
 repeat' (with_reducible first|exact zL1 _|refine Cmp.bnd ?_ (fun _=>?_)|refine Cmp.cnd _ ?_ ?_|refine Cmp.ct ?_ (fun _=>?_)|refine Cmp.lp 12 (fun _=>?_) _|refine Cmp.ite _ ?_ ?_|refine Cmp.map _ ?_|refine Cmp.mo (fun _=>?_) _)
 all_goals exact Cmp.self _
def zDA:∀x,Cmp (wG x):=by
 rintro⟨a,⟨c,⟨⟩⟩,⟨⟩⟩
 delta wG
 dsimp only
 repeat' (with_reducible first|exact zDS _|refine Cmp.bnd ?_ (fun _=>?_)|refine Cmp.cnd _ ?_ ?_|refine Cmp.ct ?_ (fun _=>?_)|refine Cmp.lp 12 (fun _=>?_) _|refine Cmp.ite _ ?_ ?_|refine Cmp.map _ ?_|refine Cmp.mo (fun _=>?_) _)
 all_goals exact Cmp.self _
def zDB:∀x,Cmp (jM x):=by
 rintro⟨a,⟨c,⟨⟩⟩,⟨⟩⟩
 delta jM
 dsimp only
 repeat' (with_reducible first|exact zDA _|refine Cmp.bnd ?_ (fun _=>?_)|refine Cmp.cnd _ ?_ ?_|refine Cmp.ct ?_ (fun _=>?_)|refine Cmp.lp 12 (fun _=>?_) _|refine Cmp.ite _ ?_ ?_|refine Cmp.map _ ?_|refine Cmp.mo (fun _=>?_) _)
 all_goals exact Cmp.self _
def zDR:∀x,Cmp (jQ x):=by
 rintro⟨a,c,⟨⟩⟩
 delta jQ
 dsimp only
 repeat' (with_reducible first|refine Cmp.bnd ?_ (fun _=>?_)|refine Cmp.cnd _ ?_ ?_|refine Cmp.ct ?_ (fun _=>?_)|refine Cmp.lp 12 (fun _=>?_) _|refine Cmp.ite _ ?_ ?_|refine Cmp.map _ ?_|refine Cmp.mo (fun _=>?_) _)
 all_goals exact Cmp.self _
def zHH:∀x,Cmp (uC x):=by
 rintro⟨a,⟨c,⟨⟩⟩,⟨⟩⟩
 delta uC
 dsimp only
 repeat' (with_reducible first|exact zDR _|refine Cmp.bnd ?_ (fun _=>?_)|refine Cmp.cnd _ ?_ ?_|refine Cmp.ct ?_ (fun _=>?_)|refine Cmp.lp 12 (fun _=>?_) _|refine Cmp.ite _ ?_ ?_|refine Cmp.map _ ?_|refine Cmp.mo (fun _=>?_) _)
 all_goals exact Cmp.self _
def zFR:∀x,Cmp (wP x):=by
 rintro⟨a,⟨c,⟨⟩⟩,⟨⟩⟩
 delta wP
 dsimp only
 repeat' (with_reducible first|exact zHH _|refine Cmp.bnd ?_ (fun _=>?_)|refine Cmp.cnd _ ?_ ?_|refine Cmp.ct ?_ (fun _=>?_)|refine Cmp.lp 12 (fun _=>?_) _|refine Cmp.ite _ ?_ ?_|refine Cmp.map _ ?_|refine Cmp.mo (fun _=>?_) _)
 all_goals exact Cmp.self _
def zFj:∀x,Cmp (wI x):=by
 rintro⟨a,c,d,⟨⟩⟩
 delta wI
 dsimp only
 repeat' (with_reducible first|exact zFR _|exact zDB _|exact xC _|exact zCe _|exact kU _|exact yB _|exact uR _|refine Cmp.bnd ?_ (fun _=>?_)|refine Cmp.cnd _ ?_ ?_|refine Cmp.ct ?_ (fun _=>?_)|refine Cmp.lp 12 (fun _=>?_) _|refine Cmp.ite _ ?_ ?_|refine Cmp.map _ ?_|refine Cmp.mo (fun _=>?_) _)
 all_goals exact Cmp.self _
def zBi:∀x,Cmp (jW x):=by
 rintro⟨a,c,d,e,⟨⟩⟩
 delta jW
 dsimp only
 repeat' (with_reducible first|exact zDC _|exact qT _|refine Cmp.bnd ?_ (fun _=>?_)|refine Cmp.cnd _ ?_ ?_|refine Cmp.ct ?_ (fun _=>?_)|refine Cmp.lp 12 (fun _=>?_) _|refine Cmp.ite _ ?_ ?_|refine Cmp.map _ ?_|refine Cmp.mo (fun _=>?_) _)
 all_goals exact Cmp.self _
def zFk:∀x,Cmp (wJ x):=by
 rintro⟨a,c,d,e,⟨⟩⟩
 delta wJ
 dsimp only
 repeat' (with_reducible first|exact zL1 _|refine Cmp.bnd ?_ (fun _=>?_)|refine Cmp.cnd _ ?_ ?_|refine Cmp.ct ?_ (fun _=>?_)|refine Cmp.lp 12 (fun _=>?_) _|refine Cmp.ite _ ?_ ?_|refine Cmp.map _ ?_|refine Cmp.mo (fun _=>?_) _)
 all_goals exact Cmp.self _
def zFS:∀x,Cmp (wQ x):=by
 rintro⟨a,c,d,⟨⟩⟩
 delta wQ
 dsimp only
 repeat' (with_reducible first|exact zFk _|exact uR _|exact zBD _ _|exact zEp _|refine Cmp.bnd ?_ (fun _=>?_)|refine Cmp.cnd _ ?_ ?_|refine Cmp.ct ?_ (fun _=>?_)|refine Cmp.lp 12 (fun _=>?_) _|refine Cmp.ite _ ?_ ?_|refine Cmp.map _ ?_|refine Cmp.mo (fun _=>?_) _)
 all_goals exact Cmp.self _
def zFV:∀x,Cmp (wV x):=by
 rintro⟨a,c,d,⟨⟩⟩
 delta wV
 dsimp only
 repeat' (with_reducible first|exact uR _|exact zEp _|refine Cmp.bnd ?_ (fun _=>?_)|refine Cmp.cnd _ ?_ ?_|refine Cmp.ct ?_ (fun _=>?_)|refine Cmp.lp 12 (fun _=>?_) _|refine Cmp.ite _ ?_ ?_|refine Cmp.map _ ?_|refine Cmp.mo (fun _=>?_) _)
 all_goals exact Cmp.self _
def zDT{qG:ElS [(.pt qL),tI]->Option (RTy.El (.o zC))}(a:∀x,Cmp (qG x)):∀x,Cmp (jR qG x):=by
 rintro⟨c,d,e,⟨⟩⟩
 delta jR
 dsimp only
 repeat' (with_reducible first|exact zFV _|exact zFS _|exact zBD _ _|exact a _|refine Cmp.bnd ?_ (fun _=>?_)|refine Cmp.cnd _ ?_ ?_|refine Cmp.ct ?_ (fun _=>?_)|refine Cmp.lp 12 (fun _=>?_) _|refine Cmp.ite _ ?_ ?_|refine Cmp.map _ ?_|refine Cmp.mo (fun _=>?_) _)
 all_goals exact Cmp.self _
def zFU{linkstate_areaSet_announced:ElS [(.pt qL),tI,(.pt qN)]->Option (RTy.El (.p (.sl zN)))}(a:∀x,Cmp (linkstate_areaSet_announced x)):∀x,Cmp (wU linkstate_areaSet_announced x):=by
 rintro⟨c,d,⟨⟩⟩
 delta wU
 dsimp only
 repeat' (with_reducible first|exact zBi _|exact xC _|exact kU _|exact yB _|exact qT _|exact uI _|exact a _|refine Cmp.bnd ?_ (fun _=>?_)|refine Cmp.cnd _ ?_ ?_|refine Cmp.ct ?_ (fun _=>?_)|refine Cmp.lp 12 (fun _=>?_) _|refine Cmp.ite _ ?_ ?_|refine Cmp.map _ ?_|refine Cmp.mo (fun _=>?_) _)
 all_goals exact Cmp.self _
def zEq{linkstate_areaSet_inter:ElS [(.pt qL),tI]->Option (RTy.El (.p (.sl zC)))}(a:∀x,Cmp (linkstate_areaSet_inter x)):∀x,Cmp (j7 linkstate_areaSet_inter x):=by
 rintro⟨c,d,⟨⟩⟩
 delta j7
 dsimp only
 repeat' (with_reducible first|exact zFj _|exact zGN _|exact zT9 _|exact a _|refine Cmp.bnd ?_ (fun _=>?_)|refine Cmp.cnd _ ?_ ?_|refine Cmp.ct ?_ (fun _=>?_)|refine Cmp.lp 12 (fun _=>?_) _|refine Cmp.ite _ ?_ ?_|refine Cmp.map _ ?_|refine Cmp.mo (fun _=>?_) _)
 all_goals exact Cmp.self _
def zEY:∀a0 x,Cmp (kH a0 x):=by
 rintro a0 ⟨a,c,⟨⟩⟩
 delta kH
 dsimp only
 repeat' (with_reducible first|exact zHi _|refine Cmp.bnd ?_ (fun _=>?_)|refine Cmp.cnd _ ?_ ?_|refine Cmp.ct ?_ (fun _=>?_)|refine Cmp.lp 12 (fun _=>?_) _|refine Cmp.ite _ ?_ ?_|refine Cmp.map _ ?_|refine Cmp.mo (fun _=>?_) _)
 all_goals exact Cmp.self _
def zFi{qM:ElS [(.pt qL),tI,tI]->Option (RTy.El (.tu [tI,(.sl zP),.bool]))}(a:∀x,Cmp (qM x)):∀x,Cmp (wH qM x):=by
 rintro⟨c,d,e,f,⟨⟩⟩
 delta wH
 dsimp only
 repeat' (with_reducible first|exact qT _|exact a _|refine Cmp.bnd ?_ (fun _=>?_)|refine Cmp.cnd _ ?_ ?_|refine Cmp.ct ?_ (fun _=>?_)|refine Cmp.lp 12 (fun _=>?_) _|refine Cmp.ite _ ?_ ?_|refine Cmp.map _ ?_|refine Cmp.mo (fun _=>?_) _)
 all_goals exact Cmp.self _
def zDQ{linkstate_areaSet_onward:ElS [(.pt qL),tI,(.pt qN),tI]->Option (RTy.El (.p tI))}(a:∀x,Cmp (linkstate_areaSet_onward x)):∀a0 x,Cmp (jP linkstate_areaSet_onward a0 x):=by
 rintro a0 ⟨c,d,e,⟨⟩⟩
 delta jP
 dsimp only
 repeat' (with_reducible first|exact zEY _ _|exact zBi _|exact xC _|exact qT _|exact uI _|exact a _|refine Cmp.bnd ?_ (fun _=>?_)|refine Cmp.cnd _ ?_ ?_|refine Cmp.ct ?_ (fun _=>?_)|refine Cmp.lp 12 (fun _=>?_) _|refine Cmp.ite _ ?_ ?_|refine Cmp.map _ ?_|refine Cmp.mo (fun _=>?_) _)
 all_goals exact Cmp.self _
def zFT{linkstate_areaSet_reachOver:Ty.El wD->ElA [.d (.pt qL),.d tI,.d tI]->Option (Ty.El wD×RTy.El (.tu []))}(a:∀a0 x,Cmp (linkstate_areaSet_reachOver a0 x)):∀x,Cmp (wT linkstate_areaSet_reachOver x):=by
 rintro⟨c,e,f,⟨⟩⟩
 delta wT
 dsimp only
 repeat' (with_reducible first|exact zEY _ _|exact qT _|exact uI _|exact a _ _|refine Cmp.bnd ?_ (fun _=>?_)|refine Cmp.cnd _ ?_ ?_|refine Cmp.ct ?_ (fun _=>?_)|refine Cmp.lp 12 (fun _=>?_) _|refine Cmp.ite _ ?_ ?_|refine Cmp.map _ ?_|refine Cmp.mo (fun _=>?_) _)
 all_goals exact Cmp.self _
def zOG:∀n x,Cmp (j5 n x)
 |0,_=>Cmp.self _
 |n+1,x=>zEq (zFU (zDT (zOG n))) x
def zVd:∀n x,Cmp (wR n x)
 |0,_=>Cmp.self _
 |n+1,x=>zFT (zDQ (zFi (zVd n))) x
def p16(r a:Int):Ty.El zJS:=(r,(a,24,()),10,())
def d16(r q:Nat):Int:=((([[0,10,20],[10,0,10],[20,10,0]]:List (List Int)).getD r []).getD q (-1))
def qFd:Ty.El qN:=(0,[p16 0 167772160,p16 1 167772160,p16 1 167772416,p16 2 167772416,p16 2 167772672],qGs,b8 (fun r=>decide (r<3)),i88 d16,())
def qDA:Option (Nat×Ty.El qL):=some (3,(x4,3,[J (19,qFd)],()))
def qHM(a m:Int):Ty.El zC:=((a,24,()),3,1,110,m,0,0,0,[],0,0,[(0,167772162,())],false,())
def l16:List (Ty.El zC):=[qHM 167772416 20,qHM 167772672 30]
theorem zZS:qG (qDA,0,())=J l16:=(zOG 4 _).le _ (by kernel_rfl)
theorem qFW:qM (qDA,0,2,())=J (20,[(0,167772162,())],I,()):=(zVd 4 _).le _ (by kernel_rfl)
def qGw(v:Ty.El zI)(n:Nat):Cmp (zP5 v n):=by
 delta zP5
 refine Cmp.mo (fun r=>?_) _;refine Cmp.mo (fun i=>?_) _;generalize (vZ ((z8 v).getD r default))[i]?=o
 cases o with
 |none=>exact Cmp.self _
 |some x=>exact zA8 _
def qE6(v:Ty.El zI)(n:Nat)(a:AR):Cmp (zDE v n a):=by
 delta zDE
 exact Cmp.bnd (zOE _) (fun _=>Cmp.bnd (Cmp.mo (fun _=>Cmp.ite _ (Cmp.bnd (zJu _) (fun _=>Cmp.self _)) (Cmp.self _)) _) (fun _=>Cmp.self _))
def qDk:List (List Bool):=[[I],[I,I],[I,I]]
theorem qFC:zP5 x4 3=J qDk:=(qGw _ _).le _ (by kernel_rfl)
def zZs:List AR:=qV (fun r i=>(qDk.getD r []).getD i false) zN3 ((z8 x4).map vZ) 3
def qHD:AR:=zZs.headD ⟨0,[],fun _=>false⟩
theorem qFN:zZs=[qHD]:=by kernel_rfl
theorem qH3:zTj x4 3 qDk=[qHD]:=by show zCB zZs=_;rw[qFN];exact List.mergeSort_singleton _
theorem qGE:zDE x4 3 qHD=J qFd:=(qE6 _ _ _).le _ (by kernel_rfl)
theorem qDx:(zFf x4).map (fun s=>(J s:Option (Nat×Ty.El qL)))=J qDA:=by have h:zFf x4=Aa (zP5 x4 3) (fun c=>Aa (zCw (zDE x4 3) (zTj x4 3 c)) fun d=>J (3,x4,((3:Nat):Int),d.zipIdx.map (fun a=>J (16*(a.2+1)+3,a.1)),())):=rfl;rw[h,qFC,af,qH3];simp only[zCw,qGE];rfl
theorem zTH:zCy (x4,0,())=J l16:=by
 obtain⟨s,d,e⟩:=am.1 qDx;have h:zCy (x4,0,())=((Aa ((zFf x4).map (fun s=>(I,J s))) fun(a:Bool×Option (Nat×Ty.El qL))=>Aa (j6 a.1 (a.2,0,())) fun(c:Bool×List (Ty.El zC))=>J (c.1,c.2))).map Prod.snd:=rfl;rw[h,d];have f:j6 I (J s,0,())=J (I,l16):=by show(qG (J s,0,())).map _=_;rw[e,zZS];rfl
 show(Aa (j6 I (J s,0,())) _).map _=_;rw[f];rfl
theorem zZA:zFg (x4,0,2,())=J (20,[(0,167772162,())],I,()):=by
 obtain⟨s,d,e⟩:=am.1 qDx
 have h : zFg (x4, 0, 2, ()) = ((Aa ((zFf x4).map (fun s =>(I, J s))) fun(c : Bool × Option (Nat × Ty.El qL)) => Aa (wS c.1 (c.2, 0, 2, ())) fun(a : Bool × Int × List (Ty.El zP) × Bool × Unit) =>
      J (a.1,a.2.1,a.2.2.1,a.2.2.2.1,()))).map Prod.snd:=rfl
 rw[h,d];have f:wS I (J s,0,2,())=J (I,20,[(0,167772162,())],I,()):=by show(qM (J s,0,2,())).map _=_;rw[e,qFW];rfl
 show(Aa (wS I (J s,0,2,())) _).map _=_;rw[f];rfl
end
end Go.Ve
