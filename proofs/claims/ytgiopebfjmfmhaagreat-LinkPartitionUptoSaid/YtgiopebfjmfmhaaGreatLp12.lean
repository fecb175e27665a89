/- law16 -/
import Derived.Test.YtgiopebfjmfmhaaGreatLp11
import Derived.Test.YtgiopebfjmfmhaaGreatLp10
set_option linter.unusedVariables false
open Option renaming some->Sa,none->Sc
open Bool renaming true->Sb,false->Sd
open Go.IntKind renaming wrap->Aa,bits->Ae,u64->Af
open List renaming length->Ab,set->Ak
open Option renaming bind->Ac,map->An
open Int renaming toNat->Ad,fdiv->Ag
open BitVec renaming ofInt->Ah
open Sum renaming inl->Ai,inr->Al
open Nat renaming beq->Aj,min_eq_right->Ao
open List.Pairwise renaming nil->Am
set_option maxRecDepth 1000000
set_option maxHeartbeats 4000000
namespace Go.Ve
open Go
variable {i:Type}
theorem vB{m:Option i}{x:i}(h:Wp m (fun r=>r=x)):m=Sa x:=by obtain⟨r,a,rfl⟩:=h;exact a
variable {I J:Ty.El zD}
theorem zJL(h:(I.1==J.1&&(I.2.1==J.2.1&&Sb))=Sb):I=J:=by
 grind
def zHe(a b c d:Int):Prop:=a<c\/(a=c/\b<d)
def plt(p q:Ty.El zD):Prop:=zHe p.1 p.2.1 q.1 q.2.1
theorem zKC:Ord plt where
 asym:=fun x y h=>by grind[plt,zHe]
 tr:=fun x y z a c=>by grind[plt,zHe]
variable {g C a1 a3:Int}
theorem qAB(h:¬zHe a1 a3 g C)(e:¬(g=a1/\C=a3)):zHe g C a1 a3:=by
 grind[zHe]
theorem zY0(h:¬plt J I)(a:I≠J):plt I J:=by
 refine qAB h (fun e=>a ?_)
 grind
def zN8(a b c d:Int):Int:=if a<c then-1 else if c<a then 1 else if b<d then-1 else if d<b then 1 else 0
def qFQ(p q:Ty.El zD):Int:=zN8 p.1 p.2.1 q.1 q.2.1
theorem zVP:zN8 g C a1 a3<0↔zHe g C a1 a3:=by
 grind[zN8,zHe]
theorem zQY:qFQ I J<0↔plt I J:=zVP
theorem zRo(a b:Int):kI (a,b,())=Sa (if a<b then-1 else if b<a then 1 else 0):=by refine vB ?_;unfold kI zBK;simp only[af,bne_self_eq_false,cond_false];refine zP (fun h=>zA ?_) (fun h=>zP (fun c=>zA ?_) (fun c=>zA ?_));all_goals grind
theorem zCj(a b:Int):qH (a,b,())=Sa (if a<b then-1 else if b<a then 1 else 0):=by refine vB ?_;unfold qH zAW;simp only[af,bne_self_eq_false,cond_false];refine zP (fun h=>zA ?_) (fun h=>zP (fun c=>zA ?_) (fun c=>zA ?_));all_goals grind
theorem qAV{a b c d:Int}:(if((if a<c then(-1:Int)else if c<a then 1 else 0) !=0)=Sb then(if a<c then(-1:Int)else if c<a then 1 else 0)else(if b<d then(-1:Int)else if d<b then 1 else 0))=zN8 a b c d:=by
 grind[zN8]
theorem zNa(p q:Ty.El zD):zFL (p,q,())=Sa (qFQ p q):=by
 refine vB ?_;unfold zFL;dsimp only;refine zB (zM (zRo _ _) (zH (fun h=>zA ?_) (fun h=>zB (zM (zCj _ _) (zA ?_)))))
 .have:=qAV (a:=p.1) (b:=p.2.1) (c:=q.1) (d:=q.2.1);rw[if_pos h]at this;exact this
 .have:=qAV (a:=p.1) (b:=p.2.1) (c:=q.1) (d:=q.2.1);rw[if_neg (by rw[h];simp)]at this;exact this
theorem qGV(h:zHe g C a1 a3): -1=zN8 g C a1 a3:=by unfold zN8;unfold zHe at h;omega
theorem qGT:0=zN8 g C g C:=by simp_all[zN8]
theorem qGU(h:¬zHe g C a1 a3)(e:¬(g=a1/\C=a3)):1=zN8 g C a1 a3:=by unfold zN8;unfold zHe at h;omega
theorem zM6(p q:Ty.El zD):zC7 (p,q,())=Sa (qFQ p q):=by
 refine vB ?_;unfold zC7;dsimp only;refine zB ((show Wp _ (fun s:Bool=>s=Sb↔plt p q)from ?_).mono (fun s d=>?_))
 .refine zP (fun h=>zA ⟨fun _=>.inl h,fun _=>rfl⟩) (fun h=>zH (fun c=>zA ?_) (fun c=>zA ?_))
  .have c:p.1=q.1:=by simpa using c
   rw[decide_eq_true_eq];constructor
   .intro a;exact .inr ⟨c,a⟩
   .intro a;rcases a with a|a;all_goals grind
  .have c:¬p.1=q.1:=by simpa using c
   constructor
   .grind
   .intro a;exfalso;rcases a with a|a;all_goals grind
 .refine zH (fun h=>zA (qGV (d.1 h))) (fun h=>zH (fun e=>zA ?_) (fun e=>zA (qGU ?_ ?_)))
  .have:=zJL e;subst this;exact qGT
  .exact fun f=>by rw[d.2 f]at h;cases h
  grind
def zEB(p:Ty.El zD)(v:Int)(a:Ty.El zD)(c:Int):Prop:=plt p a\/(p=a/\v<c)
theorem zXp{r:Ty.El zD}(c:zEB I g J C)(a:zEB J C r a1):zEB I g r a1:=by
 rcases c with c|⟨rfl,c⟩
 .rcases a with a|⟨rfl,a⟩
  .exact .inl (by grind[plt,zHe])
  .exact .inl c
 .rcases a with a|⟨rfl,a⟩
  .exact .inl a
  .exact .inr ⟨rfl,by omega⟩
theorem qDJ(h:¬zEB I g J C)(d:¬(I=J/\g=C)):zEB J C I g:=by
 by_cases c:I=J
 .subst c;refine .inr ⟨rfl,?_⟩;have e:¬g<C:=fun a=>h (.inr ⟨rfl,a⟩)
  grind
 .exact .inl (zY0 (fun a=>h (.inl a)) (fun a=>c a.symm))
theorem qBG:¬zEB I g I g:=by
 rintro(h|⟨_,h⟩)
 .unfold plt zHe at h;omega
 .omega
variable {a0:List i}
theorem zAp{y:i}(h:a0[g.toNat]?=Sa y)(a:0<=g:=by omega):idx a0 g=Sa y:=by rw[idx,if_pos a];exact h
theorem qZ{Q:i->Prop}{B:i->Prop}(a:∀y,y∈a0->B y)(c:0<=g)(d:g<a0.length)(h:∀y,a0[g.toNat]?=Sa y->B y->Q y):Wp (idx a0 g) Q:=
 zAa c d (fun y e f=>h y f (a y e))
structure SmR(r:Ty.El zG):Prop where
 i1:Ab r.2.2.1<=20
 i2:Ab r.2.2.2.1<=20
 i3:Ab r.2.2.2.2.1<=20
 i4:Ab r.2.2.2.2.2.1<=20
 i5:Ab r.2.2.2.2.2.2.1<=20
 i6:Ab r.2.2.2.2.2.2.2.1<=20
 i7:Ab r.2.2.2.2.2.2.2.2.1.2.2.1<=20
 i8:Ab r.2.2.2.2.2.2.2.2.1.2.2.2.1<=20
 i9:Ab r.2.2.2.2.2.2.2.2.2.1.2.2.2.2.1<=20
 i10:Ab r.2.2.2.2.2.2.2.2.2.2.1.2.2.2.1<=20
 i11:Ab r.2.2.2.2.2.2.2.2.2.2.1.2.2.2.2.1<=20
 i12:Ab r.2.2.2.2.2.2.2.2.2.2.1.2.2.2.2.2.1<=20
 i13:Ab r.2.2.2.2.2.2.2.2.2.2.1.2.2.2.2.2.2.1<=20
 i14:Ab r.2.2.2.2.2.2.2.2.2.2.1.2.2.2.2.2.2.2.1<=20
 n1:∀y,y∈r.2.2.2.1->Ab y.2.1<=20
 n2:∀y,y∈r.2.2.2.2.1->Ab y.2.1<=20
 n3:∀y,y∈r.2.2.2.2.2.1->Ab y.2.1<=20
structure qHI(r:Ty.El tPV):Prop where
 i10:Ab r.2.2.2.1<=20
 i11:Ab r.2.2.2.2.1<=20
 i12:Ab r.2.2.2.2.2.1<=20
 i13:Ab r.2.2.2.2.2.2.1<=20
 i14:Ab r.2.2.2.2.2.2.2.1<=20
theorem zG9(a1:Int):Wp (zCz (a1,())) (fun _=>True):=by
 unfold zCz;refine zB ?_;refine qEP (fun _ _=>True) trivial (fun s g a c _=>?_) (fun s g _ _ _=>zA (e2r (zA trivial)));refine zB ?_;refine zP (fun _=>?_) (fun _=>?_)
 .refine zP (fun _=>?_) (fun d=>?_)
  .exact zA (zA (e2l ⟨zJ (by simp only;omega) (by simp only;omega),trivial⟩))
  grind[zJ,zMR]
 .exact zA (zA (e2l ⟨zJ (by simp only;omega) (by simp only;omega),trivial⟩))
theorem zP8(a1:Ty.El (.int .u8)):Wp (zEp (a1,())) (fun _=>True):=by
 unfold zEp;try dsimp only
 repeat' (first
  |with_reducible exact trivial
  |assumption
  |contradiction
  |with_reducible first|refine zA ?_|refine zP (fun _=>?_) (fun _=>?_)|refine zH (fun _=>?_) (fun _=>?_)|refine zB ?_
  |omega)
theorem xT(a1:Ty.El (.str)):Wp (zCy (a1,())) (fun _=>True):=by
 unfold zCy;try dsimp only
 repeat' (first
  |with_reducible exact trivial
  |assumption
  |contradiction
  |with_reducible first|refine zA ?_|refine(zP8 _).mono (fun r _=>?_)|refine qA4 ?_ ?_ (fun y _ _=>?_)|refine x6 (fun _=>?_) (fun _=>?_)|refine zP (fun _=>?_) (fun _=>?_)|refine zH (fun _=>?_) (fun _=>?_)|refine wU ?_|refine zAz (fun s _ _=>?_) (fun s _ _=>?_)|refine zB ?_|refine e2l ?_|refine e2r ?_
  |exact zJ (by omega) (by omega)
  |omega
  |(simp only[aH,aP]at*;exact zJ (by omega) (by omega)))
theorem vC(a1:Ty.El (tI))(a:Ty.El (tI))(c:Ty.El (tI)):Wp (qB (a1,a,c,())) (fun _=>True):=by simp_all[zA,zH,qB]
theorem zHz(a1:Ty.El (tU))(a:Ty.El (tI)):Wp (uC (a1,a,())) (fun _=>True):=by
 unfold uC;try dsimp only
 repeat' (first
  |with_reducible exact trivial
  |assumption
  |contradiction
  |with_reducible first|refine zA ?_|refine(zG9 _).mono (fun r _=>?_)|refine zB ?_
  |exact zJ (by omega) (by omega)
  |omega
  |(simp only[aH,aP]at*;exact zJ (by omega) (by omega)))
theorem zMY(a1:Ty.El (zD))(a:Ty.El (tU)):Wp (zAT (a1,a,())) (fun _=>True):=by
 unfold zAT;try dsimp only
 repeat' (first
  |with_reducible exact trivial
  |assumption
  |contradiction
  |with_reducible first|refine zA ?_|refine(zG9 _).mono (fun r _=>?_)|refine zB ?_
  |exact zJ (by omega) (by omega)
  |omega
  |(simp only[aH,aP]at*;exact zJ (by omega) (by omega)))
theorem zP9(a1:Ty.El (zD))(a:Ty.El (zD)):Wp (zBg (a1,a,())) (fun _=>True):=by
 unfold zBg;try dsimp only
 repeat' (first
  |with_reducible exact trivial
  |assumption
  |contradiction
  |with_reducible first|refine zA ?_|refine(zMY _ _).mono (fun r _=>?_)|refine zP (fun _=>?_) (fun _=>?_)|refine zH (fun _=>?_) (fun _=>?_)|refine zB ?_
  |omega)
theorem zGJ(a1:Ty.El (zD))(a:Ty.El (zD)):Wp (xX (a1,a,())) (fun _=>True):=by
 unfold xX;try dsimp only
 repeat' (first
  |with_reducible exact trivial
  |assumption
  |contradiction
  |with_reducible first|refine zA ?_|refine(zP9 _ _).mono (fun r _=>?_)|refine zH (fun _=>?_) (fun _=>?_)|refine zB ?_
  |omega)
theorem zKS(a1:Ty.El (.sl z6))(a:Ab a1<=20):Wp (xD (a1,())) (fun _=>True):=by
 unfold xD;try dsimp only
 repeat' (first
  |with_reducible exact trivial
  |assumption
  |contradiction
  |with_reducible first|refine zA ?_|refine(xT _).mono (fun r _=>?_)|refine(vC _ _ _).mono (fun r _=>?_)|refine(zHz _ _).mono (fun r _=>?_)|refine(zGJ _ _).mono (fun r _=>?_)|refine zAa ?_ ?_ (fun y _ _=>?_)|refine x6 (fun _=>?_) (fun _=>?_)|refine zP (fun _=>?_) (fun _=>?_)|refine zH (fun _=>?_) (fun _=>?_)|refine wU ?_|refine zAz (fun s _ _=>?_) (fun s _ _=>?_)
  |simp only[zAp ‹_[_]?=Sa _›,af]
  |with_reducible first|refine zB ?_|refine e2l ?_|refine e2r ?_
  |exact zJ (by omega) (by omega)
  |omega
  |(simp only[aH,aP]at*;exact zJ (by omega) (by omega)))
theorem zCT(a1:Ty.El (zD)):Wp (u7 (a1,())) (fun _=>True):=by
 unfold u7;try dsimp only
 repeat' (first
  |with_reducible exact trivial
  |assumption
  |contradiction
  |with_reducible first|refine zA ?_|refine(zG9 _).mono (fun r _=>?_)|refine zP (fun _=>?_) (fun _=>?_)|refine zH (fun _=>?_) (fun _=>?_)|refine zB ?_
  |exact zJ (by omega) (by omega)
  |omega
  |(simp only[aH,aP]at*;exact zJ (by omega) (by omega)))
theorem zG8(a1:Ty.El (zRh)):Wp (xL (a1,())) (fun _=>True):=by
 unfold xL;try dsimp only
 repeat' (first
  |with_reducible exact trivial
  |assumption
  |contradiction
  |with_reducible first|refine zA ?_|refine(zCT _).mono (fun r _=>?_)|refine zP (fun _=>?_) (fun _=>?_)|refine zH (fun _=>?_) (fun _=>?_)|refine zB ?_
  |omega)
theorem zEn(a1:Ty.El (.sl zDX))(c:Ab a1<=20)(a:∀y,y∈a1->Ab y.2.1<=20):Wp (zAh (a1,())) (fun _=>True):=by
 unfold zAh;try dsimp only
 repeat' (first
  |with_reducible exact trivial
  |assumption
  |contradiction
  |with_reducible first|refine zA ?_|refine(xT _).mono (fun r _=>?_)|refine(zG8 _).mono (fun r _=>?_)|refine qZ a ?_ ?_ (fun y _ _=>?_)|refine zAa ?_ ?_ (fun y _ _=>?_)|refine x6 (fun _=>?_) (fun _=>?_)|refine zP (fun _=>?_) (fun _=>?_)|refine zH (fun _=>?_) (fun _=>?_)|refine wU ?_|refine zAz (fun s _ _=>?_) (fun s _ _=>?_)
  |simp only[zAp ‹_[_]?=Sa _›,af]
  |with_reducible first|refine zB ?_|refine e2l ?_|refine e2r ?_
  |exact zJ (by omega) (by omega)
  |omega
  |(simp only[aH,aP]at*;exact zJ (by omega) (by omega)))
theorem zFf(a1:Ty.El (zG))(h:Ty.El (.str))(i:SmR a1):Wp (u6 (a1,h,())) (fun(r:Int)=> -1<=r/\r< (Ab a1.2.2.2.1:Int)):=by
 have a:=i;obtain⟨m,n,p,q,t,u,x,i8,z,c,d,e,f,g,j,k,l⟩:=a;unfold u6;try dsimp only
 repeat' (first
  |with_reducible exact trivial
  |exact⟨c,d,e,f,g⟩
  |assumption
  |contradiction
  |with_reducible first|refine zA ?_|refine qZ j ?_ ?_ (fun y _ _=>?_)|refine qZ k ?_ ?_ (fun y _ _=>?_)|refine qZ l ?_ ?_ (fun y _ _=>?_)|refine zAa ?_ ?_ (fun y _ _=>?_)|refine zP (fun _=>?_) (fun _=>?_)|refine zH (fun _=>?_) (fun _=>?_)|refine wU ?_|refine zAz (fun s _ _=>?_) (fun s _ _=>?_)
  |simp only[zAp ‹_[_]?=Sa _›,af]
  |with_reducible first|refine zB ?_|refine e2l ?_|refine e2r ?_
  |exact zJ (by omega) (by omega)
  |omega
  |(simp only[aH,aP]at*;exact zJ (by omega) (by omega))
  |exact⟨by omega,by omega⟩)
theorem zFT(a1:Ty.El (zG))(h:SmR a1):Wp (zBe (a1,())) (fun _=>True):=by
 have a:=h;obtain⟨l,m,n,p,q,t,u,i8,x,c,d,e,f,g,i,j,k⟩:=a;unfold zBe;try dsimp only
 repeat' (first
  |with_reducible exact trivial
  |exact⟨c,d,e,f,g⟩
  |assumption
  |contradiction
  |with_reducible first|refine zA ?_|refine(xT _).mono (fun r _=>?_)|refine(zFf _ _ ?_).mono (fun r _=>?_)|refine(vC _ _ _).mono (fun r _=>?_)|refine qZ i ?_ ?_ (fun y _ _=>?_)|refine qZ j ?_ ?_ (fun y _ _=>?_)|refine qZ k ?_ ?_ (fun y _ _=>?_)|refine zAa ?_ ?_ (fun y _ _=>?_)|refine x6 (fun _=>?_) (fun _=>?_)|refine zP (fun _=>?_) (fun _=>?_)|refine zH (fun _=>?_) (fun _=>?_)|refine wU ?_|refine zAz (fun s _ _=>?_) (fun s _ _=>?_)
  |simp only[zAp ‹_[_]?=Sa _›,af]
  |with_reducible first|refine zB ?_|refine e2l ?_|refine e2r ?_
  |exact zJ (by omega) (by omega)
  |omega
  |(simp only[aH,aP]at*;exact zJ (by omega) (by omega)))
theorem zRc(a1:Ty.El (zS)):Wp (zF1 (a1,())) (fun _=>True):=by
 unfold zF1;try dsimp only
 repeat' (first
  |with_reducible exact trivial
  |assumption
  |contradiction
  |with_reducible first|refine zA ?_|refine zP (fun _=>?_) (fun _=>?_)|refine zH (fun _=>?_) (fun _=>?_)|refine zB ?_
  |omega)
theorem zUP(a1:Ty.El (zS)):Wp (zJH (a1,())) (fun _=>True):=by simp_all[zA,zJH]
theorem zLN(a1:Ty.El (zWm)):Wp (zC6 (a1,())) (fun _=>True):=by
 unfold zC6;try dsimp only
 repeat' (first
  |with_reducible exact trivial
  |assumption
  |contradiction
  |with_reducible first|refine zA ?_|refine(vC _ _ _).mono (fun r _=>?_)|refine(zRc _).mono (fun r _=>?_)|refine(zUP _).mono (fun r _=>?_)|refine x6 (fun _=>?_) (fun _=>?_)|refine zH (fun _=>?_) (fun _=>?_)|refine zB ?_
  |exact zJ (by omega) (by omega)
  |omega
  |(simp only[aH,aP]at*;exact zJ (by omega) (by omega)))
theorem zEo(a1:Ty.El (.sl zOu))(c:Ab a1<=20)(a:∀y,y∈a1->Ab y.2.1<=20):Wp (zAi (a1,())) (fun _=>True):=by
 unfold zAi;try dsimp only
 repeat' (first
  |with_reducible exact trivial
  |assumption
  |contradiction
  |with_reducible first|refine zA ?_|refine(xT _).mono (fun r _=>?_)|refine(zLN _).mono (fun r _=>?_)|refine qZ a ?_ ?_ (fun y _ _=>?_)|refine zAa ?_ ?_ (fun y _ _=>?_)|refine x6 (fun _=>?_) (fun _=>?_)|refine zP (fun _=>?_) (fun _=>?_)|refine zH (fun _=>?_) (fun _=>?_)|refine wU ?_|refine zAz (fun s _ _=>?_) (fun s _ _=>?_)
  |simp only[zAp ‹_[_]?=Sa _›,af]
  |with_reducible first|refine zB ?_|refine e2l ?_|refine e2r ?_
  |exact zJ (by omega) (by omega)
  |omega
  |(simp only[aH,aP]at*;exact zJ (by omega) (by omega)))
theorem zMX(a1:Ty.El (zG))(h:Ty.El (.str))(i:SmR a1):Wp (zF2 (a1,h,())) (fun(r:Int)=> -1<=r/\r< (Ab a1.2.2.2.2.2.1:Int)):=by
 have a:=i;obtain⟨m,n,p,q,t,u,x,i8,z,c,d,e,f,g,j,k,l⟩:=a;unfold zF2;try dsimp only
 repeat' (first
  |with_reducible exact trivial
  |exact⟨c,d,e,f,g⟩
  |assumption
  |contradiction
  |with_reducible first|refine zA ?_|refine qZ j ?_ ?_ (fun y _ _=>?_)|refine qZ k ?_ ?_ (fun y _ _=>?_)|refine qZ l ?_ ?_ (fun y _ _=>?_)|refine zAa ?_ ?_ (fun y _ _=>?_)|refine zP (fun _=>?_) (fun _=>?_)|refine zH (fun _=>?_) (fun _=>?_)|refine wU ?_|refine zAz (fun s _ _=>?_) (fun s _ _=>?_)
  |simp only[zAp ‹_[_]?=Sa _›,af]
  |with_reducible first|refine zB ?_|refine e2l ?_|refine e2r ?_
  |exact zJ (by omega) (by omega)
  |omega
  |(simp only[aH,aP]at*;exact zJ (by omega) (by omega))
  |exact⟨by omega,by omega⟩)
theorem zDL(a1:Ty.El (zG))(h:SmR a1):Wp (xK (a1,())) (fun _=>True):=by
 have a:=h;obtain⟨l,m,n,p,q,t,u,i8,x,c,d,e,f,g,i,j,k⟩:=a;unfold xK;try dsimp only
 repeat' (first
  |with_reducible exact trivial
  |exact⟨c,d,e,f,g⟩
  |assumption
  |contradiction
  |with_reducible first|refine zA ?_|refine(vC _ _ _).mono (fun r _=>?_)|refine(zMX _ _ ?_).mono (fun r _=>?_)|refine qZ i ?_ ?_ (fun y _ _=>?_)|refine qZ j ?_ ?_ (fun y _ _=>?_)|refine qZ k ?_ ?_ (fun y _ _=>?_)|refine zAa ?_ ?_ (fun y _ _=>?_)|refine x6 (fun _=>?_) (fun _=>?_)|refine zP (fun _=>?_) (fun _=>?_)|refine zH (fun _=>?_) (fun _=>?_)|refine wU ?_|refine zAz (fun s _ _=>?_) (fun s _ _=>?_)
  |simp only[zAp ‹_[_]?=Sa _›,af]
  |with_reducible first|refine zB ?_|refine e2l ?_|refine e2r ?_
  |exact zJ (by omega) (by omega)
  |omega
  |(simp only[aH,aP]at*;exact zJ (by omega) (by omega)))
theorem zHy(a1:Ty.El (zG))(h:SmR a1):Wp (zC5 (a1,())) (fun _=>True):=by
 have a:=h;obtain⟨l,m,n,p,q,t,u,i8,x,c,d,e,f,g,i,j,k⟩:=a;unfold zC5;try dsimp only
 repeat' (first
  |with_reducible exact trivial
  |exact⟨c,d,e,f,g⟩
  |assumption
  |contradiction
  |with_reducible first|refine zA ?_|refine(zMX _ _ ?_).mono (fun r _=>?_)|refine qZ i ?_ ?_ (fun y _ _=>?_)|refine qZ j ?_ ?_ (fun y _ _=>?_)|refine qZ k ?_ ?_ (fun y _ _=>?_)|refine zAa ?_ ?_ (fun y _ _=>?_)|refine zP (fun _=>?_) (fun _=>?_)|refine zH (fun _=>?_) (fun _=>?_)|refine wU ?_|refine zAz (fun s _ _=>?_) (fun s _ _=>?_)
  |simp only[zAp ‹_[_]?=Sa _›,af]
  |with_reducible first|refine zB ?_|refine e2l ?_|refine e2r ?_
  |exact zJ (by omega) (by omega)
  |omega
  |(simp only[aH,aP]at*;exact zJ (by omega) (by omega)))
theorem zDV(a1:Ty.El (zG))(h:Ty.El (tU))(i:SmR a1):Wp (zAF (a1,h,())) (fun(r:Int)=> -1<=r/\r< (Ab a1.2.2.1:Int)):=by
 have a:=i;obtain⟨m,n,p,q,t,u,x,i8,z,c,d,e,f,g,j,k,l⟩:=a;unfold zAF;try dsimp only
 repeat' (first
  |with_reducible exact trivial
  |exact⟨c,d,e,f,g⟩
  |assumption
  |contradiction
  |with_reducible first|refine zA ?_|refine qZ j ?_ ?_ (fun y _ _=>?_)|refine qZ k ?_ ?_ (fun y _ _=>?_)|refine qZ l ?_ ?_ (fun y _ _=>?_)|refine zAa ?_ ?_ (fun y _ _=>?_)|refine zP (fun _=>?_) (fun _=>?_)|refine zH (fun _=>?_) (fun _=>?_)|refine wU ?_|refine zAz (fun s _ _=>?_) (fun s _ _=>?_)
  |simp only[zAp ‹_[_]?=Sa _›,af]
  |with_reducible first|refine zB ?_|refine e2l ?_|refine e2r ?_
  |exact zJ (by omega) (by omega)
  |omega
  |(simp only[aH,aP]at*;exact zJ (by omega) (by omega))
  |exact⟨by omega,by omega⟩)
theorem zLO(a1:Ty.El (zG))(h:Ty.El (.str))(i:SmR a1):Wp (zAj (a1,h,())) (fun(r:Int)=> -1<=r/\r< (Ab a1.2.2.1:Int)):=by
 have a:=i;obtain⟨m,n,p,q,t,u,x,i8,z,c,d,e,f,g,j,k,l⟩:=a;unfold zAj;try dsimp only
 repeat' (first
  |with_reducible exact trivial
  |exact⟨c,d,e,f,g⟩
  |assumption
  |contradiction
  |with_reducible first|refine zA ?_|refine qZ j ?_ ?_ (fun y _ _=>?_)|refine qZ k ?_ ?_ (fun y _ _=>?_)|refine qZ l ?_ ?_ (fun y _ _=>?_)|refine zAa ?_ ?_ (fun y _ _=>?_)|refine zP (fun _=>?_) (fun _=>?_)|refine zH (fun _=>?_) (fun _=>?_)|refine wU ?_|refine zAz (fun s _ _=>?_) (fun s _ _=>?_)
  |simp only[zAp ‹_[_]?=Sa _›,af]
  |with_reducible first|refine zB ?_|refine e2l ?_|refine e2r ?_
  |exact zJ (by omega) (by omega)
  |omega
  |(simp only[aH,aP]at*;exact zJ (by omega) (by omega))
  |exact⟨by omega,by omega⟩)
theorem zOt(a1:Ty.El (zG))(h:SmR a1):Wp (zBD (a1,())) (fun _=>True):=by
 have a:=h;obtain⟨l,m,n,p,q,t,u,i8,x,c,d,e,f,g,i,j,k⟩:=a;unfold zBD;try dsimp only
 repeat' (first
  |with_reducible exact trivial
  |exact⟨c,d,e,f,g⟩
  |assumption
  |contradiction
  |with_reducible first|refine zA ?_|refine(zCT _).mono (fun r _=>?_)|refine(zDV _ _ ?_).mono (fun r _=>?_)|refine(vC _ _ _).mono (fun r _=>?_)|refine(zLO _ _ ?_).mono (fun r _=>?_)|refine qZ i ?_ ?_ (fun y _ _=>?_)|refine qZ j ?_ ?_ (fun y _ _=>?_)|refine qZ k ?_ ?_ (fun y _ _=>?_)|refine zAa ?_ ?_ (fun y _ _=>?_)|refine x6 (fun _=>?_) (fun _=>?_)|refine zP (fun _=>?_) (fun _=>?_)|refine zH (fun _=>?_) (fun _=>?_)|refine wU ?_|refine zAz (fun s _ _=>?_) (fun s _ _=>?_)
  |simp only[zAp ‹_[_]?=Sa _›,af]
  |with_reducible first|refine zB ?_|refine e2l ?_|refine e2r ?_
  |exact zJ (by omega) (by omega)
  |omega
  |(simp only[aH,aP]at*;exact zJ (by omega) (by omega)))
theorem zGI(a1:Ty.El (zG))(h:Ty.El (.str))(i:SmR a1):Wp (xV (a1,h,())) (fun(r:Int)=> -1<=r/\r< (Ab a1.2.2.2.2.1:Int)):=by
 have a:=i;obtain⟨m,n,p,q,t,u,x,i8,z,c,d,e,f,g,j,k,l⟩:=a;unfold xV;try dsimp only
 repeat' (first
  |with_reducible exact trivial
  |exact⟨c,d,e,f,g⟩
  |assumption
  |contradiction
  |with_reducible first|refine zA ?_|refine qZ j ?_ ?_ (fun y _ _=>?_)|refine qZ k ?_ ?_ (fun y _ _=>?_)|refine qZ l ?_ ?_ (fun y _ _=>?_)|refine zAa ?_ ?_ (fun y _ _=>?_)|refine zP (fun _=>?_) (fun _=>?_)|refine zH (fun _=>?_) (fun _=>?_)|refine wU ?_|refine zAz (fun s _ _=>?_) (fun s _ _=>?_)
  |simp only[zAp ‹_[_]?=Sa _›,af]
  |with_reducible first|refine zB ?_|refine e2l ?_|refine e2r ?_
  |exact zJ (by omega) (by omega)
  |omega
  |(simp only[aH,aP]at*;exact zJ (by omega) (by omega))
  |exact⟨by omega,by omega⟩)
theorem xS(a1:Ty.El (zG))(h:Ty.El (.sl zGL))(i:Ty.El (tI))(j:Ty.El (tI))(k:Ty.El (tI))(l:SmR a1)(q:Ab h<=20):Wp (kK (a1,h,i,j,k,())) (fun _=>True):=by
 have a:=l;obtain⟨t,u,x,z,A,B,C,i8,D,c,d,e,f,g,m,n,p⟩:=a;unfold kK;try dsimp only
 repeat' (first
  |with_reducible exact trivial
  |exact⟨c,d,e,f,g⟩
  |assumption
  |contradiction
  |with_reducible first|refine zA ?_|refine(vC _ _ _).mono (fun r _=>?_)|refine(zGI _ _ ?_).mono (fun r _=>?_)|refine qZ m ?_ ?_ (fun y _ _=>?_)|refine qZ n ?_ ?_ (fun y _ _=>?_)|refine qZ p ?_ ?_ (fun y _ _=>?_)|refine zAa ?_ ?_ (fun y _ _=>?_)|refine x6 (fun _=>?_) (fun _=>?_)|refine zP (fun _=>?_) (fun _=>?_)|refine zH (fun _=>?_) (fun _=>?_)|refine wU ?_|refine zAz (fun s _ _=>?_) (fun s _ _=>?_)
  |simp only[zAp ‹_[_]?=Sa _›,af]
  |with_reducible first|refine zB ?_|refine e2l ?_|refine e2r ?_
  |exact zJ (by omega) (by omega)
  |omega
  |(simp only[aH,aP]at*;exact zJ (by omega) (by omega)))
theorem zFU(a1:Ty.El (zG))(h:SmR a1):Wp (zBf (a1,())) (fun _=>True):=by
 have a:=h;obtain⟨l,m,n,p,q,t,u,i8,x,c,d,e,f,g,i,j,k⟩:=a;unfold zBf;try dsimp only
 repeat' (first
  |with_reducible exact trivial
  |exact⟨c,d,e,f,g⟩
  |assumption
  |contradiction
  |with_reducible first|refine zA ?_|refine(vC _ _ _).mono (fun r _=>?_)|refine(zCT _).mono (fun r _=>?_)|refine(zGJ _ _).mono (fun r _=>?_)|refine(xS _ _ _ _ _ ?_ ?_).mono (fun r _=>?_)|refine qZ i ?_ ?_ (fun y _ _=>?_)|refine qZ j ?_ ?_ (fun y _ _=>?_)|refine qZ k ?_ ?_ (fun y _ _=>?_)|refine zAa ?_ ?_ (fun y _ _=>?_)|refine x6 (fun _=>?_) (fun _=>?_)|refine zP (fun _=>?_) (fun _=>?_)|refine zH (fun _=>?_) (fun _=>?_)|refine wU ?_|refine zAz (fun s _ _=>?_) (fun s _ _=>?_)
  |simp only[zAp ‹_[_]?=Sa _›,af]
  |with_reducible first|refine zB ?_|refine e2l ?_|refine e2r ?_
  |exact zJ (by omega) (by omega)
  |omega
  |(simp only[aH,aP]at*;exact zJ (by omega) (by omega)))
theorem zGH(a1:Ty.El (zG))(h:SmR a1):Wp (zB0 (a1,())) (fun _=>True):=by
 have a:=h;obtain⟨i,j,k,l,m,n,p,i8,q,c,d,e,f,g,t,u,x⟩:=a;unfold zB0;try dsimp only
 repeat' (first
  |with_reducible exact trivial
  |exact⟨c,d,e,f,g⟩
  |assumption
  |contradiction
  |with_reducible first|refine zA ?_|refine(vC _ _ _).mono (fun r _=>?_)|refine(zFf _ _ ?_).mono (fun r _=>?_)|refine(xS _ _ _ _ _ ?_ ?_).mono (fun r _=>?_)|refine x6 (fun _=>?_) (fun _=>?_)|refine zP (fun _=>?_) (fun _=>?_)|refine zH (fun _=>?_) (fun _=>?_)|refine zB ?_
  |omega)
theorem zLM(a1:Ty.El (zG))(h:SmR a1):Wp (zC4 (a1,())) (fun _=>True):=by
 have a:=h;obtain⟨l,m,n,p,q,t,u,i8,x,c,d,e,f,g,i,j,k⟩:=a;unfold zC4;try dsimp only
 repeat' (first
  |with_reducible exact trivial
  |exact⟨c,d,e,f,g⟩
  |assumption
  |contradiction
  |with_reducible first|refine zA ?_|refine(vC _ _ _).mono (fun r _=>?_)|refine(zGI _ _ ?_).mono (fun r _=>?_)|refine qZ i ?_ ?_ (fun y _ _=>?_)|refine qZ j ?_ ?_ (fun y _ _=>?_)|refine qZ k ?_ ?_ (fun y _ _=>?_)|refine zAa ?_ ?_ (fun y _ _=>?_)|refine zP (fun _=>?_) (fun _=>?_)|refine zH (fun _=>?_) (fun _=>?_)|refine wU ?_|refine zAz (fun s _ _=>?_) (fun s _ _=>?_)
  |simp only[zAp ‹_[_]?=Sa _›,af]
  |with_reducible first|refine zB ?_|refine e2l ?_|refine e2r ?_
  |exact zJ (by omega) (by omega)
  |omega
  |(simp only[aH,aP]at*;exact zJ (by omega) (by omega)))
theorem zJd(a1:Ty.El (tPV))(c:qHI a1):Wp (zA5 (a1,())) (fun _=>True):=by
 have a:=c;obtain⟨d,e,f,g,h⟩:=a;unfold zA5;try dsimp only
 repeat' (first
  |with_reducible exact trivial
  |assumption
  |contradiction
  |with_reducible first|refine zA ?_|refine(zCT _).mono (fun r _=>?_)|refine zAa ?_ ?_ (fun y _ _=>?_)|refine x6 (fun _=>?_) (fun _=>?_)|refine zP (fun _=>?_) (fun _=>?_)|refine zH (fun _=>?_) (fun _=>?_)|refine wU ?_|refine zAz (fun s _ _=>?_) (fun s _ _=>?_)
  |simp only[zAp ‹_[_]?=Sa _›,af]
  |with_reducible first|refine zB ?_|refine e2l ?_|refine e2r ?_
  |exact zJ (by omega) (by omega)
  |omega
  |(simp only[aH,aP]at*;exact zJ (by omega) (by omega)))
theorem zFe(a1:Ty.El (zG))(h:SmR a1):Wp (zAO (a1,())) (fun _=>True):=by
 have a:=h;obtain⟨i,j,k,l,m,n,p,i8,q,c,d,e,f,g,t,u,x⟩:=a;unfold zAO;try dsimp only
 repeat' (first
  |with_reducible exact trivial
  |exact⟨c,d,e,f,g⟩
  |assumption
  |contradiction
  |with_reducible first|refine zA ?_|refine(vC _ _ _).mono (fun r _=>?_)|refine(zLM _ ?_).mono (fun r _=>?_)|refine(zJd _ ?_).mono (fun r _=>?_)|refine(xS _ _ _ _ _ ?_ ?_).mono (fun r _=>?_)|refine x6 (fun _=>?_) (fun _=>?_)|refine zH (fun _=>?_) (fun _=>?_)|refine zB ?_
  |exact zJ (by omega) (by omega)
  |omega
  |(simp only[aH,aP]at*;exact zJ (by omega) (by omega)))
theorem zJt(a1:Ty.El (zG))(h:SmR a1):Wp (yM (a1,())) (fun _=>True):=by
 have a:=h;obtain⟨l,m,n,p,q,t,u,i8,x,c,d,e,f,g,i,j,k⟩:=a;unfold yM;try dsimp only
 repeat' (first
  |with_reducible exact trivial
  |exact⟨c,d,e,f,g⟩
  |assumption
  |contradiction
  |with_reducible first|refine zA ?_|refine(xT _).mono (fun r _=>?_)|refine(vC _ _ _).mono (fun r _=>?_)|refine(zKS _ ?_).mono (fun r _=>?_)|refine(zEn _ ?_ ?_).mono (fun r _=>?_)|refine(zFT _ ?_).mono (fun r _=>?_)|refine(zEo _ ?_ ?_).mono (fun r _=>?_)|refine(zDL _ ?_).mono (fun r _=>?_)|refine(zHy _ ?_).mono (fun r _=>?_)|refine(zOt _ ?_).mono (fun r _=>?_)|refine(zFU _ ?_).mono (fun r _=>?_)|refine(zGH _ ?_).mono (fun r _=>?_)|refine(zFe _ ?_).mono (fun r _=>?_)|refine qZ i ?_ ?_ (fun y _ _=>?_)|refine qZ j ?_ ?_ (fun y _ _=>?_)|refine qZ k ?_ ?_ (fun y _ _=>?_)|refine zAa ?_ ?_ (fun y _ _=>?_)|refine x6 (fun _=>?_) (fun _=>?_)|refine zP (fun _=>?_) (fun _=>?_)|refine zH (fun _=>?_) (fun _=>?_)|refine wU ?_|refine zAz (fun s _ _=>?_) (fun s _ _=>?_)
  |simp only[zAp ‹_[_]?=Sa _›,af]
  |with_reducible first|refine zB ?_|refine e2l ?_|refine e2r ?_
  |exact zJ (by omega) (by omega)
  |omega
  |(simp only[aH,aP]at*;exact zJ (by omega) (by omega)))
theorem zRd(a1:Ty.El (zI))(a:∀y,y∈a1.1->SmR y):Wp (xW (a1,())) (fun _=>True):=by
 unfold xW;try dsimp only
 repeat' (first
  |with_reducible exact trivial
  |assumption
  |contradiction
  |with_reducible first|refine zA ?_|refine(zJt _ ?_).mono (fun r _=>?_)|refine(zDV _ _ ?_).mono (fun r _=>?_)|refine qZ a ?_ ?_ (fun y _ _=>?_)|refine zAa ?_ ?_ (fun y _ _=>?_)|refine zP (fun _=>?_) (fun _=>?_)|refine zH (fun _=>?_) (fun _=>?_)|refine wU ?_|refine zAz (fun s _ _=>?_) (fun s _ _=>?_)
  |simp only[zAp ‹_[_]?=Sa _›,af]
  |with_reducible first|refine zB ?_|refine e2l ?_|refine e2r ?_
  |exact zJ (by omega) (by omega)
  |omega
  |(simp only[aH,aP]at*;exact zJ (by omega) (by omega))
  |exact zJ (by omega) (by have:=SmR.i1 ‹SmR _›;omega))
def zJc(n:Ty.El zI)(p:Ty.El zD)(a:Int)(e:Ty.El zS):Prop:=
 0<=e.1/\0<=e.2.1/\∃r x,n.1[e.1.toNat]?=Sa r/\r.2.2.1[e.2.1.toNat]?=Sa x/\x.2.2.1≠0/\x.2.2.2.2.1=Sd/\uC (x.2.1,x.2.2.1,())=Sa p/\x.2.2.2.1=a
def qHx(st:HSt zS)(B:Nat)(E:Ty.El zS->Prop)(q:Option (Nat×Nat)):Prop:=
 ∀id m,q=Sa (id,m)->∃a,st[id]?=Sa (Sa a)/\a.length=m/\a.length<=B/\∀e,e∈a->E e
def zSS(d a:Ty.El zX):Prop:= ∀id m c,d.2.2.1=Sa (id,m)->a.2.2.1=Sa (id,c)->False
variable {a4:Ty.El zX}
theorem zSS.symm{a:Ty.El zX}(h:zSS a4 a):zSS a a4:=fun id m c e f=>h id c m f e
structure Bld(n:Ty.El zI)(B:Nat)(D:List (Ty.El zX))(st:HSt zS):Prop where
 len:D.length<=B
 ok:∀d,d∈D->qHx st B (zJc n d.1 d.2.1) d.2.2.1
 ap:D.Pairwise zSS
 so:D.Pairwise (fun d d'=>zEB d.1 d.2.1 d'.1 d'.2.1)
variable {P:HSt zS}{a2:List (Ty.El zX)}{l:Nat}{j:Ty.El zI}
theorem zH5{a:Nat}(h:Bld j l a2 P)(c:l<=a):Bld j a a2 P:=by
 refine⟨aj h.len c,?_,h.ap,h.so⟩;intro d e id m f;obtain⟨g,i,n,k,B⟩:=h.ok d e id m f
 grind
theorem qFV:Bld j l [] P:=⟨aW _,(fun d a=>by cases a),Am,Am⟩
theorem qFW(h:Bld j l a2 P)(k:Nat)(p:Ty.El zD)(v:Int)(A:∀n d,n<k->a2[n]?=Sa d->zEB d.1 d.2.1 p v)(r:∀d,a2[k]?=Sa d->zEB p v d.1 d.2.1):
  Bld j (l+1) (a2.take k++[((p,v,Sc,()):Ty.El zX)]++a2.drop k) P:=by
 have u:=zH5 h (cW l);have g:∀d:Ty.El zX,zSS d ((p,v,Sc,()):Ty.El zX):=fun d id m G _ i=>by cases i
 refine⟨?_,?_,?_,?_⟩
 .have:=h.len;grind
 .intro d hd;simp only[a7,aM]at hd;rcases hd with(hd|rfl)|hd
  .exact u.ok d (dE hd)
  .intro id m C;cases C
  .exact u.ok d (List.mem_of_mem_drop hd)
 .have x:=h.ap;rw[<-cJ k a2,b7]at x;obtain⟨t,i,E⟩:=x;rw[b7,b7];refine⟨⟨t,cT _ _,?_⟩,i,?_⟩
  .grind
  .intro a c b B;simp at c;rcases c with c|rfl
   .grind
   .exact(g b).symm
 .have e:=h.so;have q:=aY.1 e;rw[<-cJ k a2,b7]at e;obtain⟨t,i,E⟩:=e;rw[b7,b7];refine⟨⟨t,cT _ _,?_⟩,i,?_⟩
  .intro a c b B;simp at B;subst B;obtain⟨n,y,f⟩:=aC c
   grind
  .intro a c b B;simp at c;rcases c with c|rfl
   .grind
   .obtain⟨n,y,f⟩:=aC B;rw[bW]at y;rw[List.getElem_drop]at f;have F:a2[k]?=Sa (a2[k]'(by omega)):=by simp
    have hlt:=r _ F;rcases cF n with z|z
    .subst z
     grind
    .rw[<-f];exact zXp hlt (q k (k+n) (by omega) (by omega) (by omega))
theorem qAW{f:HSt zS}(h:Bld j l a2 P){k:Nat}(G:a2[k]?=Sa a4){id m:Nat}{xs:List (Ty.El zS)}(H:f[id]?=Sa (Sa xs))(N:xs.length=m)(O:xs.length<=l+1)(D:∀e,e∈xs->zJc j a4.1 a4.2.1 e)(hid:P.length<=id)(g:∀n B,P[n]?=Sa (Sa B)->(∀A,a4.2.2.1≠Sa (n,A))->f[n]?=Sa (Sa B)):
  Bld j (l+1) (a2.set k ((a4.1,a4.2.1,Sa (id,m),()):Ty.El zX)) f:=by
 have hlt:k<a2.length:=(aa.1 G).1;have C:a2[k]=a4:=(aa.1 G).2;have E:=aY.1 h.ap
 have c:∀n (a:n<a2.length),n≠k->zSS a4 a2[n]:=by
  intro n a p;rcases a8 n k with y|y
  .have:=E n k a hlt y;rw[C]at this;exact this.symm
  grind
 have q:∀n (a:n<a2.length),zSS a2[n] ((a4.1,a4.2.1,Sa (id,m),()):Ty.El zX):=by
  intro n a i r Q t S;obtain⟨B,I,_⟩:=h.ok a2[n] (aZ a) i r t
  grind
 refine⟨by rw[cb];have:=h.len;omega,?_,?_,?_⟩
 .intro x J;obtain⟨n,a,rfl⟩:=aC J;rw[cb]at a;rw[cB];split
  .intro i r t
   grind
  .rename_i p;intro i r t;obtain⟨B,I,K,W,L⟩:=h.ok a2[n] (aZ a) i r t;exact⟨B,g i B I (fun A M=>c n a (fun y=>p y.symm) i A r M t),K,by omega,L⟩
 .rw[aY];intro i n z a u;rw[cb]at z a;rw[cB,cB];split
  .split
   .omega
   .exact(q n a).symm
  grind
 .have F:=aY.1 h.so;rw[aY];intro i n z a u;rw[cb]at z a;have:=F i n z a u;rw[cB,cB];split
  .split;all_goals grind
  .split;all_goals grind
theorem qFX(h:Bld j l a2 P)(n:l<=1000){k:Nat}(f:a2[k]?=Sa a4){e:Ty.El zS}(B:zJc j a4.1 a4.2.1 e):
  Wp (zNO 16 P a4.2.2.1 [e]) (fun r=>Bld j (l+1) (a2.set k ((a4.1,a4.2.1,r.2,()):Ty.El zX)) r.1):=by
 have a:a4∈a2:=ae f
 cases i:a4.2.2.1 with
 |none=>
  refine⟨(P++[Sa [e]],Sa (P.length,1)),?_,?_⟩
  .simp_all[zNO]
  .refine qAW h f (xs:=[e]) ?_ rfl (by simp) (fun p t=>by grind) (ai _) ?_;all_goals grind
 |some q=>
  obtain⟨id,m⟩:=q;obtain⟨c,g,u,x,y⟩:=h.ok a4 a id m i;have hlt:=(aa.1 g).1;refine⟨(P.set id Sc++[Sa (c++[e])],Sa (P.length,(c++[e]).length)),?_,?_⟩
  .simp only[zNO,g,bL]
   grind
  .refine qAW h f (xs:=c++[e]) ?_ rfl (by simp;omega) ?_ (ai _) ?_;all_goals grind
structure qEI(n:Ty.El zI)(t:Ty.El zLk):Prop where
 doms:t.1.length<=360
 ends :∀d, d ∈ t.1 -> d.2.2.1.length <= 360 /\∀e, e ∈ d.2.2.1 -> zJc n d.1 d.2.1 e
 links:t.2.1.length<=12
 link:∀l,l∈t.2.1->0<=l/\l< (t.1.length:Int)
 so:t.1.Pairwise (fun d d'=>zEB d.1 d.2.1 d'.1 d'.2.1)
theorem zJW{α β:Type}{f:α->Option β}{R:α->β->Prop}:∀{xs:List α},(∀x,x∈xs->Wp (f x) (R x))->Wp (zCn f xs) (fun a:List β=>a.length=xs.length/\∀(i:Nat) x y,xs[i]?=Sa x->a[i]?=Sa y->R x y)
 |[],_=>⟨[],rfl,rfl,fun i x y h=>by simp at h⟩
 |x::r,h=>by
  obtain⟨y,e,g⟩:=h x (by simp);obtain⟨a,j,c,k⟩:=zJW (xs:=r) (fun z d=>h z (aw _ d));refine⟨y::a,by grind[zCn],by simp[c],?_⟩
  grind
theorem qEw(h:Bld j l a2 P):
  Wp (zCn (zBP P zX) a2) (fun a=>a.length=a2.length/\(∀d:Ty.El uR,d∈a->d.2.2.1.length<=l/\∀e,e∈d.2.2.1->zJc j d.1 d.2.1 e)/\a.Pairwise (fun d k:Ty.El uR=>zEB d.1 d.2.1 k.1 k.2.1)):=by
 refine(zJW (R:=fun(d:Ty.El zX) (y:Ty.El uR)=>(y.2.2.1.length<=l/\∀e,e∈y.2.2.1->zJc j y.1 y.2.1 e)/\y.1=d.1/\y.2.1=d.2.1) ?_).mono ?_
 .intro d f;obtain⟨⟨B,p,⟨⟩⟩,v,q,⟨⟩⟩:=d
  cases q with
  |none=>exact⟨((B,p,()),v,[],()),rfl,⟨aW _,fun e u=>by cases u⟩,rfl,rfl⟩
  |some q=>
   obtain⟨id,m⟩:=q;obtain⟨x,r,t,z,A⟩:=h.ok _ f id m rfl;refine⟨((B,p,()),v,x,()),?_,⟨z,A⟩,rfl,rfl⟩
   grind[zBP]
 .rintro a ⟨r,t⟩;have C:∀i (c:i<a.length),∃d,a2[i]?=Sa d/\((a[i].2.2.1.length<=l/\∀e,e∈a[i].2.2.1->zJc j a[i].1 a[i].2.1 e)/\a[i].1=d.1/\a[i].2.1=d.2.1):=by intro i c;refine⟨a2[i]'(by omega),by simp,t i _ _ (by simp) (by simp[c])⟩
  refine⟨r,?_,?_⟩
  .intro d f;obtain⟨i,c,rfl⟩:=aC f
   grind
  .rw[aY];intro i n c F g;have E:=aY.1 h.so i n (by omega) (by omega) g
   grind
theorem yG{x:i}(h:a0[l]?=Sa x):atN a0 l=Sa x:=h
abbrev BSt:=(List (Ty.El zX)×List Int)×HSt zS
theorem zMZ(a1:Ty.El zI)(hn:a1.1.length<=9)(hs:∀y,y∈a1.1->SmR y):
  Wp (zEl [] (a1,())) (fun r=>(r.2.2.1=0->Bld a1 360 r.2.1.1 r.1/\r.2.1.2.1.length<=12/\(∀l,l∈r.2.1.2.1->0<=l/\l< (r.2.1.1.length:Int))/\xW (a1,())=Sa 0)/\(r.2.2.1≠0->r.2.1=([],[],()))):=by
 unfold zEl;dsimp only;refine zBZ ((zRd a1 hs).mono (fun _ _=>trivial)) (fun y0 Y=>?_);refine zH (fun E=>?_) (fun E=>?_)
 .refine zA ⟨fun h=>?_,fun _=>rfl⟩
  grind
 have hy:y0=0:=by simpa using E
 subst hy;refine zB ((kZ (xs:=a1.1) (by omega) (fun i (g:BSt)=>g.1.2=[]/\Bld a1 (40*i) g.1.1 g.2) ⟨rfl,qFV⟩ ?_ (Q:=fun g=>g.1.2=[]/\Bld a1 360 g.1.1 g.2) (fun g a=>⟨a.1,zH5 a.2 (by omega)⟩)).mono ?_)
 .intro i x g Z hj;have hi:i<9:=by grind
  have a2:=(hs x (ae Z)).i1;simp only[zO Z,af];refine(kZ (xs:=x.2.2.1) (by omega) (fun j (g:BSt)=>g.1.2=[]/\Bld a1 (40*i+2*j) g.1.1 g.2) hj ?_ (fun g a=>⟨a.1,zH5 a.2 (by omega)⟩));intro j f g hf hj;have a3:j<20:=by grind
  obtain⟨⟨D,L⟩,st⟩:=g;obtain⟨rfl,z⟩:=hj;simp only[zO hf,af];refine zB ((show Wp _ (fun s:Bool×BSt=>s.2=((D,[]),st)/\(s.1=Sd->f.2.2.1≠0/\f.2.2.2.2.1=Sd))from ?_).mono ?_)
  .refine zH (fun h=>zA ⟨rfl,fun h=>by cases h⟩) (fun h=>zA ⟨rfl,fun W=>⟨by simpa using h,W⟩⟩)
  rintro⟨b,g⟩ ⟨a,C⟩;simp only at a C;subst a;refine zH (fun _=>zA ⟨rfl,zH5 z (by omega)⟩) (fun ab=>?_);obtain⟨K,F⟩:=C ab;refine zBZ (zHz _ _) (fun p hp=>?_);refine zB ((show Wp _ (fun s:Int×BSt=>∃k:Nat,s.1=(k:Int)/\k<=D.length/\s.2=((D,[]),st)/\(∀m d,m<k->D[m]?=Sa d->zEB d.1 d.2.1 p f.2.2.2.1)/\(∀d,D[k]?=Sa d->¬zEB d.1 d.2.1 p f.2.2.2.1))from ?_).mono ?_)
  .refine kY (fun s:Int×BSt=>∃k:Nat,s.1=(k:Int)/\k<=D.length/\s.2=((D,[]),st)/\(∀m d,m<k->D[m]?=Sa d->zEB d.1 d.2.1 p f.2.2.2.1)) (fun s=>((D.length:Int) -s.1).toNat) ⟨(0:Nat),rfl,aW _,rfl,fun m d hm=>by omega⟩ ?_;rintro⟨s,g⟩ ⟨k,c,M,a,A⟩;simp only at c a;subst c a;have N:D.length<=_:=z.len;refine zB ((show Wp _ (fun s:Bool×BSt=>s.2=((D,[]),st)/\(s.1=Sb->∃d,D[k]?=Sa d/\zEB d.1 d.2.1 p f.2.2.2.1)/\(s.1=Sd->∀d,D[k]?=Sa d->¬zEB d.1 d.2.1 p f.2.2.2.1))from ?_).mono ?_)
   .refine zP (fun hlt=>?_) (fun a4=>zA ⟨rfl,(fun h=>by cases h),fun _ d q=>?_⟩)
    .have hlt:k<D.length:=by grind
     have c:D[k]?=Sa D[k]:=by simp[hlt]
     generalize D[k]=B at c;have t:∀d,D[k]?=Sa d->d=B:=fun d q=>by grind
     simp only[zO c,aB,yG c,af];refine zB (zM (zM6 _ _) ?_);refine zP (fun E=>zA ⟨rfl,fun _=>⟨B,c,.inl (zQY.1 E)⟩,fun h=>by cases h⟩) (fun E=>?_);have E:¬plt B.1 p:=fun h=>E (zQY.2 h);refine zH (fun O=>zA ⟨rfl,fun h=>⟨B,c,.inr ⟨zJL O,of_decide_eq_true h⟩⟩,fun h d q=>?_⟩) (fun O=>zA ⟨rfl,(fun h=>by cases h),fun _ d q=>?_⟩)
     .have q:d=B:=t d q;subst q;rintro(h1|⟨_,h1⟩);all_goals grind
     .have q:d=B:=t d q;subst q;rintro(h1|⟨h1,_⟩);all_goals grind
    grind
   .rintro⟨b,g⟩ ⟨a,C,u⟩;simp only at a C u;subst a;refine zH (fun h=>?_) (fun h=>?_)
    .obtain⟨d,q,ax⟩:=C h;have hlt:=(aa.1 q).1;refine zA (e2l ⟨⟨k+1,?_,hlt,rfl,?_⟩,?_⟩)
     .simp only;rw[zJ (by omega) (by omega)];omega
     .intro m d' hm ad;rcases a8 m k with W|W
      .exact A m d' W ad
      grind
     .simp only;rw[zJ (by omega) (by omega)];omega
    .exact zA (e2r ⟨k,rfl,M,rfl,A,u h⟩)
  rintro⟨s,g⟩ ⟨k,c,M,a,A,ag⟩;simp only at c a;subst c a;have N:D.length<=_:=z.len;refine zB ((show Wp _ (fun g:BSt=>g.1.2=[]/\Bld a1 (40*i+2*j+1) g.1.1 g.2/\∃d,g.1.1[k]?=Sa d/\d.1=p/\d.2.1=f.2.2.2.1)from ?_).mono ?_)
  .refine zB ((show Wp _ (fun s:Bool×BSt=>s.2=((D,[]),st)/\(s.1=Sd->∃d,D[k]?=Sa d/\d.1=p/\d.2.1=f.2.2.2.1)/\(s.1=Sb->∀d,D[k]?=Sa d->¬(d.1=p/\d.2.1=f.2.2.2.1)))from ?_).mono ?_)
   .refine zH (fun a5=>zA ⟨rfl,(fun h=>by cases h),fun _ d q=>?_⟩) (fun a6=>?_)
    .grind
    have hlt:k<D.length:=by
     grind
    have c:D[k]?=Sa D[k]:=by simp[hlt]
    generalize D[k]=B at c;have t:∀d,D[k]?=Sa d->d=B:=fun d q=>by grind
    simp only[zO c,aB,yG c,af];refine zH (fun O=>zA ⟨rfl,(fun h=>by cases h),fun _ d q h2=>?_⟩) (fun O=>?_)
    .grind
    have al:=zJL (by simpa using O);refine zA ⟨rfl,fun hv=>⟨B,c,al,by simpa using hv⟩,fun hv d q h2=>?_⟩
    grind
   .rintro⟨b,g⟩ ⟨a,C,u⟩;simp only at a C u;subst a;refine zH (fun an=>?_) (fun ao=>zA ⟨rfl,zH5 z (by omega),C ao⟩);have P:∀d,D[k]?=Sa d->zEB p f.2.2.2.1 d.1 d.2.1:=fun d q=>qDJ (ag d q) (u an d q);refine zH (fun _=>?_) (fun h=>?_)
    .simp only[aB,bU];refine zB (zAb (by simp only[aP,bW];omega) ?_);refine zH (fun _=>?_) (fun h=>?_)
     .refine zB (zAb (by simp;omega) ?_);refine zB (zAb (by simp only[aN,aP,bX,bW,bL];omega) ?_);rw[dH];refine zA ⟨rfl,qFW z k p _ A P,⟨(p,f.2.2.2.1,Sc,()),?_,rfl,rfl⟩⟩;simp only;rw[cz,aF (by simp;omega)];simp only[bX];rw[show k-min k D.length=0 by omega];rfl
     grind
    grind
  rintro⟨⟨J,L'⟩,S⟩ ⟨G,H,d,c,ap,av⟩;simp only at G H c;subst G;have ay:J.length<=_:=H.len;simp[zO c,yG c];refine zB ((qFX H (by omega) c (e:=(↑i, ↑j,())) ⟨(show(0:Int)<=(i:Int) by omega),(show(0:Int)<=(j:Int) by omega),x,f,by simpa using Z,by simpa using hf,K,F,?_,?_⟩).mono ?_)
  .rw[hp,ap]
  .exact av.symm
  .rintro⟨a9,q2⟩ hB;exact zA ⟨rfl,zH5 hB (by omega)⟩
 .rintro⟨⟨D,L⟩,st⟩ ⟨G,z⟩;simp only at G z;subst G;have N:D.length<=_:=z.len
  refine zB ((zHw (n:=D.length) (by omega) (fun i (g:BSt)=>g.1.1=D/\g.2=st/\g.1.2.length<=i/\∀l,l∈g.1.2->0<=l/\l< (D.length:Int)) ⟨rfl,rfl,ai _,(fun l I=>by cases I)⟩ (fun i g a=>by simp only[a.1]) ?_
   (Q:=fun g:BSt=>g.1.1=D/\g.2=st/\∀l,l∈g.1.2->0<=l/\l< (D.length:Int)) (fun g a=>⟨a.1,a.2.1,a.2.2.2⟩)).mono ?_)
  .rintro i ⟨⟨J,L⟩,S⟩ hi ⟨rfl,rfl,G,I⟩;simp only at hi G I;have a0:J.length<=360:=z.len;have c:J[i]?=Sa J[i]:=by simp[hi]
   simp only[zO c,aB,yG c,af];refine zP (fun _=>?_) (fun _=>zA ⟨rfl,rfl,by simp only;omega,I⟩);refine zB (zAb (by grind) (zA ⟨rfl,rfl,by grind,?_⟩))
   grind
  .rintro⟨⟨J,L⟩,S⟩ ⟨rfl,rfl,I⟩;simp only at I;refine zP (fun _=>zA ⟨(fun h=>by cases h),fun _=>rfl⟩) (fun h=>zA ⟨fun _=>⟨z,?_,I,Y⟩,fun h=>absurd rfl h⟩)
   grind
theorem zTE{tE a b:Ty}{st:HSt tE}{x:a.El}{y:b.El}{c:(x4 tE a).El}{d:(x4 tE b).El}(e:zBP st a x=Sa c)(f:zBP st b y=Sa d):zBP st (.pair a b) (x,y)=Sa (c,d):=by
 grind[zBP]
theorem zYt{tE a:Ty}{r:List Ty}{st:HSt tE}{x:a.El}{y:ElS r}{c:(x4 tE a).El}{d:ElS (zJs tE r)}(e:zBP st a x=Sa c)(f:zQ9 st r y=Sa d):zQ9 st (a::r) (x,y)=Sa (c,d):=by
 grind[zQ9]
theorem zT2{α:Type}{f:α->Option α}(a:∀x,f x=Sa x):∀l:List α,zCn f l=Sa l
 |[]=>rfl
 |x::l=>by simp[zCn,a x,zT2 a l]
theorem zQa(a1:Ty.El zI)(i:a1.1.length<=9)(j:∀y,y∈a1.1->SmR y):
  Wp (zGS (a1,())) (fun r=>r.2.1=0->qEI a1 r.1/\xW (a1,())=Sa 0):=by
 obtain⟨⟨st,⟨D,L,⟨⟩⟩,e,⟨⟩⟩,k,c,d⟩:=zMZ a1 i j;unfold zGS zRb;rw[k];simp only at c d;by_cases a:e=0
 .subst a;obtain⟨f,l,x,m⟩:=c rfl;obtain⟨g,n,z,p,q⟩:=qEw f;refine⟨((g,L,()),0,()),?_,fun _=>⟨⟨?_,p,l,?_,q⟩,m⟩⟩
  .have t:zBP st (.sl zX) D=Sa g:=n;have u:zBP st (.sl tI) L=Sa L:=zT2 (fun _=>rfl) L;exact zYt (r:=[tI]) (zTE t (zTE u rfl)) rfl
  .simp only;have:D.length<=360:=f.len;omega
  grind
 .have:=d a;simp only[aI]at this;obtain⟨rfl,rfl,_⟩:=this;exact⟨(([],[],()),e,()),rfl,fun h=>absurd h a⟩
structure qEL(d:List Int)(m:Int):Prop where
 len:d.length<=2
 lo:∀x,x∈d->0<=x/\x<m
theorem zKT(d:List Int)(m:Int):Wp (zCd (d,m,())) (fun b=>b=Sb->qEL d m):=by
 unfold zCd;dsimp only;refine zP (fun _=>zA (fun h=>by cases h)) (fun h=>?_);refine zA1 (by omega) (fun i=>∀(j:Nat) (y:Int),j<i->d[j]?=Sa y->0<=y/\y<m) (fun j y c=>by omega) ?_ ?_
 .intro i (x:Int) a c;have f:=(aa.1 a).1;simp only[zO a,af];refine zB ((show Wp _ (fun b:Bool=>b=Sd->0<=x/\x<m)from ?_).mono ?_)
  .refine zP (fun _=>zA (fun h=>by cases h)) (fun g=>?_);refine zP (fun _=>zA (fun h=>by cases h)) (fun k=>?_);refine zP (fun l=>?_) (fun _=>zA (fun _=>⟨by omega,by omega⟩));refine zB (zAa (by grind[zJ]) (by grind[zJ]) (fun y _ _=>zA (fun _=>⟨by omega,by omega⟩)))
  .intro b n;refine zH (fun _=>zA (e2r (e2r (fun h=>by cases h)))) (fun h=>zA (e2l ⟨rfl,?_⟩))
   grind
 .intro c;refine zA (fun _=>⟨by omega,?_⟩);intro x a;obtain⟨j,e,rfl⟩:=aC a;simp_all
theorem qG1{P:i->Prop}(h:∀j y,j<a0.length->a0[j]?=Sa y->P y):∀y,y∈a0->P y:=by intro x a;obtain⟨j,c,rfl⟩:=aC a;simp_all
theorem zLH{ρ:Type}{xs:List i}{P:i->Prop}{a:Int->Option (Int ⊕ (Unit ⊕ ρ))}{K:Unit->Option ρ}{Q:ρ->Prop}(d:xs.length<0x4000000000000000)(step:∀(α:Nat) x,xs[α]?=Sa x->Wp (a (α:Int)) (vH (fun e=>e=Aa .i64 ((α:Int)+1)/\P x) (vH (fun _=>False) Q)))(c:(∀x,x∈xs->P x)->Wp (K ()) Q):
  Wp (wL (zR (fun s:Int=>bif decide (s< (xs.length:Int))then a s else Sa (Al (Ai ()))) (0:Int)) K) Q:=by
 refine zA1 d (fun α=>∀j y,j<α->xs[j]?=Sa y->P y) (fun j y f=>by omega) ?_ (fun h=>c (qG1 h));intro α x g f;refine(step α x g).mono ?_
 grind
theorem zRf(a1:Ty.El zG):Wp (zIy (a1,())) (fun b=>b=Sb->SmR a1):=by
 unfold zIy;dsimp only
 refine zB ((show Wp _ (fun b:Bool=>b=Sd->Ab a1.2.2.1<=12/\Ab a1.2.2.2.1<=12/\Ab a1.2.2.2.2.1<=12/\Ab a1.2.2.2.2.2.1<=12/\Ab a1.2.2.2.2.2.2.1<=12/\
  Ab a1.2.2.2.2.2.2.2.1<=20/\Ab a1.2.2.2.2.2.2.2.2.1.2.2.1<=8/\Ab a1.2.2.2.2.2.2.2.2.1.2.2.2.1<=8/\Ab a1.2.2.2.2.2.2.2.2.2.1.2.2.2.2.1<=8/\
  Ab a1.2.2.2.2.2.2.2.2.2.2.1.2.2.2.2.2.2.2.1<=8/\Ab a1.2.2.2.2.2.2.2.2.2.2.1.2.2.2.1<=12/\Ab a1.2.2.2.2.2.2.2.2.2.2.1.2.2.2.2.1<=12/\
  Ab a1.2.2.2.2.2.2.2.2.2.2.1.2.2.2.2.2.1<=12/\Ab a1.2.2.2.2.2.2.2.2.2.2.1.2.2.2.2.2.2.1<=12)from ?_).mono ?_)
 .iterate 13 (refine zP (fun _=>zA (fun h=>by cases h)) (fun _=>?_))
  grind[zA,of_decide_eq_false]
 intro b c;refine zH (fun _=>zA (fun h=>by cases h)) (fun h=>?_);obtain⟨k,l,m,n,p,q,r,i8,t,d,e,f,g,j⟩:=c h;refine zLH (P:=fun y=>Ab y.2.1<=20) (by omega) ?_ (fun u=>?_)
 .intro i x a;simp only[zO a,af];exact zP (fun _=>zA (e2r (e2r (fun h=>by cases h)))) (fun _=>zA (e2l ⟨rfl,by omega⟩))
 refine zLH (P:=fun y=>Ab y.2.1<=20) (by omega) ?_ (fun z=>?_)
 .intro i x a;simp only[zO a,af];exact zP (fun _=>zA (e2r (e2r (fun h=>by cases h)))) (fun _=>zA (e2l ⟨rfl,by omega⟩))
 refine zLH (P:=fun y=>Ab y.2.1<=20) (by omega) ?_ (fun A=>?_)
 .intro i x a;simp only[zO a,af];exact zP (fun _=>zA (e2r (e2r (fun h=>by cases h)))) (fun _=>zA (e2l ⟨rfl,by omega⟩))
 refine zA (fun _=>?_);constructor<;>first|assumption|omega
theorem zQb(a1:Ty.El zI):Wp (zGW (a1,())) (fun b=>b=Sb->a1.1.length<=9/\∀y,y∈a1.1->SmR y):=by unfold zGW;dsimp only;refine zP (fun _=>zA (fun h=>by cases h)) (fun d=>?_);refine zLH (P:=SmR) (by omega) ?_ (fun h=>zA (fun _=>⟨by omega,h⟩));intro i x a;simp only[zO a,af];refine zB ((zRf x).mono (fun b c=>?_));refine zH (fun _=>zA (e2r (e2r (fun h=>by cases h)))) (fun h=>zA (e2l ⟨rfl,c (by simpa using h)⟩))
structure qG(n:Ty.El zI)(d:List Int)(v:Ty.El zF):Prop where
 net:v.1=n
 rs:n.1.length<=9
 sm:∀y,y∈n.1->SmR y
 chk:xW (n,())=Sa 0
 topo:qEI n v.2.1
 dn:v.2.2.1=d
 down:qEL d v.2.1.2.1.length
theorem zRe(n:Ty.El zI)(d:List Int)(c:n.1.length<=9)(e:∀y,y∈n.1->SmR y):
  Wp (zIp (n,d,())) (fun r=>r.2.1=0->qG n d r.1):=by
 unfold zIp;dsimp only;refine zB ((zQa n c e).mono (fun i j=>?_));refine zH (fun h=>zA (fun f=>?_)) (fun h=>?_)
 .grind
 have k:i.2.1=0:=by simpa using h
 obtain⟨l,m⟩:=j k;refine zB ((zKT _ _).mono (fun b p=>?_));refine zH (fun _=>zA (fun f=>by cases f)) (fun a=>?_);have g:=p (by simpa using a);refine zB (zAb (by have:=g.len;grind) ?_);refine zA (fun _=>⟨rfl,c,e,m,l,rfl,?_⟩);exact g
theorem zRg(n:Ty.El zI)(d:List Int):Wp (zIz (n,d,())) (fun r=>r.2.1=Sb->qG n d r.1):=by
 unfold zIz;dsimp only;refine zB (zB ((zQb n).mono (fun b a=>?_)));refine zH (fun _=>zA ?_) (fun h=>zA ?_)
 .grind[zA]
 .obtain⟨c,e⟩:=a (by simpa using h);refine zH (fun _=>zA (fun h=>by cases h)) (fun _=>?_);refine zB ((zRe n d c e).mono (fun r f=>zA (fun h=>f ?_)));simpa using h
structure RtS(x:Ty.El zC):Prop where
 path:Ab x.2.2.2.2.2.2.2.2.1<=1048576
 hops:Ab x.2.2.2.2.2.2.2.2.2.2.2.1<=1048576
structure RtB(x:Ty.El zC):Prop where
 path:x.2.2.2.2.2.2.2.2.1.length<=0x1000000000000000
 hops:x.2.2.2.2.2.2.2.2.2.2.2.1.length<=0x1000000000000000
theorem RtS.b{x:Ty.El zC}(h:RtS x):RtB x:=⟨aj h.path (by omega),aj h.hops (by omega)⟩
def zBW(p q:Ty.El zD):Bool:=p.1==q.1&&(p.2.1==q.2.1&&Sb)
theorem uT:zBW I J=Sb↔I=J:=⟨fun h=>zJL h,fun h=>by subst h;simp[zBW]⟩
def zIH(e y:Ty.El zS):Bool:=y.1==e.1&&(y.2.1==e.2.1&&Sb)
theorem zNW{e y:Ty.El zS}:zIH e y=Sb↔y=e:=⟨fun h=>zJL h,fun h=>by grind[zIH]⟩
def uW(v:Ty.El zF)(r i:Int):Int:=zHi (fun d:Ty.El uR=>d.2.2.1.any (zIH (r,i,()))) v.2.1.1
def zFz(v:Ty.El zF)(r i:Int):Int:=zHi (fun l:Int=>decide (uW v r i>=0)&&l==uW v r i) v.2.1.2.1
def upB(v:Ty.El zF)(r i:Int):Bool:=decide (0<=uW v r i)&&v.2.2.1.all (fun x:Int=> !(x==zFz v r i))
structure zGt(v:Ty.El zF):Prop where
 rs:v.1.1.length<=9
 sm:∀y,y∈v.1.1->SmR y
 doms:v.2.1.1.length<=360
 ends :∀d, d ∈ v.2.1.1 -> d.2.2.1.length <= 360
 links:v.2.1.2.1.length<=12
 link0:∀l,l∈v.2.1.2.1->(0:Int)<=l
 down:v.2.2.1.length<=2
 down0:∀l,l∈v.2.2.1->(0:Int)<=l
theorem qG.s{d:List Int}{v:Ty.El zF}(h:qG j d v):zGt v where
 rs:=by rw[h.net];exact h.rs
 sm:=by rw[h.net];exact h.sm
 doms:=h.topo.doms
 ends := fun d hd =>(h.topo.ends d hd).1
 links:=h.topo.links
 link0:=fun l a=>(h.topo.link l a).1
 down:=by rw[h.dn];exact h.down.len
 down0:=by rw[h.dn];exact fun l a=>(h.down.lo l a).1
theorem zJ3{p:i->Bool}:zHi p a0>=0↔a0.any p=true:=by
 grind[zGi,List.any_eq_true,List.mem_of_getElem?]
theorem zQU{p:i->Bool}{xs:List i}(h:0<=zHi p xs):∃x,xs[(zHi p xs).toNat]?=Sa x/\p x=true:=by
 grind[zGi]
theorem zJe(l:List (Ty.El zS))(e:Ty.El zS)(c:l.length<=1048576):Wp (yL (l,e,())) (fun k=>k=zHi (zIH e) l):=by
 unfold yL;dsimp only;refine zFm (p:=zIH e) (by omega) ?_ rfl;intro i x a;simp only[zO a,af]
 have:(e.1==x.1&&(e.2.1==x.2.1&&Sb))=zIH e x:=by
  unfold zIH
  grind
 grind
theorem zHb(l:List (Ty.El zS))(e:Ty.El zS)(a:l.length<=1048576):Wp (uG (l,e,())) (fun b=>b=l.any (zIH e)):=by unfold uG;dsimp only;refine zB ((zJe l e a).mono (fun k c=>zA ?_));subst c;rw[df,decide_eq_true_eq];exact zJ3
theorem zDZ(v:Ty.El zF)(r i:Int)(a:zGt v):Wp (zAw (v,r,i,())) (fun k=>k=uW v r i):=by
 unfold zAw;dsimp only;have:=a.doms;refine zFm (p:=fun d:Ty.El uR=>d.2.2.1.any (zIH (r,i,()))) (by omega) ?_ rfl;intro k x c;simp[zO c];have:=a.ends x (ae c);have e:=vB (zHb x.2.2.1 (r,i,()) (by omega))
 grind
theorem zCZ(v:Ty.El zF)(r i:Int)(q:zGt v):Wp (zBE (v,r,i,())) (fun k=>k=uW v r i):=by
 unfold zBE;dsimp only;have:=q.doms;refine zA1 (by omega) (fun k=>∀j y,j<k->v.2.1.1[j]?=Sa y->y.2.2.1.any (zIH (r,i,()))=Sd) (fun j y g=>by omega) ?_ ?_
 .intro k x a g;have l:=q.ends x (ae a);simp only[zO a,af];refine zA1 (xs:=x.2.2.1) (by omega) (fun m=>∀y,y∈x.2.2.1.take m->zIH (r,i,()) y=Sd) (fun y c=>by simp at c) ?_ ?_
  .intro m y c n;simp only[zO c,af];refine zH (fun h=>zA (e2r (e2r (e2r (e2r ?_))))) (fun h=>zA (e2l ⟨rfl,?_⟩))
   .have t:x.2.2.1.any (zIH (r,i,()))=true:=bq.2 ⟨y,ae c,h⟩;exact(qAR (p:=fun d:Ty.El uR=>d.2.2.1.any (zIH (r,i,()))) a t g).symm
   .intro z e;rw[bS,c]at e;simp at e;rcases e with e|rfl
    .exact n z e
    .exact h
  .intro n;rw[bU]at n;refine zA (e2l ⟨rfl,?_⟩)
   grind
 .intro g;refine zA (zO1 ?_).symm;intro x a;obtain⟨j,f,rfl⟩:=aC a;exact g j _ f (by simp[f])
theorem zDM(l:List Int)(e:Int)(c:l.length<=1048576):Wp (uO (l,e,())) (fun k=>k=zHi (fun x=>x==e) l):=by
 unfold uO;dsimp only;refine zFm (p:=fun x:Int=>x==e) (by omega) ?_ rfl;intro i (x:Int) a;simp[zO a]
 grind
theorem zHa(l:List Int)(e:Int)(a:l.length<=1048576):Wp (vZ (l,e,())) (fun b=>b=l.any (fun x=>x==e)):=by unfold vZ;dsimp only;refine zB ((zDM l e a).mono (fun k c=>zA ?_));subst c;rw[df,decide_eq_true_eq];exact zJ3
theorem zRm(v:Ty.El zF)(r i:Int)(a:zGt v):Wp (zFN (v,r,i,())) (fun k=>k=zFz v r i):=by
 unfold zFN;dsimp only;refine zB ((zDZ v r i a).mono (fun k c=>?_));subst c;refine zP (fun h=>zA ?_) (fun h=>?_)
 .grind[zO1,zFz,uW]
 .have:=a.links;refine zB ((zDM _ _ (by omega)).mono (fun k c=>zA ?_))
  grind[zFz,uW]
theorem zQe(v:Ty.El zF)(r i:Int)(a:zGt v):Wp (zIq (v,r,i,())) (fun k=>k=zFz v r i):=by
 unfold zIq;dsimp only;refine zB ((zCZ v r i a).mono (fun k c=>?_));subst c;have:=a.links;refine zFm (p:=fun l:Int=>decide (uW v r i>=0)&&l==uW v r i) (by omega) ?_ rfl
 grind[zO,decide,uW]
theorem zYh{p:i->Bool}(l:List i):(!l.any p)=l.all (fun x=> !p x):=by
 grind
theorem zIl(v:Ty.El zF)(r i:Int)(a:zGt v):Wp (zGK (v,r,i,())) (fun b=>b=upB v r i):=by
 unfold zGK;dsimp only;refine zB ((zDZ v r i a).mono (fun k c=>?_));subst c;refine zP (fun h=>zA ?_) (fun h=>?_)
 .grind[upB,uW]
 .refine zB ((zRm v r i a).mono (fun k c=>?_));subst c;have d:0<=uW v r i:=by omega
  have f:=a.down;refine zB (zP (fun h=>zA (zA ?_)) (fun h=>?_))
  .unfold upB;simp only[d,decide_true,bR];symm;rw[au];intro x e;have:=a.down0 x e
   grind
  .refine zB ((zHa _ _ (by omega)).mono (fun b g=>zA (zA ?_)));simp_all[zYh,upB]
theorem zLm(v:Ty.El zF)(r i:Int)(a:zGt v):Wp (zJI (v,r,i,())) (fun b=>b=upB v r i):=by
 unfold zJI;dsimp only;refine zB ((zCZ v r i a).mono (fun k c=>?_));subst c;refine zP (fun h=>zA ?_) (fun h=>?_)
 .grind[upB,uW]
 .refine zB ((zQe v r i a).mono (fun k c=>?_));subst c;have f:0<=uW v r i:=by omega
  have g:=a.down;refine zLH (P:=fun x:Int=>(x==zFz v r i)=Sd) (by omega) ?_ (fun d=>zA ?_)
  .intro j (x:Int) e;simp only[zO e,af];refine zH (fun h=>zA (e2r (e2r ?_))) (fun h=>zA (e2l ⟨rfl,h⟩));unfold upB
   grind
  simp_all[upB]
def qAL(r:Ty.El zG)(a:Ty.El .str):Int:=zHi (fun x:Ty.El z6=>x.1==a) r.2.2.1
theorem zKW(r:Ty.El zG)(a:Ty.El .str)(c:SmR r):Wp (zAj (r,a,())) (fun k=>k=qAL r a):=by
 unfold zAj;dsimp only;have:=c.i1;refine zFm (p:=fun x:Ty.El z6=>x.1==a) (by omega) ?_ rfl
 grind[zO]
def uX(n:Int):Nat:=min n.toNat 32
def zFj(k:Nat):BitVec 32:=BitVec.allOnes 32<<< (32-k)
theorem zUy(n:Int):uX n<=32:=Nat.min_le_right _ _
theorem qCB(c:0<=g)(d:g<4294967296):Aa .u32 g=g:=by
 have a:((2:Int)^Ae .u32)=4294967296:=by decide
 simp[Aa,IntKind.signed,a];omega
theorem zUJ(x:BitVec 32):Aa .u32 (x.toNat:Int)=(x.toNat:Int):=qCB (by omega) (by omega)
theorem zNA(x:BitVec 32):Ah 32 (x.toNat:Int)=x:=by
 grind
theorem qBb:∀i,i<32->zFj i|||Ah 32 (Aa .u32 (1*2^min (31-i) 32))=zFj (i+1):=by decide+kernel
theorem qBA:zFj 0=0#32:=by decide+kernel
theorem zVX:∀k,k<33->Aa .u32 (4294967295*2^min (32-k) 32)=((zFj k).toNat:Int):=by decide+kernel
theorem zFX(n:Int):Wp (zCz (n,())) (fun m=>m=((zFj (uX n)).toNat:Int)):=by
 unfold zCz;dsimp only
 refine zB ((zHw (n:=32) (by omega) (fun i (m:Int)=>m=((zFj (min i (uX n))).toNat:Int)) (by simp[qBA]) (fun i g _=>by simp) ?_ (Q:=fun m=>m=((zFj (uX n)).toNat:Int)) (fun g a=>by
  rw[a,Ao (zUy n)])).mono (fun m c=>zA c))
 intro i g d a;subst a;refine zP (fun h=>?_) (fun h=>zA ?_)
 .have h:(i:Int)<n:=h;have k:i<uX n:=by unfold uX;omega
  refine zP (fun _=>zA ?_) (fun e=>absurd ?_ e)
  .have f:min i (uX n)=i:=by omega
   have j:min (i+1) (uX n)=i+1:=by omega
   rw[f,j];dsimp only;rw[zJ (by omega) (by omega),zMR (by omega) (by omega),show((31:Int) - (i:Int)).toNat=31-i by omega];change Aa .u32 (((Ah 32 ((zFj i).toNat:Int)|||Ah 32 (Aa .u32 (1*2^min (31-i) 32))).toNat:Nat):Int)=_;rw[zNA,qBb i d,zUJ]
  grind[zJ,zMR]
 grind[Ao,uX]
theorem zXW(n:Int):(if(if(32:Int)<n then(32:Int)else n)>(0:Int)then if(32:Int)<n then(32:Int)else n else(0:Int))=(uX n:Int):=by
 grind[uX]
theorem qCh(n:Int):(if(0:Int)>if(32:Int)<n then(32:Int)else n then(0:Int)else if(32:Int)<n then(32:Int)else n)=(uX n:Int):=by
 grind[uX]
theorem zSF(n:Int):uX ((uX n:Nat):Int)=uX n:=by unfold uX;omega
theorem zJC(n:Int):zH9 (n,())=Sa ((zFj (uX n)).toNat:Int):=by
 have a:=zUy n;unfold zH9 zGs;simp[zXW];rw[zJ (by omega) (by omega)];have c:(0:Int)<=32- ((uX n:Nat):Int):=by omega
 simp only[c,decide_true,cond_true];rw[show((32:Int) - ((uX n:Nat):Int)).toNat=32-uX n by omega];exact congrArg Sa (zVX _ (by omega))
def kX(a n:Int):Ty.El zD:=(((Ah 32 a&&&zFj (uX n)).toNat:Int),(uX n:Int),())
def zI7(p:Ty.El zD)(a:Int):Bool:=(((Ah 32 a&&&zFj (uX p.2.1)).toNat:Nat):Int)==p.1
theorem zVV(a:Int)(k:Nat):Aa .u32 (((Ah (Ae .u32) a&&&Ah (Ae .u32) ((zFj k).toNat:Int)).toNat:Nat):Int)=((Ah 32 a&&&zFj k).toNat:Int):=by change Aa .u32 (((Ah 32 a&&&Ah 32 ((zFj k).toNat:Int)).toNat:Nat):Int)=_;rw[zNA,zUJ]
theorem xI(a n:Int):zBM (a,n,())=Sa (kX a n):=by
 refine vB ?_;unfold zBM;dsimp only;refine zB (zM (zJC _) ?_)
 grind[zXW,zA,zVV,zGs,kX]
theorem xH(a n:Int):uC (a,n,())=Sa (kX a n):=by
 refine vB ?_;unfold uC;simp only[qCh];refine zB ((zFX _).mono (fun m c=>zA ?_))
 grind[zSF,zVV,kX]
theorem zL0(p:Ty.El zD)(a:Int):zAT (p,a,())=Sa (zI7 p a):=by refine vB ?_;unfold zAT;dsimp only;refine zB ((zFX _).mono (fun m c=>zA ?_));subst c;rw[zVV];rfl
theorem zL1(p:Ty.El zD)(a:Int):zB7 (p,a,())=Sa (zI7 p a):=by refine vB ?_;unfold zB7;dsimp only;refine zB (zM (zJC _) (zA ?_));rw[zVV];rfl
theorem qBy(a n:Int):zI7 (kX a n) (kX a n).1=true:=by
 grind[zSF,zNA,BitVec.and_assoc,BitVec.and_self,zI7,kX]
theorem zHC(p q:Ty.El zD):zBg (p,q,())=Sa (decide (p.2.1<=q.2.1)&&zI7 p q.1):=by refine vB ?_;unfold zBg;dsimp only;refine zB (zH (fun h=>zB (zM (zL0 _ _) (zA (zA ?_)))) (fun h=>zA (zA ?_)))<;>(rw[h];rfl)
theorem zLZ(p q:Ty.El zD):xX (p,q,())=Sa ((decide (p.2.1<=q.2.1)&&zI7 p q.1)||(decide (q.2.1<=p.2.1)&&zI7 q p.1)):=by refine vB ?_;unfold xX;dsimp only;refine zB (zB (zM (zHC _ _) (zH (fun h=>zA (zA ?_)) (fun h=>zB (zM (zHC _ _) (zA (zA ?_)))))))<;>(rw[h];rfl)
def zQ7(p:Ty.El zD):Bool:=decide (p.2.1>=0)&&(decide (p.2.1<=32)&&(Ah 32 p.1&&& ~~~ zFj (uX p.2.1))==0#32)
theorem zQd(p:Ty.El zD):u7 (p,())=Sa (zQ7 p):=by
 refine vB ?_;unfold u7 zQ7;dsimp only;refine zB (zH (fun h=>zH (fun a=>zB ((zFX _).mono (fun m c=>zA (zA ?_)))) (fun a=>zA (zA ?_))) (fun h=>zA (zA ?_)))
 .subst c;rw[h,a];simp only[bR];change (Aa .u32 (((Ah 32 p.1&&& ~~~ Ah 32 ((zFj (uX p.2.1)).toNat:Int)).toNat:Nat):Int)==(0:Int))=_;rw[zNA,zUJ,df,beq_iff_eq,beq_iff_eq];constructor
  .intro h;apply BitVec.eq_of_toNat_eq
   grind
  grind
 all_goals grind
section
variable {ρ:Type}
variable {i:Int->Option (Int ⊕ (Unit ⊕ ρ))}{g:Unit ⊕ ρ->Prop}
theorem qER{n:Nat}(m:n<0x4000000000000000)(J:Nat->Prop)(Q:J 0)(step:∀a,a<n->J a->Wp (i (a:Int)) (vH (fun d=>d=Aa .i64 ((a:Int)+1)/\J (a+1)) g))(c:J n->g (Ai ())):
  Wp (zR (fun s:Int=>bif decide (s< (n:Int))then i s else Sa (Al (Ai ()))) (0:Int)) g:=by
 refine kY (fun(s:Int)=>∃a:Nat,s=(a:Int)/\a<=n/\J a) (fun(s:Int)=>((n:Int) -s).toNat) ⟨(0:Nat),rfl,aW _,Q⟩ ?_;rintro s ⟨a,h,j,e⟩;subst h;refine zP ?_ ?_
 .intro k;have hlt:a<n:=by omega
  refine(step a hlt e).mono ?_;intro o f
  cases o with
  |inl d=>
   obtain⟨rfl,l⟩:=f;rw[zJ (by omega) (by omega)];exact⟨⟨a+1,by omega,hlt,l⟩,by omega⟩
  |inr o=>exact f
 .intro k;have:a=n:=by omega
  subst this;exact zA (e2r (c e))
theorem zMS{n:Nat}{P:Nat->Prop}(h:n<0x4000000000000000)(step:∀a,a<n->Wp (i (a:Int)) (vH (fun e=>e=Aa .i64 ((a:Int)+1)/\P a) g))(c:(∀a,a<n->P a)->g (Ai ())):
  Wp (zR (fun s:Int=>bif decide (s< (n:Int))then i s else Sa (Al (Ai ()))) (0:Int)) g:=by
 refine qER h (fun a=>∀j,j<a->P j) (fun j f=>by omega) ?_ c;intro a k f;refine(step a k).mono ?_;intro o d
 cases o with
 |inl e=>
  refine⟨d.1,?_⟩;intro j l;rcases a8 j a with Q|Q
  .exact f j Q
  .have:j=a:=by omega
   subst this;exact d.2
 |inr o=>exact d
end
theorem qEQ{σ ρ:Type}{m:Option (σ ⊕ ρ)}{K:σ->Option ρ}{Q:ρ->Prop}(P:σ->Prop)(h:Wp m (vH P Q))(c:∀s,P s->Wp (K s) Q):Wp (wL m K) Q:=by
 refine wU (h.mono ?_);intro o a
 cases o with
 |inl s=>exact c s a
 |inr r=>exact a
theorem kJ(a lo hi:Int):qB (a,lo,hi,())=Sa (decide (lo<=a)&&decide (a<=hi)):=by refine vB ?_;unfold qB;dsimp only;refine zB (zH (fun h=>zA (zA ?_)) (fun h=>zA (zA ?_)))<;>(rw[h];rfl)
def ovB(p q:Ty.El zD):Bool:=(decide (p.2.1<=q.2.1)&&zI7 p q.1)||(decide (q.2.1<=p.2.1)&&zI7 q p.1)
theorem zW6(a n:Int):ovB (kX a n) (kX a n)=true:=by unfold ovB;rw[qBy];simp
structure qGk(l:List (Ty.El z6))(i:Nat)(x:Ty.El z6):Prop where
 name:∀j y,j<i->l[j]?=Sa y->y.1≠x.1
 len:0<=x.2.2.1/\x.2.2.1<=32
 addr:x.2.2.1≠0->x.2.1≠0
 ls:x.2.2.2.2.2.1=Sb->(0<=x.2.2.2.2.2.2.1/\x.2.2.2.2.2.2.1<=255)/\1<=x.2.2.2.2.2.2.2.1/\x.2.2.2.2.2.2.2.1<=65535
 apart:∀j y,j<i->l[j]?=Sa y->x.2.2.1≠0->y.2.2.1≠0->ovB (kX x.2.1 x.2.2.1) (kX y.2.1 y.2.2.1)=Sd
def qGj(l:List (Ty.El z6)):Prop:= ∀i x,l[i]?=Sa x->qGk l i x
theorem zSG(l:List (Ty.El z6))(K:l.length<=20):Wp (xD (l,())) (fun e=>e=0->qGj l/\l.length<=8):=by
 unfold xD;dsimp only;refine zP (fun _=>zA (fun h=>by cases h)) (fun h=>?_);refine zA1 (by omega) (fun i=>∀m x,m<i->l[m]?=Sa x->qGk l m x) (fun m x I=>by omega) ?_ (fun B=>zA (fun _=>⟨fun i x r=>B i x (aa.1 r).1 r,by omega⟩));intro i x r B;have L:=(aa.1 r).1;simp only[zO r,af];refine wU (zB ((xT _).mono (fun b _=>?_)));refine zH (fun _=>zA (fun h=>by cases h)) (fun _=>?_);refine wU (zMS (n:=i) (P:=fun j=>∀y,l[j]?=Sa y->y.1≠x.1) (by omega) ?_ (fun k=>?_))
 .intro j d;have g:l[j]?=Sa l[j]:=by simp
  simp only[zO g,af];refine zH (fun _=>zA (fun h=>by cases h)) (fun C=>zA (e2l ⟨rfl,?_⟩));intro y f;rw[g]at f;cases f;simpa using C
 .refine e2l (zB ((show Wp _ (fun s:Bool=>s=Sd->0<=x.2.2.1/\x.2.2.1<=32)from ?_).mono (fun s p=>?_)))
  .refine zB (zM (kJ _ _ _) (zH (fun _=>zA (fun h=>by cases h)) (fun D=>zB (zM (kJ _ _ _) (zH (fun _=>zA (fun h=>by cases h)) (fun _=>zB (zM (kJ _ _ _) (zA (fun _=>?_)))))))));simpa using D
  refine zH (fun _=>zA (fun h=>by cases h)) (fun D=>?_);have u:=p D;refine zB ((show Wp _ (fun s:Bool=>s=Sd->x.2.2.1≠0->x.2.1≠0)from ?_).mono (fun s p=>?_))
  .refine zH (fun a=>?_) (fun a=>?_)
   .have a:x.2.2.1=0:=by simpa using a
    repeat' (first
     |exact zA (fun _ c=>absurd a c)
     |refine zH (fun _=>?_) (fun _=>?_))
   .refine zH (fun _=>zA (fun t _=>by simpa using t)) (fun t=>zA (fun _ c=>?_));rw[a]at*
    exact absurd (show x.2.2.1=0 by simpa using t) c
  refine zH (fun _=>zA (fun h=>by cases h)) (fun J=>?_);have q:=p J;refine zB ((show Wp _ (fun s:Bool=>s=Sd->x.2.2.2.2.2.1=Sb->(0<=x.2.2.2.2.2.2.1/\x.2.2.2.2.2.2.1<=255)/\1<=x.2.2.2.2.2.2.2.1/\x.2.2.2.2.2.2.2.1<=65535)from ?_).mono (fun s p=>?_))
  .refine zH (fun a=>?_) (fun a=>?_)
   .refine zB (zM (kJ _ _ _) (zH (fun _=>zA (fun h=>by cases h)) (fun A=>zB (zM (kJ _ _ _) (zH (fun _=>zA (fun h=>by cases h)) (fun E=>?_))))));have A:0<=x.2.2.2.2.2.2.1/\x.2.2.2.2.2.2.1<=255:=by simpa using A
    have E:1<=x.2.2.2.2.2.2.2.1/\x.2.2.2.2.2.2.2.1<=65535:=by simpa using E
    repeat' (first
     |exact zA (fun _ _=>⟨A,E⟩)
     |refine zH (fun _=>?_) (fun _=>?_))
   .repeat' (first
     |exact zA (fun _ H=>by rw[a]at H;cases H)
     |refine zH (fun _=>?_) (fun _=>?_))
  refine zH (fun _=>zA (fun h=>by cases h)) (fun A=>?_);have F:=p A;refine zMS (n:=i) (P:=fun j=>∀y,l[j]?=Sa y->x.2.2.1≠0->y.2.2.1≠0->ovB (kX x.2.1 x.2.2.1) (kX y.2.1 y.2.2.1)=Sd) (by omega) ?_ (fun G=>?_)
  .intro j d;have g:l[j]?=Sa l[j]:=by simp
   simp only[zO g,af];refine zB ((show Wp _ (fun s:Bool=>s=Sd->x.2.2.1≠0->l[j].2.2.1≠0->ovB (kX x.2.1 x.2.2.1) (kX l[j].2.1 l[j].2.2.1)=Sd)from ?_).mono (fun s p=>?_))
   .refine zH (fun _=>zH (fun _=>?_) (fun a=>zA (fun _ _ c=>?_))) (fun a=>zA (fun _ c=>?_))
    .exact zB (zM (xH _ _) (zB (zM (xH _ _) (zB (zM (zLZ _ _) (zA (fun h _ _=>h)))))))
    .exact absurd (show l[j].2.2.1=0 by simpa using a) c
    .exact absurd (show x.2.2.1=0 by simpa using a) c
   .refine zH (fun _=>zA (fun h=>by cases h)) (fun C=>zA (e2l ⟨rfl,?_⟩));intro y f;rw[g]at f;cases f;exact p C
  .refine e2l (zA (e2l ⟨rfl,?_⟩));intro m z I a;rcases a8 m i with t|t
   .exact B m z t a
   .have:m=i:=by omega
    subst this;rw[r]at a;cases a;exact⟨fun j y d g=>k j d y g,u,q,F,fun j y d g=>G j d y g⟩
structure qGh(r:Ty.El zG)(x:Ty.El zM1):Prop where
 pre:zQ7 x.1=Sb
 admin:1<=x.2.2.2.2.1/\x.2.2.2.2.1<=255
 tag:0<=x.2.2.2.2.2.1/\x.2.2.2.2.2.1<=65535
 one:(x.2.1≠0/\x.2.2.1= { data:= #[] } /\x.2.2.2.1=Sd)\/(x.2.1=0/\x.2.2.1≠ { data:= #[] } /\x.2.2.2.1=Sd)\/(x.2.1=0/\x.2.2.1= { data:= #[] } /\x.2.2.2.1=Sb)
 iface:x.2.2.1≠ { data:= #[] } ->0<=qAL r x.2.2.1
def qGg(r:Ty.El zG):Prop:= ∀x,x∈r.2.2.2.2.2.2.2.1->qGh r x
theorem zXY(r:Ty.El zG)(m:SmR r):Wp (zBD (r,())) (fun e=>e=0->qGg r):=by
 have G:=m.i6;unfold zBD;dsimp only;refine zP (fun _=>zA (fun h=>by cases h)) (fun h=>?_);refine zLH (P:=qGh r) (by omega) ?_ (fun H=>zA (fun _=>H));intro i x C;have hi:=(aa.1 C).1;simp only[zO C,af];refine wU ?_;have q:Aa .i64 ((0:Int)+1)=1:=by decide
 have D:Aa .i64 ((1:Int)+1)=2:=by decide
 have I:Aa .i64 ((2:Int)+1)=3:=by decide
 refine zB ((show Wp _ (fun k:Int=>k=if x.2.1≠0 then 1 else 0)from ?_).mono (fun J a=>?_))
 .refine zH (fun h=>zA ?_) (fun h=>zA ?_)
  .rw[q,if_pos (by simpa using h)]
  .rw[if_neg (by simpa using h)]
 refine zB ((show Wp _ (fun k:Int=>k=J+if x.2.2.1≠ { data:= #[] }then 1 else 0)from ?_).mono (fun K d=>?_))
 .refine zH (fun h=>zA ?_) (fun h=>zA ?_)
  .rw[if_pos (by simpa using h)];split at a<;>(subst a;first|exact q|exact D)
  .rw[if_neg (by simpa using h)];omega
 refine zB ((show Wp _ (fun k:Int=>k=K+if x.2.2.2.1=Sb then 1 else 0)from ?_).mono (fun E t=>?_))
 .refine zH (fun h=>zA ?_) (fun h=>zA ?_)
  .have h:x.2.2.2.1=true:=h;rw[if_pos h];split at a<;>split at d<;>(subst a;subst d;first|exact q|exact D|exact I)
  .have h:x.2.2.2.1=false:=h;rw[if_neg (by rw[h];simp)];omega
 refine zB ((show Wp _ (fun s:Bool=>s=Sd->zQ7 x.1=Sb/\E=1/\(1<=x.2.2.2.2.1/\x.2.2.2.2.1<=255)/\0<=x.2.2.2.2.2.1/\x.2.2.2.2.2.1<=65535)from ?_).mono (fun s L=>?_))
 .refine zB (zM (zQd _) (zH (fun _=>zA (fun h=>by cases h)) (fun g=>zH (fun _=>zA (fun h=>by cases h)) (fun u=>?_))));have g:zQ7 x.1=true:=by simpa using g
  have u:E=1:=by simpa using u
  refine zH (fun _=>zB ((zDV r x.2.1 m).mono (fun k _=>zP (fun _=>zA (fun h=>by cases h)) (fun _=>?_)))) (fun _=>?_)
  all_goals
   refine zB (zM (kJ _ _ _) (zH (fun _=>zA (fun h=>by cases h)) (fun M=>zB (zM (kJ _ _ _) (zA (fun N=>⟨g,u,?_,?_⟩))))))
   .simpa using M
   .simpa using N
 refine zH (fun _=>zA (fun h=>by cases h)) (fun g=>?_);obtain⟨O,F,Q,S⟩:=L g;refine qEQ (fun _:Unit=>x.2.2.1≠ { data:= #[] } ->0<=qAL r x.2.2.1) ?_ (fun _ z=>?_)
 .refine zH (fun l=>?_) (fun l=>zA (e2l (fun h=>absurd h (by simpa using l))));refine zB ((zKW r _ m).mono (fun k A=>?_));subst A;refine zP (fun _=>zA (fun h=>by cases h)) (fun A=>?_);have f:0<=qAL r x.2.2.1:=Int.not_lt.1 A;obtain⟨y,B,_⟩:=zQU (p:=fun W:Ty.El z6=>W.1==x.2.2.1) (xs:=r.2.2.1) f;refine zB (zM (qFE f B) (zH (fun _=>zA (fun h=>by cases h)) (fun _=>zA (e2l (fun _=>f)))))
 .refine zMS (n:=i) (P:=fun _=>True) (by omega) ?_ (fun _=>e2l (zA (e2l ⟨rfl,O,Q,S,?_,z⟩)))
  .intro j Y;have B:r.2.2.2.2.2.2.2.1[j]?=Sa r.2.2.2.2.2.2.2.1[j]:=by simp
   simp only[zO B,af];refine zB ((show Wp _ (fun _:Bool=>True)from ?_).mono (fun s _=>zH (fun _=>zA (fun h=>by cases h)) (fun _=>zA (e2l ⟨rfl,trivial⟩))));exact zH (fun _=>zA trivial) (fun _=>zA trivial)
  .rw[t,d,a]at F;by_cases Z:x.2.1=0<;>by_cases c2:x.2.2.1= { data:= #[] } <;>cases c3:x.2.2.2.1<;>simp[Z,c2,c3]at F ⊢
def qEG(r:Ty.El zG)(a:Int):Int:=zHi (fun x:Ty.El z6=>x.2.2.1 !=0&&x.2.1==a) r.2.2.1
theorem zM5(r:Ty.El zG)(a:Int)(c:SmR r):Wp (zAF (r,a,())) (fun k=>k=qEG r a):=by
 unfold zAF;dsimp only;have:=c.i1;refine zFm (p:=fun x:Ty.El z6=>x.2.2.1 !=0&&x.2.1==a) (by omega) ?_ rfl
 grind[zO]
structure qG3(r:Ty.El zG):Prop where
 asn:0<=r.2.1/\r.2.1<=65535
 ifs:qGj r.2.2.1
 sts:qGg r
 lists:zAh (r.2.2.2.1,())=Sa 0
 maps:zBe (r,())=Sa 0
 acls:zAi (r.2.2.2.2.2.1,())=Sa 0
 nat:xK (r,())=Sa 0
 filters:zC5 (r,())=Sa 0
 ls:zBf (r,())=Sa 0
 dv:zB0 (r,())=Sa 0
 pv:zAO (r,())=Sa 0
 ifl:r.2.2.1.length<=8
theorem zQH(r:Ty.El zG)(c:SmR r):Wp (yM (r,())) (fun e=>e=0->qG3 r):=by
 have y:=c;obtain⟨W,Y,i3,Z,i5,i6,i7,i8,i9,ab,ad,ag,al,an,n1,n2,n3⟩:=y;unfold yM;dsimp only;refine zB ((xT _).mono (fun b _=>?_));refine zH (fun _=>zA (fun h=>by cases h)) (fun _=>?_);refine zB (zM (kJ _ _ _) (zH (fun _=>zA (fun h=>by cases h)) (fun has=>?_)));have has:0<=r.2.1/\r.2.1<=65535:=by simpa using has
 refine zB ((zSG _ W).mono (fun d f=>?_));refine zBZ ((zEn _ Y n1).mono (fun _ _=>trivial)) (fun g z=>?_);refine zBZ ((zFT _ c).mono (fun _ _=>trivial)) (fun j A=>?_);refine zBZ ((zEo _ Z n3).mono (fun _ _=>trivial)) (fun k B=>?_);refine zBZ ((zDL _ c).mono (fun _ _=>trivial)) (fun l C=>?_);refine zBZ ((zHy _ c).mono (fun _ _=>trivial)) (fun m D=>?_);refine zB ((zXY _ c).mono (fun n E=>?_));refine zBZ ((zFU _ c).mono (fun _ _=>trivial)) (fun p F=>?_);refine zBZ ((zGH _ c).mono (fun _ _=>trivial)) (fun q G=>?_);refine zBZ ((zFe _ c).mono (fun _ _=>trivial)) (fun t H=>?_);refine zLH (P:=fun x:Int=>x=0) (xs:=[d,g,j,k,l,m,n,p,q,t]) (by simp) ?_ (fun a=>zA (fun _=>?_))
 .intro i x hx;simp[zO hx];refine zH (fun ao=>zA (fun h=>?_)) (fun h=>zA (e2l ⟨rfl,by simpa using h⟩))
  grind
 .have u:=a d (by simp);have I:=a g (by simp);have J:=a j (by simp);have K:=a k (by simp);have L:=a l (by simp);have M:=a m (by simp);have N:=a n (by simp);have O:=a p (by simp);have Q:=a q (by simp);have S:=a t (by simp);exact⟨has,(f u).1,E N,I▸z,J▸A,K▸B,L▸C,M▸D,O▸F,Q▸G,S▸H,(f u).2⟩
structure qGi(n:Ty.El zI):Prop where
 len:n.1.length<=8
 rt:∀r,r∈n.1->qG3 r
 name:∀(i j:Nat) r q,j<i->n.1[i]?=Sa r->n.1[j]?=Sa q->q.1≠r.1
 addr:∀(i j:Nat) r q,i≠j->n.1[i]?=Sa r->n.1[j]?=Sa q->∀x y,x∈r.2.2.1->y∈q.2.2.1->x.2.2.1≠0->y.2.2.1≠0->x.2.1≠y.2.1
theorem qCi(n:Ty.El zI)(O:∀y,y∈n.1->SmR y):Wp (xW (n,())) (fun e=>e=0->qGi n):=by
 unfold xW;dsimp only;refine zP (fun _=>zA (fun h=>by cases h)) (fun hl=>?_);refine zA1 (by omega) (fun i=>∀m r,m<i->n.1[m]?=Sa r->qG3 r/\(∀j q,j<m->n.1[j]?=Sa q->q.1≠r.1/\∀x y,x∈r.2.2.1->y∈q.2.2.1->x.2.2.1≠0->y.2.2.1≠0->x.2.1≠y.2.1)) (fun m x G=>by omega) ?_ (fun H=>zA (fun _=>?_))
 .intro i r d H;have hi:=(aa.1 d).1;have B:=O r (ae d);have Q:=B.i1;simp only[zO d,af];refine wU (zB ((zQH r B).mono (fun e S=>?_)));refine zH (fun g=>zA (fun h=>?_)) (fun h=>?_)
  .have h:e=0:=h;rw[h]at g;cases g
  have I:=S (by simpa using h);refine wU (zMS (n:=i) (P:=fun j=>∀q,n.1[j]?=Sa q->q.1≠r.1) (by omega) ?_ (fun p=>?_))
  .intro j f;have c:n.1[j]?=Sa n.1[j]:=by simp
   simp only[zO c,af];refine zH (fun _=>zA (fun h=>by cases h)) (fun J=>zA (e2l ⟨rfl,?_⟩));intro q l;rw[c]at l;cases l;simpa using J
  refine e2l (qES (P:=fun x:Ty.El z6=>∀j q,j<i->n.1[j]?=Sa q->∀y,y∈q.2.2.1->x.2.2.1≠0->y.2.2.1≠0->x.2.1≠y.2.1) (by omega) ?_ (fun a=>?_))
  .intro k x t;simp only[zO t,af];refine wU (zMS (n:=i) (P:=fun j=>∀q,n.1[j]?=Sa q->∀y,y∈q.2.2.1->x.2.2.1≠0->y.2.2.1≠0->x.2.1≠y.2.1) (by omega) ?_ (fun a=>e2l (zA (e2l ⟨rfl,fun j q f c=>a j f q c⟩))));intro j f;have c:n.1[j]?=Sa n.1[j]:=by simp
   simp only[zO c,af];refine zB ((show Wp _ (fun s:Bool=>s=Sd->∀y,y∈n.1[j].2.2.1->x.2.2.1≠0->y.2.2.1≠0->x.2.1≠y.2.1)from ?_).mono (fun s K=>?_))
   .refine zH (fun _=>zB ((zM5 _ _ (O _ (aZ _))).mono (fun k W=>zA ?_))) (fun C=>zA (fun _ y _ g=>absurd (show x.2.2.1=0 by simpa using C) g));subst W;intro hlt y A _ L M;have hlt:¬(qEG n.1[j] x.2.1>=0):=of_decide_eq_false hlt;apply hlt;unfold qEG;rw[zJ3];refine bq.2 ⟨y,A,?_⟩;have Y:(y.2.2.1 !=0)=true:=by simpa using L
    have Z:(y.2.1==x.2.1)=true:=beq_iff_eq.2 M.symm;rw[Y,Z];rfl
   .refine zH (fun _=>zA ⟨(fun u h=>by cases h),(fun h=>by cases h)⟩) (fun J=>zA (e2l ⟨rfl,?_⟩));intro q l;rw[c]at l;cases l;exact K J
  .refine e2l (zA (e2l ⟨rfl,?_⟩));intro m z G C;rcases a8 m i with D|D
   .exact H m z D C
   .have:m=i:=by omega
    subst this;rw[d]at C;cases C;exact⟨I,fun j q f c=>⟨p j f q c,fun x y t A=>a x t j q f c y A⟩⟩
 .have a:∀m r,n.1[m]?=Sa r->_:=fun m r d=>H m r (aa.1 d).1 d;refine⟨by omega,?_,?_,?_⟩
  .intro r d;obtain⟨m,G,rfl⟩:=aC d;exact(a m _ (by simp[G])).1
  .intro i j r q N d c;exact((a i r d).2 j q N c).1
  .intro i j r q g d c x y t A E F;rcases a8 j i with D|D
   .exact((a i r d).2 j q D c).2 x y t A E F
   .exact fun h=>((a j q c).2 i r (by omega) d).2 y x A t F E h.symm
theorem zMi{n:Ty.El zI}{d:List Int}{v:Ty.El zF}(h:qG n d v):qGi n:=by
 obtain⟨e,a,c⟩:=qCi n h.sm;have f:=h.chk
 grind
def rlt(x y:Ty.El zC):Prop:=plt x.1 y.1
theorem qAv:Ord rlt where
 asym:=fun x y h=>zKC.asym _ _ h
 tr:=fun x y z a c=>zKC.tr _ _ _ a c
def zFh(x:Ty.El zC):Int×Int×Int×Int×Int×Int×Int:=
 bif x.2.1==(3:Int)then(x.2.2.1,x.2.2.2.2.1,x.2.2.2.2.2.1,x.2.2.2.2.2.2.1,(0:Int),(0:Int),(0:Int))
 else bif x.2.1==(4:Int)then(x.2.2.2.2.1,x.2.2.1,x.2.2.2.2.2.2.1,(0:Int),(0:Int),(0:Int),(0:Int))
 else bif x.2.1==(5:Int)then(if(3:Int)<x.2.2.1 then(3:Int)else x.2.2.1,Aa .i64 ((1000000:Int) -x.2.2.2.2.2.2.2.1),(x.2.2.2.2.2.2.2.2.1.length:Int),x.2.2.2.2.1,x.2.2.1,Aa .i64 x.2.2.2.2.2.2.2.2.2.1,(0:Int))
 else(x.2.2.2.1,(0:Int),(0:Int),(0:Int),(0:Int),(0:Int),(0:Int))
def zVO:List (Int×Int)->Int
 |[]=>0
 |(a,b)::r=>if a<b then-1 else if b<a then 1 else zVO r
def zCA(x y:Ty.El zC):Int:=
 zVO [((zFh x).1,(zFh y).1),((zFh x).2.1,(zFh y).2.1),((zFh x).2.2.1,(zFh y).2.2.1),((zFh x).2.2.2.1,(zFh y).2.2.2.1),((zFh x).2.2.2.2.1,(zFh y).2.2.2.2.1),((zFh x).2.2.2.2.2.1,(zFh y).2.2.2.2.2.1),((zFh x).2.2.2.2.2.2,(zFh y).2.2.2.2.2.2)]
section
variable {α:Type}{lt eq:α->α->Bool}
def zJm(lt eq:α->α->Bool)(h:α):List α->List α
 |[]=>[h]
 |x::r=>bif lt x h then x::zJm lt eq h r else bif eq x h then x::r else h::x::r
theorem zNK(a:∀x y,eq x y=Sb↔x=y){h z:α}:∀{l:List α},z∈zJm lt eq h l↔z∈l\/z=h
 |[]=>by simp[zJm]
 |x::r=>by
  simp only[zJm]
  cases lt x h with
  |true=>simp[zNK a (l:=r)];grind
  |false=>
   grind
theorem zJ0{R:α->α->Prop}(f:Ord R)(hlt:∀x y,lt x y=Sb↔R x y)(c:∀x y,eq x y=Sb↔x=y)(a:∀x y,¬R x y->x≠y->R y x){h:α}:∀{l:List α},l.Pairwise R->(zJm lt eq h l).Pairwise R
 |[],_=>by simp[zJm]
 |x::r,j=>by
  rw[bt]at j;simp only[zJm]
  cases n:lt x h with
  |true=>
   simp only[cond_true];rw[bt];refine⟨fun z d=>?_,zJ0 f hlt c a j.2⟩;rcases(zNK c).1 d with d|rfl;all_goals grind
  |false=>
   simp;have k:¬R x h:=fun p=>by grind
   cases q:eq x h with
   |true=>simp_all
   |false=>
    simp only[cond_false];have g:x≠h:=fun e=>by grind
    have m:=a _ _ k g;have t:∀z,R x z->R h z:=by intro z d;exact bG (fun i=>f.tr x z h (f.asym _ _ d) i m)
    simp_all
end
end Go.Ve

namespace Go.Ve
open Go
theorem qCN{α:Type}{xs:List α}{k:Nat}(h:k<=xs.length):sub xs (k:Int) (xs.length:Int)=Sa (xs.drop k):=by simp_all[sub]
def zS8(p q:Ty.El zD):Bool:=decide (qFQ p q<0)
theorem qDq{p q:Ty.El zD}:zS8 p q=Sb↔plt p q:=by unfold zS8;rw[decide_eq_true_eq];exact zQY
theorem zXr{α:Type}{lt eq:α->α->Bool}{h:α}:∀{l:List α},(zJm lt eq h l).length<=l.length+1
 |[]=>by simp[zJm]
 |x::r=>by
  have:=zXr (lt:=lt) (eq:=eq) (h:=h) (l:=r)
  grind[zJm]
def zW4(l:List (Ty.El zC)):List (Ty.El zD):=l.foldl (fun a x=>zJm zS8 zBW x.1 a) []
theorem zNn:∀(l:List (Ty.El zC)) (a:List (Ty.El zD)),(l.foldl (fun a x=>zJm zS8 zBW x.1 a) a).length<=a.length+l.length
 |[],a=>by simp
 |x::l,a=>by
  have c:=zNn l (zJm zS8 zBW x.1 a)
  grind[zXr,List.length_cons,zS8,zBW]
theorem qDp(l:List (Ty.El zC)):(zW4 l).length<=l.length:=by
 grind[zNn,zW4]
theorem zRF:∀(l:List (Ty.El zC)) (a:List (Ty.El zD)),a.Pairwise plt->
  (l.foldl (fun a x=>zJm zS8 zBW x.1 a) a).Pairwise plt/\∀p,p∈l.foldl (fun a x=>zJm zS8 zBW x.1 a) a↔p∈a\/∃x,x∈l/\x.1=p
 |[],a,h=>⟨h,fun p=>by simp⟩
 |x::l,a,h=>by
  have c:=zRF l (zJm zS8 zBW x.1 a) (zJ0 zKC (fun _ _=>qDq) (fun _ _=>uT) (fun p q d c=>zY0 d (fun e=>c e.symm)) h);refine⟨c.1,fun p=>?_⟩;rw[dF,c.2 p,zNK (fun _ _=>uT)]
  grind
theorem zJM(l:List (Ty.El zC)):(zW4 l).Pairwise plt:=(zRF l [] Am).1
theorem zW3(l:List (Ty.El zC))(p:Ty.El zD):p∈zW4 l↔ ∃x,x∈l/\x.1=p:=by have:=(zRF l [] Am).2 p;rw[show zW4 l=l.foldl (fun a x=>zJm zS8 zBW x.1 a) []from rfl,this];simp
def hlt(a b:Ty.El zQ):Prop:=zHe a.1 a.2.1 b.1 b.2.1
theorem zGX:Ord hlt where
 asym:=fun x y h=>by grind[hlt,zHe]
 tr:=fun x y z a c=>by grind[hlt,zHe]
theorem zZi{p q:Ty.El zQ}(h:¬hlt q p)(a:p≠q):hlt p q:=by
 refine qAB h (fun e=>a ?_)
 grind
def qGJ(a b:Ty.El zQ):Bool:=decide (zN8 a.1 a.2.1 b.1 b.2.1<0)
theorem qDP{a b:Ty.El zQ}:qGJ a b=Sb↔hlt a b:=by unfold qGJ;rw[decide_eq_true_eq];exact zVP
def zTm(a b:Ty.El zQ):Bool:=a.1==b.1&&(a.2.1==b.2.1&&Sb)
def zIR(l:List (Ty.El zQ))(h:Ty.El zQ):List (Ty.El zQ):=zJm qGJ zTm h l
def qCo(x:Ty.El zC)(b:Option (Ty.El zC)):Bool:=
 match b with
 |none=>Sb
 |some y=>decide (zCA x y<0)
def zP2(p:Ty.El zD)(b:Option (Ty.El zC))(x:Ty.El zC):Option (Ty.El zC):=
 bif zBW x.1 p&&qCo x b then Sa x else b
def zE8(l:List (Ty.El zC))(p:Ty.El zD):Option (Ty.El zC):=l.foldl (zP2 p) Sc
def zBS(p:Ty.El zD)(b:Ty.El zC)(a:List (Ty.El zQ))(x:Ty.El zC):List (Ty.El zQ):=
 bif zBW x.1 p&&(zCA x b==0)then x.2.2.2.2.2.2.2.2.2.2.2.1.foldl zIR a else a
def zEb(l:List (Ty.El zC))(p:Ty.El zD)(b:Ty.El zC):List (Ty.El zQ):=l.foldl (zBS p b) []
def qAs(b:Ty.El zC)(a:List (Ty.El zQ)):Ty.El zC:=
 ((b.1.1,b.1.2.1,()),b.2.1,b.2.2.1,b.2.2.2.1,b.2.2.2.2.1,b.2.2.2.2.2.1,b.2.2.2.2.2.2.1,b.2.2.2.2.2.2.2.1,b.2.2.2.2.2.2.2.2.1,b.2.2.2.2.2.2.2.2.2.1,b.2.2.2.2.2.2.2.2.2.2.1,a,b.2.2.2.2.2.2.2.2.2.2.2.2.1,())
def mrg(l:List (Ty.El zC))(p:Ty.El zD):Option (Ty.El zC):=(zE8 l p).map (fun b=>qAs b (zEb l p b))
def zBY(l:List (Ty.El zC)):List (Ty.El zC):=(zW4 l).filterMap (mrg l)
end Go.Ve

namespace Go.Ve
open Go
theorem zX9{p:Ty.El zD}{b:Ty.El zC}:∀(l:List (Ty.El zC)) (c:Option (Ty.El zC)),l.foldl (zP2 p) c=Sa b->c=Sa b\/(b∈l/\b.1=p)
 |[],c,h=>.inl h
 |x::l,c,h=>by
  rw[dF]at h;rcases zX9 l _ h with h|⟨a,d⟩
  .unfold zP2 at h
   cases e:zBW x.1 p&&qCo x c with
   |true=>
    simp_all[uT]
   |false=>grind
  grind
variable {C:List (Ty.El zC)}
theorem zX8{p:Ty.El zD}{b:Ty.El zC}(h:zE8 C p=Sa b):b∈C/\b.1=p:=by
 rcases zX9 C Sc h with h|h;all_goals grind
theorem zVh{p:Ty.El zD}{z:Ty.El zC}(h:mrg C p=Sa z):z.1=p:=by
 unfold mrg at h
 cases a:zE8 C p with
 |none=>grind
 |some b=>rw[a]at h;cases h;exact(zX8 a).2
theorem zLy(l:List (Ty.El zC)):(zBY l).Pairwise rlt:=by
 unfold zBY;refine List.Pairwise.filterMap _ ?_ (zJM l);intro p q a y c z d
 grind[zVh,rlt]
variable {l:Type}
theorem zPQ{p:l->Bool}{xs:List l}{i:Nat}{x:l}(h:xs[i]?=Sa x):(xs.take (i+1)).filter p=(xs.take i).filter p++(if p x then[x]else[]):=by
 grind[List.getElem?_eq_some_iff,List.take_add_one,Option.toList_some]
def zBt(v:Ty.El zF)(r i:Int):List (Ty.El zS):=match v.2.1.1[(uW v r i).toNat]? with
 |some d=>d.2.2.1
 |none=>[]
def zHQ(v:Ty.El zF)(r i:Int)(p:Ty.El zS->Bool):List (Ty.El zS):=bif upB v r i then(zBt v r i).filter p else[]
variable {g:Ty.El zF}
theorem zKf{r i:Int}(h:upB g r i=Sb):∃d,g.2.1.1[(uW g r i).toNat]?=Sa d/\0<=uW g r i/\zBt g r i=d.2.2.1:=by
 unfold upB at h;simp only[am,decide_eq_true_eq]at h;obtain⟨d,a,_⟩:=zQU (p:=fun d:Ty.El uR=>d.2.2.1.any (zIH (r,i,()))) (xs:=g.2.1.1) h.1
 grind[zBt,uW]
theorem zSq(a:zGt g)(r i:Int):(zBt g r i).length<=360:=by
 unfold zBt;split
 .rename_i d c;exact a.ends d (ae c)
 grind
theorem zJz(v:Ty.El zF)(r i:Int)(a:zGt v):Wp (zCc (v,r,i,())) (fun l=>l=zHQ v r i (fun e=>e.1 !=r)):=by
 unfold zCc zHQ;dsimp only;refine zB ((zLm v r i a).mono (fun b m=>?_));subst m;refine zH (fun h=>zA ?_) (fun h=>?_)
 .grind
 .have h:upB v r i=true:=by simpa using h
  rw[h];obtain⟨d,n,p,u⟩:=zKf h;have y:d.2.2.1.length<=360:=by grind[zSq]
  refine zB ((zCZ v r i a).mono (fun k q=>?_));subst q;simp only[zAp n p,af];refine zB (kZ (xs:=d.2.2.1) (by omega) (fun j (g:List (Ty.El zS))=>g=(d.2.2.1.take j).filter (fun e=>e.1 !=r)) (by simp) ?_ (fun g c=>zA ?_))
  .intro j x g f c;have t:g.length<=360:=by grind
   simp only[zO f,af];rw[zPQ f,<-c];refine zH (fun h=>zB (zAb (by grind) (zA ?_))) (fun h=>zA ?_);all_goals grind
  grind
theorem zKU(v:Ty.El zF)(r i:Int)(a:zGt v):Wp (zAe (v,r,i,())) (fun l=>l=zHQ v r i (fun e=>e.1 !=r||e.2.1 !=i)):=by
 unfold zAe zHQ;dsimp only;refine zB ((zIl v r i a).mono (fun b n=>?_));subst n;refine zH (fun h=>zA ?_) (fun h=>?_)
 .grind
 .have h:upB v r i=true:=by simpa using h
  rw[h];obtain⟨d,p,q,A⟩:=zKf h;have B:d.2.2.1.length<=360:=by grind[zSq]
  refine zB (zB ((zDZ v r i a).mono (fun k t=>?_)));subst t;simp only[zAp p q,af];refine kZ (xs:=d.2.2.1) (by omega) (fun j (g:List (Ty.El zS))=>g=(d.2.2.1.take j).filter (fun e=>e.1 !=r||e.2.1 !=i)) (by simp) ?_ (fun g c=>zA ?_)
  .intro j x g f c;have u:g.length<=360:=by grind
   simp only[zO f,af];rw[zPQ f,<-c];refine zB ((show Wp _ (fun s:Bool×List (Ty.El zS)=>s.1=(x.1 !=r||x.2.1 !=i)/\s.2=g)from ?_).mono (fun s y=>?_))
   .refine zH (fun h=>zA ⟨?_,rfl⟩) (fun h=>zA ⟨?_,rfl⟩);all_goals grind
   .obtain⟨D,E⟩:=s;obtain⟨z,m⟩:=y;simp only at z m;subst m;refine zH (fun h=>zB (zAb (by grind) (zA ?_))) (fun h=>zA ?_);all_goals grind
  grind
variable {j:List Int}{i:Ty.El zI}
theorem zZI(v:qG i j g){r n:Int}(h:upB g r n=Sb):∃a:Ty.El uR,zJc i a.1 a.2.1 (r,n,())/\(∀e,e∈zBt g r n->zJc i a.1 a.2.1 e):=by
 have f:=h;unfold upB at f;simp only[am,decide_eq_true_eq]at f;obtain⟨a,d,k⟩:=zQU (p:=fun j:Ty.El uR=>j.2.2.1.any (zIH (r,n,()))) (xs:=g.2.1.1) f.1;obtain⟨e,l,m⟩:=bq.1 k;have q:=zNW.1 m;subst q;have c:=(v.topo.ends a (ae d)).2;refine⟨a,c _ l,?_⟩
 grind[zKf,uW]
theorem qB8(t:qG i j g){r n:Int}(h:upB g r n=Sb){e:Ty.El zS}(F:e∈zBt g r n)(G:e.1=r):e.2.1=n:=by
 obtain⟨u,⟨z,d,k,x,f,v,A,_,H,_⟩,a⟩:=zZI t h;obtain⟨M,l,I,y,B,C,D,_,J,_⟩:=a e F;have z:(0:Int)<=r:=z;have d:(0:Int)<=n:=d;have f:i.1[r.toNat]?=Sa k:=f;have v:k.2.2.1[n.toNat]?=Sa x:=v;rw[G,f]at B;cases B;have c:=(zMi t).rt k (ae f);have K:Sa (kX x.2.1 x.2.2.1)=Sa u.1:=(xH x.2.1 x.2.2.1).symm.trans H;have L:Sa (kX y.2.1 y.2.2.1)=Sa u.1:=(xH y.2.1 y.2.2.1).symm.trans J;have E:kX x.2.1 x.2.2.1=kX y.2.1 y.2.2.1:=aX (K.trans L.symm);have l:(0:Int)<=e.2.1:=l;rcases dr n.toNat e.2.1.toNat with hlt|heq|m
 .have:=(c.ifs _ y C).apart _ x hlt v D A;rw[E,zW6]at this;cases this
 .exact(show ∀(p q:Int),0<=p->0<=q->p.toNat=q.toNat->q=p from fun p q N O P=>by omega) n e.2.1 d l heq
 .have:=(c.ifs _ x v).apart _ y m C A D;rw[E,zW6]at this;cases this
theorem zXf(a:qG i j g)(r n:Int):zHQ g r n (fun e=>e.1 !=r||e.2.1 !=n)=zHQ g r n (fun e=>e.1 !=r):=by
 unfold zHQ
 cases h:upB g r n with
 |false=>rfl
 |true=>
  show(zBt g r n).filter _=(zBt g r n).filter _;refine List.filter_congr (fun e c=>?_)
  grind[qB8]
theorem zD1(p q:Ty.El zD):zCI (p,q,())=Sa (decide (p.2.1<=q.2.1)&&zI7 p q.1):=by unfold zCI;dsimp only;rw[show zB7 (p,q.1,())=Sa (zI7 p q.1)from zL1 p q.1];cases decide (p.2.1<=q.2.1)<;>rfl
theorem tt{c:Bool}{x y:Option l}{Q:l->Prop}(a:c=Sb)(h:Wp x Q):Wp (bif c then x else y) Q:=by rw[a];exact h
theorem ff{c:Bool}{x y:Option l}{Q:l->Prop}(a:c=Sd)(h:Wp y Q):Wp (bif c then x else y) Q:=by rw[a];exact h
end Go.Ve
namespace Go.Ve
noncomputable section
open Go
set_option linter.unusedVariables false
def zBn{α:Type}(k:α×α×Unit->Option Int):List α->(Int×Int×Unit×Unit)->Option (List α×Unit):=fun l x=>match x with
 |(m,B,(),())=>
  zR
   (fun(d:Int×List (α))=>
    bif decide (d.1<B)then
     Ac
      (zR
       (fun(a:Int×List (α))=>
        Ac
         (bif decide (a.1>m)then
          Ac (idx a.2 a.1) fun(n:α)=>
           Ac (atN a.2 (Ad a.1)) fun(f:α)=>
            Ac (idx a.2 (Aa .i64 (a.1- (1:Int)))) fun(p:α)=>
             Ac (atN a.2 (Ad (Aa .i64 (a.1- (1:Int))))) fun(g:α)=>
              Ac (k (f,g,())) fun(h:Int)=>Sa (decide (h< (0:Int)),a.2)
         else Sa (Sd,a.2))
         fun(c:Bool×List (α))=>
         bif c.1 then
          Ac (idx c.2 (Aa .i64 (a.1- (1:Int)))) fun(q:α)=>
           Ac (atN c.2 (Ad (Aa .i64 (a.1- (1:Int))))) fun(e:α)=>
            Ac (idx c.2 a.1) fun(t:α)=>
             Ac (atN c.2 (Ad a.1)) fun(i:α)=>
              Ac (idx c.2 a.1) fun(u:α)=>
               Ac (atN c.2 (Ad a.1)) fun(y:α)=>
                Ac (idx (Ak c.2 (Ad a.1) e) (Aa .i64 (a.1- (1:Int)))) fun(z:α)=>
                 Ac (atN (Ak c.2 (Ad a.1) e) (Ad (Aa .i64 (a.1- (1:Int)))))
                  fun(A:α)=>
                  Sa
                   (Ai
                    (Aa .i64 (a.1- (1:Int)),
                     Ak (Ak c.2 (Ad a.1) e) (Ad (Aa .i64 (a.1- (1:Int)))) i))
         else Sa (Al c.2))
       d)
      fun(j:List (α))=>Sa (Ai (Aa .i64 (d.1+(1:Int)),j))
    else An (fun(r:List (α)×Unit)=>Al r) (bif Aj (Ab d.2) (Ab l)then Sa (d.2,())else Sc))
   (Aa .i64 (m+(1:Int)),l)
def zFV{α:Type}(h:α×α×Unit->Option Int):List α->(Int×Int×Int×Unit×Unit)->Option (List α×Unit):=fun g x=>match x with
 |(c,e,i,(),())=>
  zR
   (fun(a:Int×List (α))=>
    bif decide (a.1<i)then
     Ac (idx a.2 (Aa .i64 (e+a.1))) fun(j:α)=>
      Ac (atN a.2 (Ad (Aa .i64 (e+a.1)))) fun(d:α)=>
       Ac (idx a.2 (Aa .i64 (c+a.1))) fun(k:α)=>
        Ac (atN a.2 (Ad (Aa .i64 (c+a.1)))) fun(f:α)=>
         Ac (idx a.2 (Aa .i64 (c+a.1))) fun(l:α)=>
          Ac (atN a.2 (Ad (Aa .i64 (c+a.1)))) fun(m:α)=>
           Ac (idx (Ak a.2 (Ad (Aa .i64 (c+a.1))) d) (Aa .i64 (e+a.1)))
            fun(n:α)=>
            Ac (atN (Ak a.2 (Ad (Aa .i64 (c+a.1))) d) (Ad (Aa .i64 (e+a.1))))
             fun(p:α)=>
             Sa
              (Ai
               (Aa .i64 (a.1+(1:Int)),
                Ak (Ak a.2 (Ad (Aa .i64 (c+a.1))) d) (Ad (Aa .i64 (e+a.1))) f))
    else An (fun(r:List (α)×Unit)=>Al r) (bif Aj (Ab a.2) (Ab g)then Sa (a.2,())else Sc))
   ((0:Int),g)
def zU6{α:Type}(d:α×α×Unit->Option Int):List α->(Int×Int×Int×Unit×Unit)->Option (List α×Unit):=fun g x=>match x with
 |(h,c,i,(),())=>
  Ac
   (zR
    (fun(a:Int×Int×List (α))=>
     bif a.1 !=a.2.1 then
      bif decide (a.1>a.2.1)then
       bif Aj (Ab a.2.2) (Ab a.2.2)then
        Ac (zFV d a.2.2 (Aa .i64 (c-a.1),c,a.2.1,(),())) fun(j:List (α)×Unit)=>
         Sa (Ai (Aa .i64 (a.1-a.2.1),a.2.1,j.1))
       else Sc
      else
       bif Aj (Ab a.2.2) (Ab a.2.2)then
        Ac
         (zFV d a.2.2
          (Aa .i64 (c-a.1),Aa .i64 (Aa .i64 (c+a.2.1) -a.1),a.1,(),()))
         fun(k:List (α)×Unit)=>Sa (Ai (a.1,Aa .i64 (a.2.1-a.1),k.1))
       else Sc
     else Sa (Al (a.2.2,a.1)))
    (Aa .i64 (c-h),Aa .i64 (i-c),g))
   fun(e:List (α)×Int)=>
   bif Aj (Ab e.1) (Ab e.1)then
    Ac (zFV d e.1 (Aa .i64 (c-e.2),c,e.2,(),())) fun(f:List (α)×Unit)=>
     bif Aj (Ab f.1) (Ab g)then Sa (f.1,())else Sc
   else Sc
def zJw{α:Type}(p:α×α×Unit->Option Int)(self:List α->(Int×Int×Int×Unit×Unit)->Option (List α×Unit)):List α->(Int×Int×Int×Unit×Unit)->Option (List α×Unit):=fun B x=>match x with
 |(h,i,k,(),())=>
  wL
   (bif Aa .i64 (i-h)==(1:Int)then
    Ac
     (zR
      (fun(f:Int×Int×List (α))=>
       bif decide (f.1<f.2.1)then
        Ac
         (idx f.2.2
          (Aa .i64
           (Ag (Aa .u64 (Aa .i64 (f.1+f.2.1))) ((2:Int)^min (Ad (1:Int)) (Ae Af)))))
         fun(av:α)=>
         Ac
          (atN f.2.2
           (Ad
            (Aa .i64
             (Ag (Aa .u64 (Aa .i64 (f.1+f.2.1))) ((2:Int)^min (Ad (1:Int)) (Ae Af))))))
          fun(O:α)=>
          Ac (idx f.2.2 h) fun(ax:α)=>
           Ac (atN f.2.2 (Ad h)) fun(P:α)=>
            Ac (p (O,P,())) fun(Q:Int)=>
             bif decide (Q< (0:Int))then
              Sa
               (Ai
                (Aa .i64
                  (Aa .i64
                    (Ag (Aa .u64 (Aa .i64 (f.1+f.2.1)))
                     ((2:Int)^min (Ad (1:Int)) (Ae Af)))+
                   (1:Int)),
                 f.2))
             else
              Sa
               (Ai
                (f.1,
                 Aa .i64
                  (Ag (Aa .u64 (Aa .i64 (f.1+f.2.1)))
                   ((2:Int)^min (Ad (1:Int)) (Ae Af))),
                 f.2.2))
       else Sa (Al (f.1,f.2.2)))
      (i,k,B))
     fun(C:Int×List (α))=>
     zR
      (fun(e:Int×List (α))=>
       bif decide (e.1<Aa .i64 (C.1- (1:Int)))then
        Ac (idx e.2 (Aa .i64 (e.1+(1:Int)))) fun(ay:α)=>
         Ac (atN e.2 (Ad (Aa .i64 (e.1+(1:Int))))) fun(A:α)=>
          Ac (idx e.2 e.1) fun(a4:α)=>
           Ac (atN e.2 (Ad e.1)) fun(S:α)=>
            Ac (idx e.2 e.1) fun(a5:α)=>
             Ac (atN e.2 (Ad e.1)) fun(a6:α)=>
              Ac (idx (Ak e.2 (Ad e.1) A) (Aa .i64 (e.1+(1:Int)))) fun(a9:α)=>
               Ac (atN (Ak e.2 (Ad e.1) A) (Ad (Aa .i64 (e.1+(1:Int))))) fun(bb:α)=>
                Sa
                 (Ai
                  (Aa .i64 (e.1+(1:Int)),
                   Ak (Ak e.2 (Ad e.1) A) (Ad (Aa .i64 (e.1+(1:Int)))) S))
       else
        An (fun(r:List (α) ⊕ List (α)×Unit)=>Al r)
         (An (fun(r:List (α)×Unit)=>Al r) (bif Aj (Ab e.2) (Ab B)then Sa (e.2,())else Sc)))
      (h,C.2)
   else Sa (Ai B))
   fun(D:List (α))=>
   wL
    (bif Aa .i64 (k-i)==(1:Int)then
     Ac
      (zR
       (fun(d:Int×Int×List (α))=>
        bif decide (d.1<d.2.1)then
         Ac (idx d.2.2 i) fun(W:α)=>
          Ac (atN d.2.2 (Ad i)) fun(E:α)=>
           Ac
            (idx d.2.2
             (Aa .i64
              (Ag (Aa .u64 (Aa .i64 (d.1+d.2.1)))
               ((2:Int)^min (Ad (1:Int)) (Ae Af)))))
            fun(Y:α)=>
            Ac
             (atN d.2.2
              (Ad
               (Aa .i64
                (Ag (Aa .u64 (Aa .i64 (d.1+d.2.1)))
                 ((2:Int)^min (Ad (1:Int)) (Ae Af))))))
             fun(F:α)=>
             Ac (p (E,F,())) fun(G:Int)=>
              bif !decide (G< (0:Int))then
               Sa
                (Ai
                 (Aa .i64
                   (Aa .i64
                     (Ag (Aa .u64 (Aa .i64 (d.1+d.2.1)))
                      ((2:Int)^min (Ad (1:Int)) (Ae Af)))+
                    (1:Int)),
                  d.2))
              else
               Sa
                (Ai
                 (d.1,
                  Aa .i64
                   (Ag (Aa .u64 (Aa .i64 (d.1+d.2.1)))
                    ((2:Int)^min (Ad (1:Int)) (Ae Af))),
                  d.2.2))
        else Sa (Al (d.1,d.2.2)))
       (h,i,D))
      fun(q:Int×List (α))=>
      zR
       (fun(a:Int×List (α))=>
        bif decide (a.1>q.1)then
         Ac (idx a.2 (Aa .i64 (a.1- (1:Int)))) fun(Z:α)=>
          Ac (atN a.2 (Ad (Aa .i64 (a.1- (1:Int))))) fun(n:α)=>
           Ac (idx a.2 a.1) fun(ab:α)=>
            Ac (atN a.2 (Ad a.1)) fun(H:α)=>
             Ac (idx a.2 a.1) fun(ad:α)=>
              Ac (atN a.2 (Ad a.1)) fun(ag:α)=>
               Ac (idx (Ak a.2 (Ad a.1) n) (Aa .i64 (a.1- (1:Int)))) fun(al:α)=>
                Ac (atN (Ak a.2 (Ad a.1) n) (Ad (Aa .i64 (a.1- (1:Int)))))
                 fun(an:α)=>
                 Sa
                  (Ai
                   (Aa .i64 (a.1- (1:Int)),
                    Ak (Ak a.2 (Ad a.1) n) (Ad (Aa .i64 (a.1- (1:Int)))) H))
        else
         An (fun(r:List (α) ⊕ List (α)×Unit)=>Al r)
          (An (fun(r:List (α)×Unit)=>Al r) (bif Aj (Ab a.2) (Ab B)then Sa (a.2,())else Sc)))
       (i,q.2)
    else Sa (Ai D))
    fun(t:List (α))=>
    Ac
     (bif
       decide
        (i>
         Aa .i64
          (Ag (Aa .u64 (Aa .i64 (h+k))) ((2:Int)^min (Ad (1:Int)) (Ae Af))))then
      Sa
       (Aa .i64
         (Aa .i64
           (Aa .i64
             (Ag (Aa .u64 (Aa .i64 (h+k))) ((2:Int)^min (Ad (1:Int)) (Ae Af)))+
            i) -
          k),
        Aa .i64 (Ag (Aa .u64 (Aa .i64 (h+k))) ((2:Int)^min (Ad (1:Int)) (Ae Af))),
        t)
     else Sa (h,i,t))
     fun(I:Int×Int×List (α))=>
     Ac
      (zR
       (fun(c:Int×Int×List (α))=>
        bif decide (c.1<c.2.1)then
         Ac
          (idx c.2.2
           (Aa .i64
            (Aa .i64
              (Aa .i64
                (Aa .i64
                  (Ag (Aa .u64 (Aa .i64 (h+k))) ((2:Int)^min (Ad (1:Int)) (Ae Af)))+
                 i) -
               (1:Int)) -
             Aa .i64
              (Ag (Aa .u64 (Aa .i64 (c.1+c.2.1)))
               ((2:Int)^min (Ad (1:Int)) (Ae Af))))))
          fun(ao:α)=>
          Ac
           (atN c.2.2
            (Ad
             (Aa .i64
              (Aa .i64
                (Aa .i64
                  (Aa .i64
                    (Ag (Aa .u64 (Aa .i64 (h+k))) ((2:Int)^min (Ad (1:Int)) (Ae Af)))+
                   i) -
                 (1:Int)) -
               Aa .i64
                (Ag (Aa .u64 (Aa .i64 (c.1+c.2.1)))
                 ((2:Int)^min (Ad (1:Int)) (Ae Af)))))))
           fun(J:α)=>
           Ac
            (idx c.2.2
             (Aa .i64
              (Ag (Aa .u64 (Aa .i64 (c.1+c.2.1)))
               ((2:Int)^min (Ad (1:Int)) (Ae Af)))))
            fun(ap:α)=>
            Ac
             (atN c.2.2
              (Ad
               (Aa .i64
                (Ag (Aa .u64 (Aa .i64 (c.1+c.2.1)))
                 ((2:Int)^min (Ad (1:Int)) (Ae Af))))))
             fun(K:α)=>
             Ac (p (J,K,())) fun(L:Int)=>
              bif !decide (L< (0:Int))then
               Sa
                (Ai
                 (Aa .i64
                   (Aa .i64
                     (Ag (Aa .u64 (Aa .i64 (c.1+c.2.1)))
                      ((2:Int)^min (Ad (1:Int)) (Ae Af)))+
                    (1:Int)),
                  c.2))
              else
               Sa
                (Ai
                 (c.1,
                  Aa .i64
                   (Ag (Aa .u64 (Aa .i64 (c.1+c.2.1)))
                    ((2:Int)^min (Ad (1:Int)) (Ae Af))),
                  c.2.2))
        else Sa (Al (c.1,c.2.2)))
       I)
      fun(g:Int×List (α))=>
      Ac
       (Ac
        (bif decide (g.1<i)then
         Sa
          (decide
            (i<
             Aa .i64
              (Aa .i64
                (Aa .i64
                  (Ag (Aa .u64 (Aa .i64 (h+k))) ((2:Int)^min (Ad (1:Int)) (Ae Af)))+
                 i) -
               g.1)),
           g.2)
        else Sa (Sd,g.2))
        fun(l:Bool×List (α))=>
        bif l.1 then
         bif Aj (Ab l.2) (Ab l.2)then
          Ac
           (zU6 p l.2
            (g.1,i,
             Aa .i64
              (Aa .i64
                (Aa .i64
                  (Ag (Aa .u64 (Aa .i64 (h+k))) ((2:Int)^min (Ad (1:Int)) (Ae Af)))+
                 i) -
               g.1),
             (),()))
           fun(M:List (α)×Unit)=>Sa M.1
         else Sc
        else Sa l.2)
       fun(u:List (α))=>
       Ac
        (Ac
         (bif decide (h<g.1)then
          Sa
           (decide
             (g.1<
              Aa .i64
               (Ag (Aa .u64 (Aa .i64 (h+k))) ((2:Int)^min (Ad (1:Int)) (Ae Af)))),
            u)
         else Sa (Sd,u))
         fun(m:Bool×List (α))=>
         bif m.1 then
          bif Aj (Ab m.2) (Ab m.2)then
           Ac
            (self m.2
             (h,g.1,
              Aa .i64
               (Ag (Aa .u64 (Aa .i64 (h+k))) ((2:Int)^min (Ad (1:Int)) (Ae Af))),
              (),()))
            fun(N:List (α)×Unit)=>Sa N.1
          else Sc
         else Sa m.2)
        fun(y:List (α))=>
        Ac
         (bif
           decide
            (Aa .i64
              (Ag (Aa .u64 (Aa .i64 (h+k))) ((2:Int)^min (Ad (1:Int)) (Ae Af)))<
             Aa .i64
              (Aa .i64
                (Aa .i64
                  (Ag (Aa .u64 (Aa .i64 (h+k))) ((2:Int)^min (Ad (1:Int)) (Ae Af)))+
                 i) -
               g.1))then
          Sa
           (decide
             (Aa .i64
               (Aa .i64
                 (Aa .i64
                   (Ag (Aa .u64 (Aa .i64 (h+k))) ((2:Int)^min (Ad (1:Int)) (Ae Af)))+
                  i) -
                g.1)<
              k),
            y)
         else Sa (Sd,y))
         fun(j:Bool×List (α))=>
         bif j.1 then
          bif Aj (Ab j.2) (Ab j.2)then
           Ac
            (self j.2
             (Aa .i64
               (Ag (Aa .u64 (Aa .i64 (h+k))) ((2:Int)^min (Ad (1:Int)) (Ae Af))),
              Aa .i64
               (Aa .i64
                 (Aa .i64
                   (Ag (Aa .u64 (Aa .i64 (h+k))) ((2:Int)^min (Ad (1:Int)) (Ae Af)))+
                  i) -
                g.1),
              k,(),()))
            fun(z:List (α)×Unit)=>bif Aj (Ab z.1) (Ab B)then Sa (z.1,())else Sc
          else Sc
         else bif Aj (Ab j.2) (Ab B)then Sa (j.2,())else Sc
def zCv{α:Type}(a:α×α×Unit->Option Int):Nat->(List α->(Int×Int×Int×Unit×Unit)->Option (List α×Unit))
 |0=>fun _ _=>Sc
 |n+1=>zJw a (zCv a n)
def zHA{α:Type}(a:α×α×Unit->Option Int):List α->(Int×Int×Int×Unit×Unit)->Option (List α×Unit):=zCv a 1048576
def zM2{α:Type}(e:α×α×Unit->Option Int):List α->(Int×Unit×Unit)->Option (List α×Unit):=fun l x=>match x with
 |(g,(),())=>
  Ac
   (zR
    (fun(f:Int×List (α)×Int)=>
     bif decide (f.1<=g)then
      bif Aj (Ab f.2.1) (Ab f.2.1)then
       Ac (zBn e f.2.1 (f.2.2,f.1,(),())) fun(m:List (α)×Unit)=>
        Sa (Ai (Aa .i64 (f.1+(20:Int)),m.1,f.1))
      else Sc
     else Sa (Al f.2))
    ((20:Int),l,(0:Int)))
   fun(h:List (α)×Int)=>
   bif Aj (Ab h.1) (Ab h.1)then
    Ac (zBn e h.1 (h.2,g,(),())) fun(n:List (α)×Unit)=>
     zR
      (fun(c:Int×List (α))=>
       bif decide (c.1<g)then
        Ac
         (zR
          (fun(a:Int×List (α)×Int)=>
           bif decide (a.1<=g)then
            bif Aj (Ab a.2.1) (Ab a.2.1)then
             Ac (zHA e a.2.1 (a.2.2,Aa .i64 (a.2.2+c.1),a.1,(),()))
              fun(i:List (α)×Unit)=>
              Sa (Ai (Aa .i64 (a.1+Aa .i64 ((2:Int)*c.1)),i.1,a.1))
            else Sc
           else Sa (Al (a.2.2,a.2.1)))
          (Aa .i64 ((2:Int)*c.1),c.2,(0:Int)))
         fun(d:Int×List (α))=>
         Ac
          (bif decide (Aa .i64 (d.1+c.1)<g)then
           bif Aj (Ab d.2) (Ab d.2)then
            Ac (zHA e d.2 (d.1,Aa .i64 (d.1+c.1),g,(),())) fun(j:List (α)×Unit)=>
             Sa j.1
           else Sc
          else Sa d.2)
          fun(k:List (α))=>Sa (Ai (Aa .i64 (c.1*(2:Int)),k))
       else An (fun(r:List (α)×Unit)=>Al r) (bif Aj (Ab c.2) (Ab l)then Sa (c.2,())else Sc))
      ((20:Int),n.1)
   else Sc
def zGP{α:Type}(c:α×α×Unit->Option Int):List α->(Unit×Unit)->Option (List α×Unit):=fun a x=>match x with
 |((),())=>
  bif Aj (Ab a) (Ab a)&&Aj (Ab a) (Ab a)then
   Ac (zM2 c a ((↑(Ab a):Int),(),())) fun(d:List (α)×Unit)=>
    bif Aj (Ab d.1) (Ab a)then Sa (d.1,())else Sc
  else Sc
end
end Go.Ve
