/- law16 -/
import Derived.Test.YtgiopebfjmfmhaaGreatLt12
import Derived.Test.YtgiopebfjmfmhaaGreatLt11
import Derived.Test.YtgiopebfjmfmhaaGreatLt10
set_option linter.unusedVariables false
open Option renaming some->Sa,none->Sc
open Bool renaming true->Sb,false->Sd
open Go.IntKind renaming wrap->Aa,bits->Ae,u64->Af
open Option renaming bind->Ab,map->Am
open Int renaming toNat->Ac,fdiv->Ag
open List renaming length->Ad,set->Aj
open Sum renaming inl->Ah,inr->Ak
open Nat renaming beq->Ai
open List.Pairwise renaming nil->Al
set_option maxRecDepth 1000000
set_option maxHeartbeats 4000000
namespace Go.Ve
open Go
section
variable {ρ:Type}
variable {i:Int->Option (Int ⊕ (Unit ⊕ ρ))}{g:Unit ⊕ ρ->Prop}
theorem qFx{n:Nat}(m:n<0x4000000000000000)(J:Nat->Prop)(Q:J 0)(step:∀a,a<n->J a->Wp (i (a:Int)) (vB (fun d=>d=Aa .i64 ((a:Int)+1)/\J (a+1)) g))(c:J n->g (Ah ())):
  Wp (zS (fun s:Int=>bif decide (s< (n:Int))then i s else Sa (Ak (Ah ()))) (0:Int)) g:=by
 refine uA (fun(s:Int)=>∃a:Nat,s=(a:Int)/\a<=n/\J a) (fun(s:Int)=>((n:Int) -s).toNat) ⟨(0:Nat),rfl,aY _,Q⟩ ?_;rintro s ⟨a,h,j,e⟩;subst h;refine zO ?_ ?_
 .intro k;have hlt:a<n:=by omega
  refine(step a hlt e).mono ?_;intro o f
  cases o with
  |inl d=>
   obtain⟨rfl,l⟩:=f;rw[zI (by omega) (by omega)];exact⟨⟨a+1,by omega,hlt,l⟩,by omega⟩
  |inr o=>exact f
 .intro k;have:a=n:=by omega
  subst this;exact zA (e2r (c e))
theorem zNl{n:Nat}{P:Nat->Prop}(h:n<0x4000000000000000)(step:∀a,a<n->Wp (i (a:Int)) (vB (fun e=>e=Aa .i64 ((a:Int)+1)/\P a) g))(c:(∀a,a<n->P a)->g (Ah ())):
  Wp (zS (fun s:Int=>bif decide (s< (n:Int))then i s else Sa (Ak (Ah ()))) (0:Int)) g:=by
 refine qFx h (fun a=>∀j,j<a->P j) (fun j f=>by omega) ?_ c;intro a k f;refine(step a k).mono ?_;intro o d
 cases o with
 |inl e=>
  refine⟨d.1,?_⟩;intro j l;rcases aZ j a with Q|Q
  .exact f j Q
  .have:j=a:=by omega
   subst this;exact d.2
 |inr o=>exact d
end
theorem qFw{σ ρ:Type}{m:Option (σ ⊕ ρ)}{K:σ->Option ρ}{Q:ρ->Prop}(P:σ->Prop)(h:Wp m (vB P Q))(c:∀s,P s->Wp (K s) Q):Wp (wB m K) Q:=by
 refine jU (h.mono ?_);intro o a
 cases o with
 |inl s=>exact c s a
 |inr r=>exact a
theorem vI(a lo hi:Int):qB (a,lo,hi,())=Sa (decide (lo<=a)&&decide (a<=hi)):=by refine jS ?_;unfold qB;dsimp only;refine zB (zF (fun h=>zA (zA ?_)) (fun h=>zA (zA ?_)))<;>(rw[h];rfl)
theorem xM(a lo hi:Int):wY (a,lo,hi,())=Sa (decide (lo<=a)&&decide (a<=hi)):=by refine jS ?_;unfold wY;dsimp only;refine zB (zF (fun h=>zA (zA ?_)) (fun h=>zA (zA ?_)))<;>(rw[h];rfl)
def ovB(p q:Ty.El zD):Bool:=(decide (p.2.1<=q.2.1)&&zJs p q.1)||(decide (q.2.1<=p.2.1)&&zJs q p.1)
theorem zNS(a n:Int):ovB (kD a n) (kD a n)=true:=by unfold ovB;rw[qCf];simp
structure qG0(l:List (Ty.El zZ))(i:Nat)(x:Ty.El zZ):Prop where
 name:∀j y,j<i->l[j]?=Sa y->y.1≠x.1
 len:0<=x.2.2.1/\x.2.2.1<=32
 addr:x.2.2.1≠0->x.2.1≠0
 ls:x.2.2.2.2.2.1=Sb->(0<=x.2.2.2.2.2.2.1/\x.2.2.2.2.2.2.1<=255)/\1<=x.2.2.2.2.2.2.2.1/\x.2.2.2.2.2.2.2.1<=65535
 apart:∀j y,j<i->l[j]?=Sa y->x.2.2.1≠0->y.2.2.1≠0->ovB (kD x.2.1 x.2.2.1) (kD y.2.1 y.2.2.1)=Sd
def qGZ(l:List (Ty.El zZ)):Prop:= ∀i x,l[i]?=Sa x->qG0 l i x
theorem zTh(l:List (Ty.El zZ))(K:l.length<=20):Wp (xJ (l,())) (fun e=>e=0->qGZ l/\l.length<=8):=by
 unfold xJ;dsimp only;refine zO (fun _=>zA (fun h=>by cases h)) (fun h=>?_);refine zAK (by omega) (fun i=>∀m x,m<i->l[m]?=Sa x->qG0 l m x) (fun m x I=>by omega) ?_ (fun B=>zA (fun _=>⟨fun i x r=>B i x (aa.1 r).1 r,by omega⟩));intro i x r B;have L:=(aa.1 r).1;simp only[zM r,af];refine jU (zB ((x5 _).mono (fun b _=>?_)));refine zF (fun _=>zA (fun h=>by cases h)) (fun _=>?_);refine jU (zNl (n:=i) (P:=fun j=>∀y,l[j]?=Sa y->y.1≠x.1) (by omega) ?_ (fun k=>?_))
 .intro j d;have g:l[j]?=Sa l[j]:=by simp
  simp only[zM g,af];refine zF (fun _=>zA (fun h=>by cases h)) (fun C=>zA (e2l ⟨rfl,?_⟩));intro y f;rw[g]at f;cases f;simpa using C
 .refine e2l (zB ((show Wp _ (fun s:Bool=>s=Sd->0<=x.2.2.1/\x.2.2.1<=32)from ?_).mono (fun s p=>?_)))
  .refine zB (zK (vI _ _ _) (zF (fun _=>zA (fun h=>by cases h)) (fun D=>zB (zK (vI _ _ _) (zF (fun _=>zA (fun h=>by cases h)) (fun _=>zB (zK (vI _ _ _) (zA (fun _=>?_)))))))));simpa using D
  refine zF (fun _=>zA (fun h=>by cases h)) (fun D=>?_);have u:=p D;refine zB ((show Wp _ (fun s:Bool=>s=Sd->x.2.2.1≠0->x.2.1≠0)from ?_).mono (fun s p=>?_))
  .refine zF (fun a=>?_) (fun a=>?_)
   .have a:x.2.2.1=0:=by simpa using a
    repeat' (first
     |exact zA (fun _ c=>absurd a c)
     |refine zF (fun _=>?_) (fun _=>?_))
   .refine zF (fun _=>zA (fun t _=>by simpa using t)) (fun t=>zA (fun _ c=>?_));rw[a]at*
    exact absurd (show x.2.2.1=0 by simpa using t) c
  refine zF (fun _=>zA (fun h=>by cases h)) (fun J=>?_);have q:=p J;refine zB ((show Wp _ (fun s:Bool=>s=Sd->x.2.2.2.2.2.1=Sb->(0<=x.2.2.2.2.2.2.1/\x.2.2.2.2.2.2.1<=255)/\1<=x.2.2.2.2.2.2.2.1/\x.2.2.2.2.2.2.2.1<=65535)from ?_).mono (fun s p=>?_))
  .refine zF (fun a=>?_) (fun a=>?_)
   .refine zB (zK (vI _ _ _) (zF (fun _=>zA (fun h=>by cases h)) (fun A=>zB (zK (vI _ _ _) (zF (fun _=>zA (fun h=>by cases h)) (fun E=>?_))))));have A:0<=x.2.2.2.2.2.2.1/\x.2.2.2.2.2.2.1<=255:=by simpa using A
    have E:1<=x.2.2.2.2.2.2.2.1/\x.2.2.2.2.2.2.2.1<=65535:=by simpa using E
    repeat' (first
     |exact zA (fun _ _=>⟨A,E⟩)
     |refine zF (fun _=>?_) (fun _=>?_))
   .repeat' (first
     |exact zA (fun _ H=>by rw[a]at H;cases H)
     |refine zF (fun _=>?_) (fun _=>?_))
  refine zF (fun _=>zA (fun h=>by cases h)) (fun A=>?_);have F:=p A;refine zNl (n:=i) (P:=fun j=>∀y,l[j]?=Sa y->x.2.2.1≠0->y.2.2.1≠0->ovB (kD x.2.1 x.2.2.1) (kD y.2.1 y.2.2.1)=Sd) (by omega) ?_ (fun G=>?_)
  .intro j d;have g:l[j]?=Sa l[j]:=by simp
   simp only[zM g,af];refine zB ((show Wp _ (fun s:Bool=>s=Sd->x.2.2.1≠0->l[j].2.2.1≠0->ovB (kD x.2.1 x.2.2.1) (kD l[j].2.1 l[j].2.2.1)=Sd)from ?_).mono (fun s p=>?_))
   .refine zF (fun _=>zF (fun _=>?_) (fun a=>zA (fun _ _ c=>?_))) (fun a=>zA (fun _ c=>?_))
    .exact zB (zK (uB _ _) (zB (zK (uB _ _) (zB (zK (zGa _ _) (zA (fun h _ _=>h)))))))
    .exact absurd (show l[j].2.2.1=0 by simpa using a) c
    .exact absurd (show x.2.2.1=0 by simpa using a) c
   .refine zF (fun _=>zA (fun h=>by cases h)) (fun C=>zA (e2l ⟨rfl,?_⟩));intro y f;rw[g]at f;cases f;exact p C
  .refine e2l (zA (e2l ⟨rfl,?_⟩));intro m z I a;rcases aZ m i with t|t
   .exact B m z t a
   .have:m=i:=by omega
    subst this;rw[r]at a;cases a;exact⟨fun j y d g=>k j d y g,u,q,F,fun j y d g=>G j d y g⟩
structure qGX(r:Ty.El zG)(x:Ty.El zNv):Prop where
 pre:zC2 x.1=Sb
 admin:1<=x.2.2.2.2.1/\x.2.2.2.2.1<=255
 tag:0<=x.2.2.2.2.2.1/\x.2.2.2.2.2.1<=65535
 one:(x.2.1≠0/\x.2.2.1= { data:= #[] } /\x.2.2.2.1=Sd)\/(x.2.1=0/\x.2.2.1≠ { data:= #[] } /\x.2.2.2.1=Sd)\/(x.2.1=0/\x.2.2.1= { data:= #[] } /\x.2.2.2.1=Sb)
 iface:x.2.2.1≠ { data:= #[] } ->0<=qBs r x.2.2.1
def qGW(r:Ty.El zG):Prop:= ∀x,x∈r.2.2.2.2.2.2.2.1->qGX r x
theorem zYA(r:Ty.El zG)(m:SmR r):Wp (zBJ (r,())) (fun e=>e=0->qGW r):=by
 have G:=m.i6;unfold zBJ;dsimp only;refine zO (fun _=>zA (fun h=>by cases h)) (fun h=>?_);refine zHm (P:=qGX r) (by omega) ?_ (fun H=>zA (fun _=>H));intro i x C;have hi:=(aa.1 C).1;simp only[zM C,af];refine jU ?_;have q:Aa .i64 ((0:Int)+1)=1:=by decide
 have D:Aa .i64 ((1:Int)+1)=2:=by decide
 have I:Aa .i64 ((2:Int)+1)=3:=by decide
 refine zB ((show Wp _ (fun k:Int=>k=if x.2.1≠0 then 1 else 0)from ?_).mono (fun J a=>?_))
 .refine zF (fun h=>zA ?_) (fun h=>zA ?_)
  .rw[q,if_pos (by simpa using h)]
  .rw[if_neg (by simpa using h)]
 refine zB ((show Wp _ (fun k:Int=>k=J+if x.2.2.1≠ { data:= #[] }then 1 else 0)from ?_).mono (fun K d=>?_))
 .refine zF (fun h=>zA ?_) (fun h=>zA ?_)
  .rw[if_pos (by simpa using h)];split at a<;>(subst a;first|exact q|exact D)
  .rw[if_neg (by simpa using h)];omega
 refine zB ((show Wp _ (fun k:Int=>k=K+if x.2.2.2.1=Sb then 1 else 0)from ?_).mono (fun E t=>?_))
 .refine zF (fun h=>zA ?_) (fun h=>zA ?_)
  .have h:x.2.2.2.1=true:=h;rw[if_pos h];split at a<;>split at d<;>(subst a;subst d;first|exact q|exact D|exact I)
  .have h:x.2.2.2.1=false:=h;rw[if_neg (by rw[h];simp)];omega
 refine zB ((show Wp _ (fun s:Bool=>s=Sd->zC2 x.1=Sb/\E=1/\(1<=x.2.2.2.2.1/\x.2.2.2.2.1<=255)/\0<=x.2.2.2.2.2.1/\x.2.2.2.2.2.1<=65535)from ?_).mono (fun s L=>?_))
 .refine zB (zK (zCj _) (zF (fun _=>zA (fun h=>by cases h)) (fun g=>zF (fun _=>zA (fun h=>by cases h)) (fun u=>?_))));have g:zC2 x.1=true:=by simpa using g
  have u:E=1:=by simpa using u
  refine zF (fun _=>zB ((zD9 r x.2.1 m).mono (fun k _=>zO (fun _=>zA (fun h=>by cases h)) (fun _=>?_)))) (fun _=>?_)
  all_goals
   refine zB (zK (vI _ _ _) (zF (fun _=>zA (fun h=>by cases h)) (fun M=>zB (zK (vI _ _ _) (zA (fun N=>⟨g,u,?_,?_⟩))))))
   .simpa using M
   .simpa using N
 refine zF (fun _=>zA (fun h=>by cases h)) (fun g=>?_);obtain⟨O,F,Q,S⟩:=L g;refine qFw (fun _:Unit=>x.2.2.1≠ { data:= #[] } ->0<=qBs r x.2.2.1) ?_ (fun _ z=>?_)
 .refine zF (fun l=>?_) (fun l=>zA (e2l (fun h=>absurd h (by simpa using l))));refine zB ((zLl r _ m).mono (fun k A=>?_));subst A;refine zO (fun _=>zA (fun h=>by cases h)) (fun A=>?_);have f:0<=qBs r x.2.2.1:=dA.1 A;obtain⟨y,B,_⟩:=zWd (p:=fun W:Ty.El zZ=>W.1==x.2.2.1) (xs:=r.2.2.1) f;refine zB (zK (qGk f B) (zF (fun _=>zA (fun h=>by cases h)) (fun _=>zA (e2l (fun _=>f)))))
 .refine zNl (n:=i) (P:=fun _=>True) (by omega) ?_ (fun _=>e2l (zA (e2l ⟨rfl,O,Q,S,?_,z⟩)))
  .intro j Y;have B:r.2.2.2.2.2.2.2.1[j]?=Sa r.2.2.2.2.2.2.2.1[j]:=by simp
   simp only[zM B,af];refine zB ((show Wp _ (fun _:Bool=>True)from ?_).mono (fun s _=>zF (fun _=>zA (fun h=>by cases h)) (fun _=>zA (e2l ⟨rfl,trivial⟩))));exact zF (fun _=>zA trivial) (fun _=>zA trivial)
  .rw[t,d,a]at F;by_cases Z:x.2.1=0<;>by_cases c2:x.2.2.1= { data:= #[] } <;>cases c3:x.2.2.2.1<;>simp[Z,c2,c3]at F ⊢
def qFl(r:Ty.El zG)(a:Int):Int:=zHy (fun x:Ty.El zZ=>x.2.2.1 !=0&&x.2.1==a) r.2.2.1
theorem zNz(r:Ty.El zG)(a:Int)(c:SmR r):Wp (zAP (r,a,())) (fun k=>k=qFl r a):=by
 unfold zAP;dsimp only;have:=c.i1;refine zFA (p:=fun x:Ty.El zZ=>x.2.2.1 !=0&&x.2.1==a) (by omega) ?_ rfl
 grind[zM]
structure qHI(r:Ty.El zG):Prop where
 asn:0<=r.2.1/\r.2.1<=65535
 ifs:qGZ r.2.2.1
 sts:qGW r
 lists:zAr (r.2.2.2.1,())=Sa 0
 maps:zBn (r,())=Sa 0
 acls:zAs (r.2.2.2.2.2.1,())=Sa 0
 nat:xP (r,())=Sa 0
 filters:zDf (r,())=Sa 0
 ls:yV (r,())=Sa 0
 dv:zB7 (r,())=Sa 0
 pv:zAZ (r,())=Sa 0
 ifl:r.2.2.1.length<=8
theorem zRg(r:Ty.El zG)(c:SmR r):Wp (yN (r,())) (fun e=>e=0->qHI r):=by
 have y:=c;obtain⟨W,Y,i3,Z,i5,i6,i7,i8,i9,ab,ad,ag,al,an,n1,n2,n3⟩:=y;unfold yN;dsimp only;refine zB ((x5 _).mono (fun b _=>?_));refine zF (fun _=>zA (fun h=>by cases h)) (fun _=>?_);refine zB (zK (vI _ _ _) (zF (fun _=>zA (fun h=>by cases h)) (fun has=>?_)));have has:0<=r.2.1/\r.2.1<=65535:=by simpa using has
 refine zB ((zTh _ W).mono (fun d f=>?_));refine zB6 ((zEz _ Y n1).mono (fun _ _=>trivial)) (fun g z=>?_);refine zB6 ((zF6 _ c).mono (fun _ _=>trivial)) (fun j A=>?_);refine zB6 ((zEA _ Z n3).mono (fun _ _=>trivial)) (fun k B=>?_);refine zB6 ((zDX _ c).mono (fun _ _=>trivial)) (fun l C=>?_);refine zB6 ((zHN _ c).mono (fun _ _=>trivial)) (fun m D=>?_);refine zB ((zYA _ c).mono (fun n E=>?_));refine zB6 ((zF7 _ c).mono (fun _ _=>trivial)) (fun p F=>?_);refine zB6 ((zGR _ c).mono (fun _ _=>trivial)) (fun q G=>?_);refine zB6 ((zFq _ c).mono (fun _ _=>trivial)) (fun t H=>?_);refine zHm (P:=fun x:Int=>x=0) (xs:=[d,g,j,k,l,m,n,p,q,t]) (by simp) ?_ (fun a=>zA (fun _=>?_))
 .intro i x hx;simp[zM hx];refine zF (fun ao=>zA (fun h=>?_)) (fun h=>zA (e2l ⟨rfl,by simpa using h⟩))
  grind
 .have u:=a d (by simp);have I:=a g (by simp);have J:=a j (by simp);have K:=a k (by simp);have L:=a l (by simp);have M:=a m (by simp);have N:=a n (by simp);have O:=a p (by simp);have Q:=a q (by simp);have S:=a t (by simp);exact⟨has,(f u).1,E N,I▸z,J▸A,K▸B,L▸C,M▸D,O▸F,Q▸G,S▸H,(f u).2⟩
structure qGY(n:Ty.El zJ):Prop where
 len:n.1.length<=8
 rt:∀r,r∈n.1->qHI r
 name:∀(i j:Nat) r q,j<i->n.1[i]?=Sa r->n.1[j]?=Sa q->q.1≠r.1
 addr:∀(i j:Nat) r q,i≠j->n.1[i]?=Sa r->n.1[j]?=Sa q->∀x y,x∈r.2.2.1->y∈q.2.2.1->x.2.2.1≠0->y.2.2.1≠0->x.2.1≠y.2.1
theorem qCY(n:Ty.El zJ)(O:∀y,y∈n.1->SmR y):Wp (x8 (n,())) (fun e=>e=0->qGY n):=by
 unfold x8;dsimp only;refine zO (fun _=>zA (fun h=>by cases h)) (fun hl=>?_);refine zAK (by omega) (fun i=>∀m r,m<i->n.1[m]?=Sa r->qHI r/\(∀j q,j<m->n.1[j]?=Sa q->q.1≠r.1/\∀x y,x∈r.2.2.1->y∈q.2.2.1->x.2.2.1≠0->y.2.2.1≠0->x.2.1≠y.2.1)) (fun m x G=>by omega) ?_ (fun H=>zA (fun _=>?_))
 .intro i r d H;have hi:=(aa.1 d).1;have B:=O r (ae d);have Q:=B.i1;simp only[zM d,af];refine jU (zB ((zRg r B).mono (fun e S=>?_)));refine zF (fun g=>zA (fun h=>?_)) (fun h=>?_)
  .have h:e=0:=h;rw[h]at g;cases g
  have I:=S (by simpa using h);refine jU (zNl (n:=i) (P:=fun j=>∀q,n.1[j]?=Sa q->q.1≠r.1) (by omega) ?_ (fun p=>?_))
  .intro j f;have c:n.1[j]?=Sa n.1[j]:=by simp
   simp only[zM c,af];refine zF (fun _=>zA (fun h=>by cases h)) (fun J=>zA (e2l ⟨rfl,?_⟩));intro q l;rw[c]at l;cases l;simpa using J
  refine e2l (qFy (P:=fun x:Ty.El zZ=>∀j q,j<i->n.1[j]?=Sa q->∀y,y∈q.2.2.1->x.2.2.1≠0->y.2.2.1≠0->x.2.1≠y.2.1) (by omega) ?_ (fun a=>?_))
  .intro k x t;simp only[zM t,af];refine jU (zNl (n:=i) (P:=fun j=>∀q,n.1[j]?=Sa q->∀y,y∈q.2.2.1->x.2.2.1≠0->y.2.2.1≠0->x.2.1≠y.2.1) (by omega) ?_ (fun a=>e2l (zA (e2l ⟨rfl,fun j q f c=>a j f q c⟩))));intro j f;have c:n.1[j]?=Sa n.1[j]:=by simp
   simp only[zM c,af];refine zB ((show Wp _ (fun s:Bool=>s=Sd->∀y,y∈n.1[j].2.2.1->x.2.2.1≠0->y.2.2.1≠0->x.2.1≠y.2.1)from ?_).mono (fun s K=>?_))
   .refine zF (fun _=>zB ((zNz _ _ (O _ (aX _))).mono (fun k W=>zA ?_))) (fun C=>zA (fun _ y _ g=>absurd (show x.2.2.1=0 by simpa using C) g));subst W;intro hlt y A _ L M;have hlt:¬(qFl n.1[j] x.2.1>=0):=of_decide_eq_false hlt;apply hlt;unfold qFl;rw[zKs];refine bC.2 ⟨y,A,?_⟩;have Y:(y.2.2.1 !=0)=true:=by simpa using L
    have Z:(y.2.1==x.2.1)=true:=beq_iff_eq.2 M.symm;rw[Y,Z];rfl
   .refine zF (fun _=>zA ⟨(fun u h=>by cases h),(fun h=>by cases h)⟩) (fun J=>zA (e2l ⟨rfl,?_⟩));intro q l;rw[c]at l;cases l;exact K J
  .refine e2l (zA (e2l ⟨rfl,?_⟩));intro m z G C;rcases aZ m i with D|D
   .exact H m z D C
   .have:m=i:=by omega
    subst this;rw[d]at C;cases C;exact⟨I,fun j q f c=>⟨p j f q c,fun x y t A=>a x t j q f c y A⟩⟩
 .have a:∀m r,n.1[m]?=Sa r->_:=fun m r d=>H m r (aa.1 d).1 d;refine⟨by omega,?_,?_,?_⟩
  .intro r d;obtain⟨m,G,rfl⟩:=aA d;exact(a m _ (by simp[G])).1
  .intro i j r q N d c;exact((a i r d).2 j q N c).1
  .intro i j r q g d c x y t A E F;rcases aZ j i with D|D
   .exact((a i r d).2 j q D c).2 x y t A E F
   .exact fun h=>((a j q c).2 i r (by omega) d).2 y x A t F E h.symm
theorem zHv{n:Ty.El zJ}{d:List Int}{v:Ty.El zH}(h:qE n d v):qGY n:=by
 obtain⟨e,a,c⟩:=qCY n h.sm;have f:=h.chk
 grind
def rlt(x y:Ty.El zC):Prop:=plt x.1 y.1
theorem qBc:Ord rlt where
 asym:=fun x y h=>zK0.asym _ _ h
 tr:=fun x y z a c=>zK0.tr _ _ _ a c
def zFu(x:Ty.El zC):Int×Int×Int×Int×Int×Int×Int:=
 bif x.2.1==(3:Int)then(x.2.2.1,x.2.2.2.2.1,x.2.2.2.2.2.1,x.2.2.2.2.2.2.1,(0:Int),(0:Int),(0:Int))
 else bif x.2.1==(4:Int)then(x.2.2.2.2.1,x.2.2.1,x.2.2.2.2.2.2.1,(0:Int),(0:Int),(0:Int),(0:Int))
 else bif x.2.1==(5:Int)then(if(3:Int)<x.2.2.1 then(3:Int)else x.2.2.1,Aa .i64 ((1000000:Int) -x.2.2.2.2.2.2.2.1),(x.2.2.2.2.2.2.2.2.1.length:Int),x.2.2.2.2.1,x.2.2.1,Aa .i64 x.2.2.2.2.2.2.2.2.2.1,(0:Int))
 else(x.2.2.2.1,(0:Int),(0:Int),(0:Int),(0:Int),(0:Int),(0:Int))
def zWu:List (Int×Int)->Int
 |[]=>0
 |(a,b)::r=>if a<b then-1 else if b<a then 1 else zWu r
def zCK(x y:Ty.El zC):Int:=
 zWu [((zFu x).1,(zFu y).1),((zFu x).2.1,(zFu y).2.1),((zFu x).2.2.1,(zFu y).2.2.1),((zFu x).2.2.2.1,(zFu y).2.2.2.1),((zFu x).2.2.2.2.1,(zFu y).2.2.2.2.1),((zFu x).2.2.2.2.2.1,(zFu y).2.2.2.2.2.1),((zFu x).2.2.2.2.2.2,(zFu y).2.2.2.2.2.2)]
section
variable {α:Type}{lt eq:α->α->Bool}
def zJG(lt eq:α->α->Bool)(h:α):List α->List α
 |[]=>[h]
 |x::r=>bif lt x h then x::zJG lt eq h r else bif eq x h then x::r else h::x::r
theorem zOf(a:∀x y,eq x y=Sb↔x=y){h z:α}:∀{l:List α},z∈zJG lt eq h l↔z∈l\/z=h
 |[]=>by simp[zJG]
 |x::r=>by
  simp only[zJG]
  cases lt x h with
  |true=>simp[zOf a (l:=r)];grind
  |false=>
   grind
theorem zKp{R:α->α->Prop}(f:Ord R)(hlt:∀x y,lt x y=Sb↔R x y)(c:∀x y,eq x y=Sb↔x=y)(a:∀x y,¬R x y->x≠y->R y x){h:α}:∀{l:List α},l.Pairwise R->(zJG lt eq h l).Pairwise R
 |[],_=>by simp[zJG]
 |x::r,j=>by
  rw[bp]at j;simp only[zJG]
  cases n:lt x h with
  |true=>
   simp only[cond_true];rw[bp];refine⟨fun z d=>?_,zKp f hlt c a j.2⟩;rcases(zOf c).1 d with d|rfl;all_goals grind
  |false=>
   simp;have k:¬R x h:=fun p=>by grind
   cases q:eq x h with
   |true=>simp_all
   |false=>
    simp only[cond_false];have g:x≠h:=fun e=>by grind
    have m:=a _ _ k g;have t:∀z,R x z->R h z:=by intro z d;exact bF (fun i=>f.tr x z h (f.asym _ _ d) i m)
    simp_all
end
end Go.Ve

namespace Go.Ve
open Go
variable {j:Type}
theorem qDs{xs:List j}{k:Nat}(h:k<=xs.length):sub xs (k:Int) (xs.length:Int)=Sa (xs.drop k):=by simp_all[sub]
def zTK(p q:Ty.El zD):Bool:=decide (qGw p q<0)
variable {J:Ty.El zD}
theorem qD4{q:Ty.El zD}:zTK J q=Sb↔plt J q:=by unfold zTK;rw[decide_eq_true_eq];exact zOC
theorem zX4{α:Type}{lt eq:α->α->Bool}{h:α}:∀{l:List α},(zJG lt eq h l).length<=l.length+1
 |[]=>by simp[zJG]
 |x::r=>by
  have:=zX4 (lt:=lt) (eq:=eq) (h:=h) (l:=r)
  grind[zJG]
def zXI(l:List (Ty.El zC)):List (Ty.El zD):=l.foldl (fun a x=>zJG zTK zB3 x.1 a) []
theorem zNQ:∀(l:List (Ty.El zC)) (a:List (Ty.El zD)),(l.foldl (fun a x=>zJG zTK zB3 x.1 a) a).length<=a.length+l.length
 |[],a=>by simp
 |x::l,a=>by
  have c:=zNQ l (zJG zTK zB3 x.1 a)
  grind[zX4,List.length_cons,zTK,zB3]
theorem qD3(l:List (Ty.El zC)):(zXI l).length<=l.length:=by
 grind[zNQ,zXI]
theorem zR9:∀(l:List (Ty.El zC)) (a:List (Ty.El zD)),a.Pairwise plt->
  (l.foldl (fun a x=>zJG zTK zB3 x.1 a) a).Pairwise plt/\∀p,p∈l.foldl (fun a x=>zJG zTK zB3 x.1 a) a↔p∈a\/∃x,x∈l/\x.1=p
 |[],a,h=>⟨h,fun p=>by simp⟩
 |x::l,a,h=>by
  have c:=zR9 l (zJG zTK zB3 x.1 a) (zKp zK0 (fun _ _=>qD4) (fun _ _=>yY) (fun p q d c=>zZE d (fun e=>c e.symm)) h);refine⟨c.1,fun p=>?_⟩;rw[dB,c.2 p,zOf (fun _ _=>yY)]
  grind
theorem zJ9(l:List (Ty.El zC)):(zXI l).Pairwise plt:=(zR9 l [] Al).1
theorem zXH(l:List (Ty.El zC))(p:Ty.El zD):p∈zXI l↔ ∃x,x∈l/\x.1=p:=by have:=(zR9 l [] Al).2 p;rw[show zXI l=l.foldl (fun a x=>zJG zTK zB3 x.1 a) []from rfl,this];simp
def hlt(a b:Ty.El zP):Prop:=zHX a.1 a.2.1 b.1 b.2.1
theorem zHb:Ord hlt where
 asym:=fun x y h=>by grind[hlt,zHX]
 tr:=fun x y z a c=>by grind[hlt,zHX]
theorem zZX{p q:Ty.El zP}(h:¬hlt q p)(a:p≠q):hlt p q:=by
 refine qBi h (fun e=>a ?_)
 grind
def qCv(a b:Ty.El zP):Bool:=decide (zOD a.1 a.2.1 b.1 b.2.1<0)
theorem zSE{a b:Ty.El zP}:qCv a b=Sb↔hlt a b:=by unfold qCv;rw[decide_eq_true_eq];exact zWv
def zTY(a b:Ty.El zP):Bool:=a.1==b.1&&(a.2.1==b.2.1&&Sb)
theorem zMp(a b:Ty.El zP):zEw (a,b,())=Sa (qCv a b):=by
 refine jS ?_;unfold zEw;dsimp only;have f:∀s:Bool,(s=Sb↔hlt a b)->s=qCv a b:=by intro s g;rw[cR,zSE];exact g
 refine zB (zO (fun h=>zA (zA (f _ ⟨fun _=>.inl h,fun _=>rfl⟩))) (fun h=>zF (fun c=>zA (zA (f _ ?_))) (fun c=>zA (zA (f _ ?_)))))
 .have c:a.1=b.1:=by simpa using c
  rw[decide_eq_true_eq];exact⟨fun d=>.inr ⟨c,d⟩,fun d=>d.elim (fun e=>absurd e h) (fun e=>e.2)⟩
 .have c:¬a.1=b.1:=by simpa using c
  exact⟨(fun d=>by cases d),fun d=>(d.elim (fun e=>h e) (fun e=>c e.1)).elim⟩
def zJa(l:List (Ty.El zP))(h:Ty.El zP):List (Ty.El zP):=zJG qCv zTY h l
def qC4(x:Ty.El zC)(b:Option (Ty.El zC)):Bool:=
 match b with
 |none=>Sb
 |some y=>decide (zCK x y<0)
def zQB(p:Ty.El zD)(b:Option (Ty.El zC))(x:Ty.El zC):Option (Ty.El zC):=
 bif zB3 x.1 p&&qC4 x b then Sa x else b
def zFl(l:List (Ty.El zC))(p:Ty.El zD):Option (Ty.El zC):=l.foldl (zQB p) Sc
def zBZ(p:Ty.El zD)(b:Ty.El zC)(a:List (Ty.El zP))(x:Ty.El zC):List (Ty.El zP):=
 bif zB3 x.1 p&&(zCK x b==0)then x.2.2.2.2.2.2.2.2.2.2.2.1.foldl zJa a else a
def zCz(l:List (Ty.El zC))(p:Ty.El zD)(b:Ty.El zC):List (Ty.El zP):=l.foldl (zBZ p b) []
def qA7(b:Ty.El zC)(a:List (Ty.El zP)):Ty.El zC:=
 ((b.1.1,b.1.2.1,()),b.2.1,b.2.2.1,b.2.2.2.1,b.2.2.2.2.1,b.2.2.2.2.2.1,b.2.2.2.2.2.2.1,b.2.2.2.2.2.2.2.1,b.2.2.2.2.2.2.2.2.1,b.2.2.2.2.2.2.2.2.2.1,b.2.2.2.2.2.2.2.2.2.2.1,a,b.2.2.2.2.2.2.2.2.2.2.2.2.1,())
def mrg(l:List (Ty.El zC))(p:Ty.El zD):Option (Ty.El zC):=(zFl l p).map (fun b=>qA7 b (zCz l p b))
def zBs(l:List (Ty.El zC)):List (Ty.El zC):=(zXI l).filterMap (mrg l)
variable {i:Int}{I:List (Ty.El zC)}
theorem zZc(r:I.length<=1048576)(d:∀x,x∈I->zEC (x,())=Sa Sb)(m:∀x,x∈I->x.2.1=i)(k:I.Pairwise rlt):
  Wp (zG4 (I,i,())) (fun b=>b=Sb):=by
 have f:=aT.1 k;unfold zG4;dsimp only;refine zHm (P:=fun _=>True) (by omega) ?_ (fun _=>zA rfl);intro l x e;have n:=(aa.1 e).1;have p:=ae e
 have c:(l:Int)>0->Wp (Ab (idx I (Aa .i64 ((l:Int) - (1:Int)))) fun(g:Ty.El zC)=>Ab (xR (g.1,x.1,())) fun(j:Int)=>Sa (decide (j>=(0:Int)))) (fun s=>s=Sd):=by
  intro t;rw[zI (by omega) (by omega),show((l:Int) -1)=((l-1:Nat):Int) by omega];have q:I[l-1]?=Sa (I[l-1]'(by omega)):=by simp
  refine zB (zK (zM q) (zB (zK (zGZ _ _) (zA ?_))));have:=f (l-1) l (by omega) n (by omega);rw[(aa.1 e).2]at this;exact decide_eq_false (Int.not_le.2 (zOC.2 this))
 simp only[zM e,af];refine zB ((show Wp _ (fun s:Bool=>s=Sd)from ?_).mono (fun s k=>zF (fun h=>by grind) (fun _=>zA (e2l ⟨rfl,trivial⟩))));refine zB (zK (d x p) (zF (fun h=>by cases h) (fun _=>zF (fun _=>zF (fun h=>?_) (fun _=>?_)) (fun _=>?_))))
 .grind
 .exact zO (fun h=>c h) (fun _=>zA rfl)
 .exact zO (fun h=>c h) (fun _=>zA rfl)
theorem zYL{p:Ty.El zD}{b:Ty.El zC}:∀(l:List (Ty.El zC)) (c:Option (Ty.El zC)),l.foldl (zQB p) c=Sa b->c=Sa b\/(b∈l/\b.1=p)
 |[],c,h=>.inl h
 |x::l,c,h=>by
  rw[dB]at h;rcases zYL l _ h with h|⟨a,d⟩
  .unfold zQB at h
   cases e:zB3 x.1 p&&qC4 x c with
   |true=>
    simp_all[yY]
   |false=>grind
  grind
theorem zYK{b:Ty.El zC}(h:zFl I J=Sa b):b∈I/\b.1=J:=by
 rcases zYL I Sc h with h|h;all_goals grind
theorem zVV{z:Ty.El zC}(h:mrg I J=Sa z):z.1=J:=by
 unfold mrg at h
 cases a:zFl I J with
 |none=>grind
 |some b=>rw[a]at h;cases h;exact(zYK a).2
theorem zHw(l:List (Ty.El zC)):(zBs l).Pairwise rlt:=by
 unfold zBs;refine List.Pairwise.filterMap _ ?_ (zJ9 l);intro p q a y c z d
 grind[zVV,rlt]
theorem zQp{p:j->Bool}{xs:List j}{i:Nat}{x:j}(h:xs[i]?=Sa x):(xs.take (i+1)).filter p=(xs.take i).filter p++(if p x then[x]else[]):=by
 grind[List.getElem?_eq_some_iff,List.take_add_one,Option.toList_some]
def zIY(v:Ty.El zH)(r i:Int):List (Ty.El zR):=match v.2.1.1[(zAT v r i).toNat]? with
 |some d=>d.2.2.1
 |none=>[]
def zLy(v:Ty.El zH)(r i:Int)(p:Ty.El zR->Bool):List (Ty.El zR):=bif upB v r i then(zIY v r i).filter p else[]
variable {g:Ty.El zH}
theorem zTd{v:Int}(h:upB g i v=Sb):∃d,g.2.1.1[(zAT g i v).toNat]?=Sa d/\0<=zAT g i v/\zIY g i v=d.2.2.1:=by
 unfold upB at h;simp only[am,decide_eq_true_eq]at h;obtain⟨d,a,_⟩:=zWd (p:=fun d:Ty.El yF=>d.2.2.1.any (zMS (i,v,()))) (xs:=g.2.1.1) h.1
 grind[zIY,zAT]
theorem zSZ(a:zFz g)(r i:Int):(zIY g r i).length<=360:=by
 unfold zIY;split
 .rename_i d c;exact a.ends d (ae c)
 grind
theorem zJW(v:Ty.El zH)(r i:Int)(a:zFz v):Wp (zCl (v,r,i,())) (fun l=>l=zLy v r i (fun e=>e.1 !=r)):=by
 unfold zCl zLy;dsimp only;refine zB ((zLM v r i a).mono (fun b m=>?_));subst m;refine zF (fun h=>zA ?_) (fun h=>?_)
 .grind
 .have h:upB v r i=true:=by simpa using h
  rw[h];obtain⟨d,n,p,u⟩:=zTd h;have y:d.2.2.1.length<=360:=by grind[zSZ]
  refine zB ((zC9 v r i a).mono (fun k q=>?_));subst q;simp only[xG n p,af];refine zB (uO (xs:=d.2.2.1) (by omega) (fun j (g:List (Ty.El zR))=>g=(d.2.2.1.take j).filter (fun e=>e.1 !=r)) (by simp) ?_ (fun g c=>zA ?_))
  .intro j x g f c;have t:g.length<=360:=by grind
   simp only[zM f,af];rw[zQp f,<-c];refine zF (fun h=>zB (xZ (by grind) (zA ?_))) (fun h=>zA ?_);all_goals grind
  grind
theorem zLj(v:Ty.El zH)(r i:Int)(a:zFz v):Wp (zAo (v,r,i,())) (fun l=>l=zLy v r i (fun e=>e.1 !=r||e.2.1 !=i)):=by
 unfold zAo zLy;dsimp only;refine zB ((zIA v r i a).mono (fun b n=>?_));subst n;refine zF (fun h=>zA ?_) (fun h=>?_)
 .grind
 .have h:upB v r i=true:=by simpa using h
  rw[h];obtain⟨d,p,q,A⟩:=zTd h;have B:d.2.2.1.length<=360:=by grind[zSZ]
  refine zB (zB ((zEd v r i a).mono (fun k t=>?_)));subst t;simp only[xG p q,af];refine uO (xs:=d.2.2.1) (by omega) (fun j (g:List (Ty.El zR))=>g=(d.2.2.1.take j).filter (fun e=>e.1 !=r||e.2.1 !=i)) (by simp) ?_ (fun g c=>zA ?_)
  .intro j x g f c;have u:g.length<=360:=by grind
   simp only[zM f,af];rw[zQp f,<-c];refine zB ((show Wp _ (fun s:Bool×List (Ty.El zR)=>s.1=(x.1 !=r||x.2.1 !=i)/\s.2=g)from ?_).mono (fun s y=>?_))
   .refine zF (fun h=>zA ⟨?_,rfl⟩) (fun h=>zA ⟨?_,rfl⟩);all_goals grind
   .obtain⟨D,E⟩:=s;obtain⟨z,m⟩:=y;simp only at z m;subst m;refine zF (fun h=>zB (xZ (by grind) (zA ?_))) (fun h=>zA ?_);all_goals grind
  grind
variable {C:List Int}{l:Ty.El zJ}
theorem zWh(d:qE l C g){v:Int}(h:upB g i v=Sb):∃a:Ty.El yF,zIq l a.1 a.2.1 (i,v,())/\(∀e,e∈zIY g i v->zIq l a.1 a.2.1 e):=by
 have f:=h;unfold upB at f;simp only[am,decide_eq_true_eq]at f;obtain⟨a,j,k⟩:=zWd (p:=fun C:Ty.El yF=>C.2.2.1.any (zMS (i,v,()))) (xs:=g.2.1.1) f.1;obtain⟨e,n,m⟩:=bC.1 k;have q:=qE0.1 m;subst q;have c:=(d.topo.ends a (ae j)).2;refine⟨a,c _ n,?_⟩
 grind[zTd,zAT]
theorem qCQ(t:qE l C g){r:Int}(h:upB g i r=Sb){e:Ty.El zR}(F:e∈zIY g i r)(G:e.1=i):e.2.1=r:=by
 obtain⟨u,⟨z,j,k,x,f,v,A,_,H,_⟩,a⟩:=zWh t h;obtain⟨M,n,I,y,B,d,D,_,J,_⟩:=a e F;have z:(0:Int)<=i:=z;have j:(0:Int)<=r:=j;have f:l.1[i.toNat]?=Sa k:=f;have v:k.2.2.1[r.toNat]?=Sa x:=v;rw[G,f]at B;cases B;have c:=(zHv t).rt k (ae f);have K:Sa (kD x.2.1 x.2.2.1)=Sa u.1:=(uB x.2.1 x.2.2.1).symm.trans H;have L:Sa (kD y.2.1 y.2.2.1)=Sa u.1:=(uB y.2.1 y.2.2.1).symm.trans J;have E:kD x.2.1 x.2.2.1=kD y.2.1 y.2.2.1:=aW (K.trans L.symm);have n:(0:Int)<=e.2.1:=n;rcases cU r.toNat e.2.1.toNat with hlt|heq|m
 .have:=(c.ifs _ y d).apart _ x hlt v D A;rw[E,zNS]at this;cases this
 .exact(show ∀(p q:Int),0<=p->0<=q->p.toNat=q.toNat->q=p from fun p q N O P=>by omega) r e.2.1 j n heq
 .have:=(c.ifs _ x v).apart _ y m d A D;rw[E,zNS]at this;cases this
theorem qEh(a:qE l C g)(r i:Int):zLy g r i (fun e=>e.1 !=r||e.2.1 !=i)=zLy g r i (fun e=>e.1 !=r):=by
 unfold zLy
 cases h:upB g r i with
 |false=>rfl
 |true=>
  show(zIY g r i).filter _=(zIY g r i).filter _;refine List.filter_congr (fun e c=>?_)
  grind[qCQ]
theorem zEf(p q:Ty.El zD):zCS (p,q,())=Sa (decide (p.2.1<=q.2.1)&&zJs p q.1):=by unfold zCS;dsimp only;rw[show zCf (p,q.1,())=Sa (zJs p q.1)from zMq p q.1];cases decide (p.2.1<=q.2.1)<;>rfl
theorem tt{c:Bool}{x y:Option j}{Q:j->Prop}(a:c=Sb)(h:Wp x Q):Wp (bif c then x else y) Q:=by rw[a];exact h
theorem ff{c:Bool}{x y:Option j}{Q:j->Prop}(a:c=Sd)(h:Wp y Q):Wp (bif c then x else y) Q:=by rw[a];exact h
end Go.Ve
namespace Go.Ve
noncomputable section
open Go
set_option linter.unusedVariables false
def zBu{α:Type}(k:α×α×Unit->Option Int):List α->(Int×Int×Unit×Unit)->Option (List α×Unit):=fun l x=>match x with
 |(m,B,(),())=>
  zS
   (fun(d:Int×List (α))=>
    bif decide (d.1<B)then
     Ab
      (zS
       (fun(a:Int×List (α))=>
        Ab
         (bif decide (a.1>m)then
          Ab (idx a.2 a.1) fun(n:α)=>
           Ab (atN a.2 (Ac a.1)) fun(f:α)=>
            Ab (idx a.2 (Aa .i64 (a.1- (1:Int)))) fun(p:α)=>
             Ab (atN a.2 (Ac (Aa .i64 (a.1- (1:Int))))) fun(g:α)=>
              Ab (k (f,g,())) fun(h:Int)=>Sa (decide (h< (0:Int)),a.2)
         else Sa (Sd,a.2))
         fun(c:Bool×List (α))=>
         bif c.1 then
          Ab (idx c.2 (Aa .i64 (a.1- (1:Int)))) fun(q:α)=>
           Ab (atN c.2 (Ac (Aa .i64 (a.1- (1:Int))))) fun(e:α)=>
            Ab (idx c.2 a.1) fun(t:α)=>
             Ab (atN c.2 (Ac a.1)) fun(i:α)=>
              Ab (idx c.2 a.1) fun(u:α)=>
               Ab (atN c.2 (Ac a.1)) fun(y:α)=>
                Ab (idx (Aj c.2 (Ac a.1) e) (Aa .i64 (a.1- (1:Int)))) fun(z:α)=>
                 Ab (atN (Aj c.2 (Ac a.1) e) (Ac (Aa .i64 (a.1- (1:Int)))))
                  fun(A:α)=>
                  Sa
                   (Ah
                    (Aa .i64 (a.1- (1:Int)),
                     Aj (Aj c.2 (Ac a.1) e) (Ac (Aa .i64 (a.1- (1:Int)))) i))
         else Sa (Ak c.2))
       d)
      fun(j:List (α))=>Sa (Ah (Aa .i64 (d.1+(1:Int)),j))
    else Am (fun(r:List (α)×Unit)=>Ak r) (bif Ai (Ad d.2) (Ad l)then Sa (d.2,())else Sc))
   (Aa .i64 (m+(1:Int)),l)
def zF8{α:Type}(h:α×α×Unit->Option Int):List α->(Int×Int×Int×Unit×Unit)->Option (List α×Unit):=fun g x=>match x with
 |(c,e,i,(),())=>
  zS
   (fun(a:Int×List (α))=>
    bif decide (a.1<i)then
     Ab (idx a.2 (Aa .i64 (e+a.1))) fun(j:α)=>
      Ab (atN a.2 (Ac (Aa .i64 (e+a.1)))) fun(d:α)=>
       Ab (idx a.2 (Aa .i64 (c+a.1))) fun(k:α)=>
        Ab (atN a.2 (Ac (Aa .i64 (c+a.1)))) fun(f:α)=>
         Ab (idx a.2 (Aa .i64 (c+a.1))) fun(l:α)=>
          Ab (atN a.2 (Ac (Aa .i64 (c+a.1)))) fun(m:α)=>
           Ab (idx (Aj a.2 (Ac (Aa .i64 (c+a.1))) d) (Aa .i64 (e+a.1)))
            fun(n:α)=>
            Ab (atN (Aj a.2 (Ac (Aa .i64 (c+a.1))) d) (Ac (Aa .i64 (e+a.1))))
             fun(p:α)=>
             Sa
              (Ah
               (Aa .i64 (a.1+(1:Int)),
                Aj (Aj a.2 (Ac (Aa .i64 (c+a.1))) d) (Ac (Aa .i64 (e+a.1))) f))
    else Am (fun(r:List (α)×Unit)=>Ak r) (bif Ai (Ad a.2) (Ad g)then Sa (a.2,())else Sc))
   ((0:Int),g)
def zVL{α:Type}(d:α×α×Unit->Option Int):List α->(Int×Int×Int×Unit×Unit)->Option (List α×Unit):=fun g x=>match x with
 |(h,c,i,(),())=>
  Ab
   (zS
    (fun(a:Int×Int×List (α))=>
     bif a.1 !=a.2.1 then
      bif decide (a.1>a.2.1)then
       bif Ai (Ad a.2.2) (Ad a.2.2)then
        Ab (zF8 d a.2.2 (Aa .i64 (c-a.1),c,a.2.1,(),())) fun(j:List (α)×Unit)=>
         Sa (Ah (Aa .i64 (a.1-a.2.1),a.2.1,j.1))
       else Sc
      else
       bif Ai (Ad a.2.2) (Ad a.2.2)then
        Ab
         (zF8 d a.2.2
          (Aa .i64 (c-a.1),Aa .i64 (Aa .i64 (c+a.2.1) -a.1),a.1,(),()))
         fun(k:List (α)×Unit)=>Sa (Ah (a.1,Aa .i64 (a.2.1-a.1),k.1))
       else Sc
     else Sa (Ak (a.2.2,a.1)))
    (Aa .i64 (c-h),Aa .i64 (i-c),g))
   fun(e:List (α)×Int)=>
   bif Ai (Ad e.1) (Ad e.1)then
    Ab (zF8 d e.1 (Aa .i64 (c-e.2),c,e.2,(),())) fun(f:List (α)×Unit)=>
     bif Ai (Ad f.1) (Ad g)then Sa (f.1,())else Sc
   else Sc
def zJT{α:Type}(p:α×α×Unit->Option Int)(self:List α->(Int×Int×Int×Unit×Unit)->Option (List α×Unit)):List α->(Int×Int×Int×Unit×Unit)->Option (List α×Unit):=fun B x=>match x with
 |(h,i,k,(),())=>
  wB
   (bif Aa .i64 (i-h)==(1:Int)then
    Ab
     (zS
      (fun(f:Int×Int×List (α))=>
       bif decide (f.1<f.2.1)then
        Ab
         (idx f.2.2
          (Aa .i64
           (Ag (Aa .u64 (Aa .i64 (f.1+f.2.1))) ((2:Int)^min (Ac (1:Int)) (Ae Af)))))
         fun(av:α)=>
         Ab
          (atN f.2.2
           (Ac
            (Aa .i64
             (Ag (Aa .u64 (Aa .i64 (f.1+f.2.1))) ((2:Int)^min (Ac (1:Int)) (Ae Af))))))
          fun(O:α)=>
          Ab (idx f.2.2 h) fun(ax:α)=>
           Ab (atN f.2.2 (Ac h)) fun(P:α)=>
            Ab (p (O,P,())) fun(Q:Int)=>
             bif decide (Q< (0:Int))then
              Sa
               (Ah
                (Aa .i64
                  (Aa .i64
                    (Ag (Aa .u64 (Aa .i64 (f.1+f.2.1)))
                     ((2:Int)^min (Ac (1:Int)) (Ae Af)))+
                   (1:Int)),
                 f.2))
             else
              Sa
               (Ah
                (f.1,
                 Aa .i64
                  (Ag (Aa .u64 (Aa .i64 (f.1+f.2.1)))
                   ((2:Int)^min (Ac (1:Int)) (Ae Af))),
                 f.2.2))
       else Sa (Ak (f.1,f.2.2)))
      (i,k,B))
     fun(C:Int×List (α))=>
     zS
      (fun(e:Int×List (α))=>
       bif decide (e.1<Aa .i64 (C.1- (1:Int)))then
        Ab (idx e.2 (Aa .i64 (e.1+(1:Int)))) fun(ay:α)=>
         Ab (atN e.2 (Ac (Aa .i64 (e.1+(1:Int))))) fun(A:α)=>
          Ab (idx e.2 e.1) fun(a4:α)=>
           Ab (atN e.2 (Ac e.1)) fun(S:α)=>
            Ab (idx e.2 e.1) fun(a5:α)=>
             Ab (atN e.2 (Ac e.1)) fun(a6:α)=>
              Ab (idx (Aj e.2 (Ac e.1) A) (Aa .i64 (e.1+(1:Int)))) fun(a9:α)=>
               Ab (atN (Aj e.2 (Ac e.1) A) (Ac (Aa .i64 (e.1+(1:Int))))) fun(bb:α)=>
                Sa
                 (Ah
                  (Aa .i64 (e.1+(1:Int)),
                   Aj (Aj e.2 (Ac e.1) A) (Ac (Aa .i64 (e.1+(1:Int)))) S))
       else
        Am (fun(r:List (α) ⊕ List (α)×Unit)=>Ak r)
         (Am (fun(r:List (α)×Unit)=>Ak r) (bif Ai (Ad e.2) (Ad B)then Sa (e.2,())else Sc)))
      (h,C.2)
   else Sa (Ah B))
   fun(D:List (α))=>
   wB
    (bif Aa .i64 (k-i)==(1:Int)then
     Ab
      (zS
       (fun(d:Int×Int×List (α))=>
        bif decide (d.1<d.2.1)then
         Ab (idx d.2.2 i) fun(W:α)=>
          Ab (atN d.2.2 (Ac i)) fun(E:α)=>
           Ab
            (idx d.2.2
             (Aa .i64
              (Ag (Aa .u64 (Aa .i64 (d.1+d.2.1)))
               ((2:Int)^min (Ac (1:Int)) (Ae Af)))))
            fun(Y:α)=>
            Ab
             (atN d.2.2
              (Ac
               (Aa .i64
                (Ag (Aa .u64 (Aa .i64 (d.1+d.2.1)))
                 ((2:Int)^min (Ac (1:Int)) (Ae Af))))))
             fun(F:α)=>
             Ab (p (E,F,())) fun(G:Int)=>
              bif !decide (G< (0:Int))then
               Sa
                (Ah
                 (Aa .i64
                   (Aa .i64
                     (Ag (Aa .u64 (Aa .i64 (d.1+d.2.1)))
                      ((2:Int)^min (Ac (1:Int)) (Ae Af)))+
                    (1:Int)),
                  d.2))
              else
               Sa
                (Ah
                 (d.1,
                  Aa .i64
                   (Ag (Aa .u64 (Aa .i64 (d.1+d.2.1)))
                    ((2:Int)^min (Ac (1:Int)) (Ae Af))),
                  d.2.2))
        else Sa (Ak (d.1,d.2.2)))
       (h,i,D))
      fun(q:Int×List (α))=>
      zS
       (fun(a:Int×List (α))=>
        bif decide (a.1>q.1)then
         Ab (idx a.2 (Aa .i64 (a.1- (1:Int)))) fun(Z:α)=>
          Ab (atN a.2 (Ac (Aa .i64 (a.1- (1:Int))))) fun(n:α)=>
           Ab (idx a.2 a.1) fun(ab:α)=>
            Ab (atN a.2 (Ac a.1)) fun(H:α)=>
             Ab (idx a.2 a.1) fun(ad:α)=>
              Ab (atN a.2 (Ac a.1)) fun(ag:α)=>
               Ab (idx (Aj a.2 (Ac a.1) n) (Aa .i64 (a.1- (1:Int)))) fun(al:α)=>
                Ab (atN (Aj a.2 (Ac a.1) n) (Ac (Aa .i64 (a.1- (1:Int)))))
                 fun(an:α)=>
                 Sa
                  (Ah
                   (Aa .i64 (a.1- (1:Int)),
                    Aj (Aj a.2 (Ac a.1) n) (Ac (Aa .i64 (a.1- (1:Int)))) H))
        else
         Am (fun(r:List (α) ⊕ List (α)×Unit)=>Ak r)
          (Am (fun(r:List (α)×Unit)=>Ak r) (bif Ai (Ad a.2) (Ad B)then Sa (a.2,())else Sc)))
       (i,q.2)
    else Sa (Ah D))
    fun(t:List (α))=>
    Ab
     (bif
       decide
        (i>
         Aa .i64
          (Ag (Aa .u64 (Aa .i64 (h+k))) ((2:Int)^min (Ac (1:Int)) (Ae Af))))then
      Sa
       (Aa .i64
         (Aa .i64
           (Aa .i64
             (Ag (Aa .u64 (Aa .i64 (h+k))) ((2:Int)^min (Ac (1:Int)) (Ae Af)))+
            i) -
          k),
        Aa .i64 (Ag (Aa .u64 (Aa .i64 (h+k))) ((2:Int)^min (Ac (1:Int)) (Ae Af))),
        t)
     else Sa (h,i,t))
     fun(I:Int×Int×List (α))=>
     Ab
      (zS
       (fun(c:Int×Int×List (α))=>
        bif decide (c.1<c.2.1)then
         Ab
          (idx c.2.2
           (Aa .i64
            (Aa .i64
              (Aa .i64
                (Aa .i64
                  (Ag (Aa .u64 (Aa .i64 (h+k))) ((2:Int)^min (Ac (1:Int)) (Ae Af)))+
                 i) -
               (1:Int)) -
             Aa .i64
              (Ag (Aa .u64 (Aa .i64 (c.1+c.2.1)))
               ((2:Int)^min (Ac (1:Int)) (Ae Af))))))
          fun(ao:α)=>
          Ab
           (atN c.2.2
            (Ac
             (Aa .i64
              (Aa .i64
                (Aa .i64
                  (Aa .i64
                    (Ag (Aa .u64 (Aa .i64 (h+k))) ((2:Int)^min (Ac (1:Int)) (Ae Af)))+
                   i) -
                 (1:Int)) -
               Aa .i64
                (Ag (Aa .u64 (Aa .i64 (c.1+c.2.1)))
                 ((2:Int)^min (Ac (1:Int)) (Ae Af)))))))
           fun(J:α)=>
           Ab
            (idx c.2.2
             (Aa .i64
              (Ag (Aa .u64 (Aa .i64 (c.1+c.2.1)))
               ((2:Int)^min (Ac (1:Int)) (Ae Af)))))
            fun(ap:α)=>
            Ab
             (atN c.2.2
              (Ac
               (Aa .i64
                (Ag (Aa .u64 (Aa .i64 (c.1+c.2.1)))
                 ((2:Int)^min (Ac (1:Int)) (Ae Af))))))
             fun(K:α)=>
             Ab (p (J,K,())) fun(L:Int)=>
              bif !decide (L< (0:Int))then
               Sa
                (Ah
                 (Aa .i64
                   (Aa .i64
                     (Ag (Aa .u64 (Aa .i64 (c.1+c.2.1)))
                      ((2:Int)^min (Ac (1:Int)) (Ae Af)))+
                    (1:Int)),
                  c.2))
              else
               Sa
                (Ah
                 (c.1,
                  Aa .i64
                   (Ag (Aa .u64 (Aa .i64 (c.1+c.2.1)))
                    ((2:Int)^min (Ac (1:Int)) (Ae Af))),
                  c.2.2))
        else Sa (Ak (c.1,c.2.2)))
       I)
      fun(g:Int×List (α))=>
      Ab
       (Ab
        (bif decide (g.1<i)then
         Sa
          (decide
            (i<
             Aa .i64
              (Aa .i64
                (Aa .i64
                  (Ag (Aa .u64 (Aa .i64 (h+k))) ((2:Int)^min (Ac (1:Int)) (Ae Af)))+
                 i) -
               g.1)),
           g.2)
        else Sa (Sd,g.2))
        fun(l:Bool×List (α))=>
        bif l.1 then
         bif Ai (Ad l.2) (Ad l.2)then
          Ab
           (zVL p l.2
            (g.1,i,
             Aa .i64
              (Aa .i64
                (Aa .i64
                  (Ag (Aa .u64 (Aa .i64 (h+k))) ((2:Int)^min (Ac (1:Int)) (Ae Af)))+
                 i) -
               g.1),
             (),()))
           fun(M:List (α)×Unit)=>Sa M.1
         else Sc
        else Sa l.2)
       fun(u:List (α))=>
       Ab
        (Ab
         (bif decide (h<g.1)then
          Sa
           (decide
             (g.1<
              Aa .i64
               (Ag (Aa .u64 (Aa .i64 (h+k))) ((2:Int)^min (Ac (1:Int)) (Ae Af)))),
            u)
         else Sa (Sd,u))
         fun(m:Bool×List (α))=>
         bif m.1 then
          bif Ai (Ad m.2) (Ad m.2)then
           Ab
            (self m.2
             (h,g.1,
              Aa .i64
               (Ag (Aa .u64 (Aa .i64 (h+k))) ((2:Int)^min (Ac (1:Int)) (Ae Af))),
              (),()))
            fun(N:List (α)×Unit)=>Sa N.1
          else Sc
         else Sa m.2)
        fun(y:List (α))=>
        Ab
         (bif
           decide
            (Aa .i64
              (Ag (Aa .u64 (Aa .i64 (h+k))) ((2:Int)^min (Ac (1:Int)) (Ae Af)))<
             Aa .i64
              (Aa .i64
                (Aa .i64
                  (Ag (Aa .u64 (Aa .i64 (h+k))) ((2:Int)^min (Ac (1:Int)) (Ae Af)))+
                 i) -
               g.1))then
          Sa
           (decide
             (Aa .i64
               (Aa .i64
                 (Aa .i64
                   (Ag (Aa .u64 (Aa .i64 (h+k))) ((2:Int)^min (Ac (1:Int)) (Ae Af)))+
                  i) -
                g.1)<
              k),
            y)
         else Sa (Sd,y))
         fun(j:Bool×List (α))=>
         bif j.1 then
          bif Ai (Ad j.2) (Ad j.2)then
           Ab
            (self j.2
             (Aa .i64
               (Ag (Aa .u64 (Aa .i64 (h+k))) ((2:Int)^min (Ac (1:Int)) (Ae Af))),
              Aa .i64
               (Aa .i64
                 (Aa .i64
                   (Ag (Aa .u64 (Aa .i64 (h+k))) ((2:Int)^min (Ac (1:Int)) (Ae Af)))+
                  i) -
                g.1),
              k,(),()))
            fun(z:List (α)×Unit)=>bif Ai (Ad z.1) (Ad B)then Sa (z.1,())else Sc
          else Sc
         else bif Ai (Ad j.2) (Ad B)then Sa (j.2,())else Sc
def zCF{α:Type}(a:α×α×Unit->Option Int):Nat->(List α->(Int×Int×Int×Unit×Unit)->Option (List α×Unit))
 |0=>fun _ _=>Sc
 |n+1=>zJT a (zCF a n)
def zHP{α:Type}(a:α×α×Unit->Option Int):List α->(Int×Int×Int×Unit×Unit)->Option (List α×Unit):=zCF a 1048576
def zNw{α:Type}(e:α×α×Unit->Option Int):List α->(Int×Unit×Unit)->Option (List α×Unit):=fun l x=>match x with
 |(g,(),())=>
  Ab
   (zS
    (fun(f:Int×List (α)×Int)=>
     bif decide (f.1<=g)then
      bif Ai (Ad f.2.1) (Ad f.2.1)then
       Ab (zBu e f.2.1 (f.2.2,f.1,(),())) fun(m:List (α)×Unit)=>
        Sa (Ah (Aa .i64 (f.1+(20:Int)),m.1,f.1))
      else Sc
     else Sa (Ak f.2))
    ((20:Int),l,(0:Int)))
   fun(h:List (α)×Int)=>
   bif Ai (Ad h.1) (Ad h.1)then
    Ab (zBu e h.1 (h.2,g,(),())) fun(n:List (α)×Unit)=>
     zS
      (fun(c:Int×List (α))=>
       bif decide (c.1<g)then
        Ab
         (zS
          (fun(a:Int×List (α)×Int)=>
           bif decide (a.1<=g)then
            bif Ai (Ad a.2.1) (Ad a.2.1)then
             Ab (zHP e a.2.1 (a.2.2,Aa .i64 (a.2.2+c.1),a.1,(),()))
              fun(i:List (α)×Unit)=>
              Sa (Ah (Aa .i64 (a.1+Aa .i64 ((2:Int)*c.1)),i.1,a.1))
            else Sc
           else Sa (Ak (a.2.2,a.2.1)))
          (Aa .i64 ((2:Int)*c.1),c.2,(0:Int)))
         fun(d:Int×List (α))=>
         Ab
          (bif decide (Aa .i64 (d.1+c.1)<g)then
           bif Ai (Ad d.2) (Ad d.2)then
            Ab (zHP e d.2 (d.1,Aa .i64 (d.1+c.1),g,(),())) fun(j:List (α)×Unit)=>
             Sa j.1
           else Sc
          else Sa d.2)
          fun(k:List (α))=>Sa (Ah (Aa .i64 (c.1*(2:Int)),k))
       else Am (fun(r:List (α)×Unit)=>Ak r) (bif Ai (Ad c.2) (Ad l)then Sa (c.2,())else Sc))
      ((20:Int),n.1)
   else Sc
def zG0{α:Type}(c:α×α×Unit->Option Int):List α->(Unit×Unit)->Option (List α×Unit):=fun a x=>match x with
 |((),())=>
  bif Ai (Ad a) (Ad a)&&Ai (Ad a) (Ad a)then
   Ab (zNw c a ((↑(Ad a):Int),(),())) fun(d:List (α)×Unit)=>
    bif Ai (Ad d.1) (Ad a)then Sa (d.1,())else Sc
  else Sc
end
end Go.Ve
namespace Go.Ve
open Go
section
variable {α:Type}{cmp:α×α×Unit->Option Int}
theorem zE5(xs:List α)(a b n:Nat)(m:a+n<=b)(q:b+n<=xs.length)(t:xs.length<0x4000000000000000):
  Wp (zF8 cmp xs ((a:Int),(b:Int),(n:Int),(),())) (fun r=>r.1.length=xs.length/\∀k,r.1[k]?=swF a b n xs k):=by
 unfold zF8;dsimp only;refine uA (fun s:Int×List α=>∃i:Nat,s.1=(i:Int)/\i<=n/\s.2.length=xs.length/\∀k,s.2[k]?=swF a b i xs k) (fun s=>((n:Int) -s.1).toNat) ⟨0,rfl,aY _,rfl,fun k=>qDq.symm⟩ ?_;rintro⟨s,c⟩ ⟨i,j,p,d,l⟩;simp only at j d l;subst j;refine zO (fun h=>?_) (fun h=>?_)
 .have h:(i:Int)< (n:Int):=h;have f:c[a+i]?=Sa (c[a+i]'(by omega)):=by simp
  have g:c[b+i]?=Sa (c[b+i]'(by omega)):=by simp
  have e:(c.set (a+i) (c[b+i]'(by omega)))[b+i]?=Sa (c[b+i]'(by omega)):=by grind
  dsimp only;rw[zI (x:=(b:Int)+(i:Int)) (by omega) (by omega),zI (x:=(a:Int)+(i:Int)) (by omega) (by omega),show((b:Int)+(i:Int))=((b+i:Nat):Int) by omega,show((a:Int)+(i:Int))=((a+i:Nat):Int) by omega];simp only[zM f,zM g,aF,yJ f,yJ g,af,zM e,yJ e];refine zA (e2l ⟨⟨i+1,?_,by omega,by grind,qDr (by omega) (by omega) d l f g⟩,?_⟩);all_goals grind[zI]
 .have h:¬(i:Int)< (n:Int):=h;have:i=n:=by omega
  simp_all[zA,e2r]
theorem zWA{xs a:List α}(h:xs.length=a.length):Ai xs.length a.length=true:=by simp_all
theorem zVA(xs:List α)(a m b:Nat)(A:a<m)(B:m<b)(F:b<=xs.length)(G:xs.length<0x4000000000000000):
  Wp (zVL cmp xs ((a:Int),(m:Int),(b:Int),(),())) (fun r=>r.1.length=xs.length/\∀k,r.1[k]?=zAF a m b xs k):=by
 unfold zVL;dsimp only;rw[zI (x:=(m:Int) - (a:Int)) (by omega) (by omega),zI (x:=(b:Int) - (m:Int)) (by omega) (by omega)];refine zB ((show Wp _ (fun s:List α×Int=>s.1.length=xs.length/\∃i:Nat,s.2=(i:Int)/\0<i/\i<=m/\m+i<=b/\∀k,zAF (m-i) m (m+i) s.1 k=zAF a m b xs k)from ?_).mono ?_)
 .refine uA (fun s:Int×Int×List α=>s.2.2.length=xs.length/\∃i j:Nat,s.1=(i:Int)/\s.2.1=(j:Int)/\0<i/\0<j/\i<=m-a/\m+j<=b/\∀k,zAF (m-i) m (m+j) s.2.2 k=zAF a m b xs k) (fun s=>(s.1+s.2.1).toNat)
   ⟨rfl,m-a,b-m,by simp only;omega,by simp only;omega,by omega,by omega,by omega,by omega,fun k=>by grind⟩ ?_
  rintro⟨H,I,e⟩ ⟨c,i,j,f,z,g,q,t,u,l⟩;simp only at f z c l;subst f z;refine zF (fun n=>?_) (fun J=>zA (e2r ⟨c,i,rfl,g,by omega,?_,?_⟩))
  .have n:¬(i:Int)=(j:Int):=by simpa using n
   refine zO (fun d=>?_) (fun d=>?_)
   .have d:(i:Int)>(j:Int):=d;refine zF (fun _=>?_) (fun h=>absurd h (by simp_all));dsimp only;rw[zI (x:=(m:Int) - (i:Int)) (by omega) (by omega),zI (x:=(i:Int) - (j:Int)) (by omega) (by omega),show((m:Int) - (i:Int))=((m-i:Nat):Int) by omega];refine zB ((zE5 e (m-i) m j (by omega) (by omega) (by omega)).mono (fun y p=>zA (e2l ⟨⟨p.1.trans c,i-j,j,?_,rfl,by omega,q,by omega,u,fun k=>?_⟩,?_⟩)))
    .simp only;omega
    .rw[<-l k,<-qDK (lo:=m-i) (m:=m) (hi:=m+j) (xs:=e) (zs:=y.1) (by omega) (by omega) (by omega) (fun k=>by grind) k,show m- (i-j)=m-i+(m+j-m) by omega]
    grind
   .have d:¬(i:Int)>(j:Int):=d;refine zF (fun _=>?_) (fun h=>absurd h (by simp_all));dsimp only;rw[zI (x:=(m:Int) - (i:Int)) (by omega) (by omega),zI (x:=(m:Int)+(j:Int)) (by omega) (by omega),zI (x:=(m:Int)+(j:Int) - (i:Int)) (by omega) (by omega),zI (x:=(j:Int) - (i:Int)) (by omega) (by omega),show((m:Int) - (i:Int))=((m-i:Nat):Int) by omega,show((m:Int)+(j:Int) - (i:Int))=((m+j-i:Nat):Int) by omega];refine zB ((zE5 e (m-i) (m+j-i) i (by omega) (by omega) (by omega)).mono (fun y p=>zA (e2l ⟨⟨p.1.trans c,i,j-i,rfl,?_,g,by omega,t,by omega,fun k=>?_⟩,?_⟩)))
    .simp only;omega
    .rw[<-l k,<-qB2 (lo:=m-i) (m:=m) (hi:=m+j) (xs:=e) (zs:=y.1) (by omega) (by omega) (by omega) (fun k=>by grind) k,show m+(j-i)=m+j- (m- (m-i)) by omega]
    grind
  all_goals grind
 .rintro⟨e,s⟩ ⟨c,i,f,g,D,E,l⟩;simp only at f c l;subst f;refine zF (fun _=>?_) (fun h=>absurd h (by simp_all));dsimp only;rw[zI (x:=(m:Int) - (i:Int)) (by omega) (by omega),show((m:Int) - (i:Int))=((m-i:Nat):Int) by omega];refine zB ((zE5 e (m-i) m i (by omega) (by omega) (by omega)).mono (fun y p=>?_));refine zF (fun _=>zA ⟨p.1.trans c,fun k=>?_⟩) (fun h=>absurd h (by grind))
  grind[qDL]
end
section
variable {α κ:Type}{lt:α->α->Prop}{key:α->κ}
structure zQG(lt:α->α->Prop)(key:α->κ):Prop where
 ord:Ord lt
 ne:∀x y,lt x y->key x≠key y
open Classical in
noncomputable def zPx(key:α->κ)(p:κ)(xs:List α):List α:=xs.filter (fun x=>decide (key x=p))
def zJv(key:α->κ)(xs a:List α):Prop:= ∀p,zPx key p xs=zPx key p a
theorem zJv.refl(xs:List α):zJv key xs xs:=fun _=>rfl
theorem zJv.trans{xs ys zs:List α}(a:zJv key xs ys)(c:zJv key ys zs):zJv key xs zs:=fun p=>(a p).trans (c p)
theorem zYe(p:κ)(xs a:List α):zPx key p (xs++a)=zPx key p xs++zPx key p a:=dK ..
theorem zYd{p:κ}{xs:List α}(h:∀x,x∈xs->key x≠p):zPx key p xs=[]:=by
 grind[List.filter_eq_nil_iff,zPx]
theorem qBZ(a:zQG lt key){P U V S:List α}(h:∀x y,x∈U->y∈V->lt y x):zJv key (P++U++V++S) (P++V++U++S):=by
 intro p;simp only[zYe];congr 1;rw[cn,cn];congr 1;by_cases c:∃x,x∈U/\key x=p
 .obtain⟨x,d,rfl⟩:=c;rw[zYd (xs:=V) (fun y e=>a.ne _ _ (h x y d e))];simp
 grind[zYd]
structure zAW(key:α->κ)(a b:Nat)(xs ys:List α):Prop where
 len:ys.length=xs.length
 out:∀k,k<a\/b<=k->ys[k]?=xs[k]?
 ins:∀q y,a<=q->q<b->ys[q]?=Sa y->∃q',a<=q'/\q'<b/\xs[q']?=Sa y
 same:zJv key xs ys
theorem zAW.refl(a b:Nat)(xs:List α):zAW key a b xs xs:=⟨rfl,fun _ _=>rfl,fun q y c d e=>⟨q,c,d,e⟩,zJv.refl xs⟩
theorem zAW.trans{a b:Nat}{xs ys zs:List α}(c:zAW key a b xs ys)(d:zAW key a b ys zs):zAW key a b xs zs:=by refine⟨d.len.trans c.len,fun k g=>(d.out k g).trans (c.out k g),?_,c.same.trans d.same⟩;intro q y e f hy;obtain⟨h,i,j,l⟩:=d.ins q y e f hy;exact c.ins h y i j l
variable {g l:List α}{i j:Nat}
theorem zAW.mono{a' e:Nat}(h:zAW key i j g l)(ha:a'<=i)(hb:j<=e):zAW key a' e g l:=by
 refine⟨h.len,fun k f=>h.out k (by omega),?_,h.same⟩;intro q y c d hy;by_cases hq:i<=q/\q<j
 .obtain⟨xs,a,b,ys⟩:=h.ins q y hq.1 hq.2 hy
  grind
 .exact⟨q,c,d,by rw[<-h.out q (by omega)];exact hy⟩
def uV(lt:α->α->Prop)(lo hi:Nat)(xs:List α):Prop:= ∀p q x y,lo<=p->p<q->q<hi->xs[p]?=Sa x->xs[q]?=Sa y->¬lt y x
theorem uV.out{lo hi a b:Nat}{xs ys:List α}(h:uV lt lo hi xs)(c:zAW key a b xs ys)(hd:hi<=a\/b<=lo):uV lt lo hi ys:=by intro p q x y d e f hx hy;rw[c.out p (by omega)]at hx;rw[c.out q (by omega)]at hy;exact h p q x y d e f hx hy
theorem zMr{b:Nat}(xs:uV lt i j g)(h:uV lt j b g)(l:∀q r x y,i<=q->q<j->j<=r->r<b->g[q]?=Sa x->g[r]?=Sa y->¬lt y x):uV lt i b g:=by
 intro p q x y a d c e f;by_cases k:q<j
 .exact xs p q x y a d k e f
 .by_cases m:p<j
  .grind
  .exact h p q x y (by omega) d c e f
theorem qBY:uV lt i (i+1) g:=fun p q x y c d e _ _=>by omega
theorem uV.sub{a' c:Nat}(h:uV lt i j g)(ha:i<=a')(hb:c<=j):uV lt a' c g:=fun p q x y e d f hx hy=>h p q x y (by omega) d (by omega) hx hy
theorem zNK(f:zQG lt key){m:Nat}(C:i<=m)(D:m<=j)(E:j<=g.length)(xs:l.length=g.length)(h:∀k,l[k]?=zAF i m j g k)(hlt:∀q r x y,i<=q->q<m->m<=r->r<j->g[q]?=Sa x->g[r]?=Sa y->lt y x):zAW key i j g l:=by
 have c:g=g.take i++(g.drop i).take (m-i)++(g.drop m).take (j-m)++g.drop j:=by
  refine bQ (fun k=>?_);simp only[List.getElem?_append,aN,bT,bS,cB,cC]
  grind[zHx]
 have F:l=g.take i++(g.drop m).take (j-m)++(g.drop i).take (m-i)++g.drop j:=by
  refine bQ (fun k=>?_);rw[h];unfold zAF;simp only[List.getElem?_append,aN,bT,bS,cB,cC]
  repeat' split
  all_goals first
   |rfl
   |exact zHx (by omega)
   |(exfalso;omega)
 refine⟨xs,?_,?_,?_⟩
 .intro k zs;rw[h];unfold zAF;rw[if_neg (by omega),if_neg (by omega)]
 .intro q y n p a;rw[h]at a;unfold zAF at a;split at a
  .exact⟨q+(m-i),by omega,by omega,a⟩
  .split at a
   .exact⟨q- (j-m),by omega,by omega,a⟩
   omega
 .have G:=qBZ f (P:=g.take i) (U:=(g.drop i).take (m-i)) (V:=(g.drop m).take (j-m)) (S:=g.drop j) ?_
  .grind
  .intro x y t a;obtain⟨lo,d,u⟩:=aA t;obtain⟨hi,e,z⟩:=aA a
   have A:g[i+lo]?=Sa x:=by
    grind
   have B:g[m+hi]?=Sa y:=by
    grind
   simp at d e;exact hlt (i+lo) (m+hi) x y (by omega) (by omega) (by omega) (by omega) A B
theorem qFU(e:i<=j)(a:j+1<g.length)(zs:l.length=g.length)(h:∀k,l[k]?=zAF i (i+1) (j+1) g k){x y:α}(f:l[j]?=Sa x)(xs:l[j+1]?=Sa y):
  ∀k,((l.set j y).set (j+1) x)[k]?=zAF i (i+1) (j+2) g k:=by
 intro k;have c:=h j;have d:=h (j+1);unfold zAF at c d;rw[f,if_neg (by omega),if_pos (by omega)]at c;rw[xs,if_neg (by omega),if_neg (by omega)]at d;unfold zAF;by_cases m:k=j+1
 .grind
 .rw[aQ (by omega)];by_cases n:k=j
  .grind
  grind[List.getElem?_set_ne,zHx,zAF]
theorem zUv{m k:Nat}(d:0<k)(e:k<=m)(i:m<g.length)(zs:l.length=g.length)(h:∀j,l[j]?=zAF k m (m+1) g j){x y:α}(f:l[k]?=Sa x)(xs:l[k-1]?=Sa y):
  ∀j,((l.set k y).set (k-1) x)[j]?=zAF (k-1) m (m+1) g j:=by
 intro j;have a:=h k;have c:=h (k-1);unfold zAF at a c;rw[f,if_pos (by omega)]at a;rw[xs,if_neg (by omega),if_neg (by omega)]at c;unfold zAF;by_cases n:j=k-1
 .grind
 .rw[aQ (by omega)];by_cases p:j=k
  .grind
  grind[List.getElem?_set_ne,zHx,zAF]
theorem qDM(j:Nat):zAF i (i+1) (i+1) g j=g[j]? :=by
 grind[zHx,zAF]
theorem zXx(j:Nat):zAF i i (i+1) g j=g[j]? :=by
 grind[zHx,zAF]
end
theorem zVW(i j:Nat)(h:i+j<0x4000000000000000):Aa .i64 (Ag (Aa .u64 (Aa .i64 ((i:Int)+(j:Int)))) ((2:Int)^min (Ac (1:Int)) (Ae .u64)))=(((i+j) / 2:Nat):Int):=by
 grind[zI,zNj,Int.fdiv_eq_ediv_of_nonneg,min,Ae]
theorem qAX{σ ρ:Type}{m:Option (σ ⊕ ρ)}{K:σ->Option ρ}{Q:ρ->Prop}(P:σ->Prop)(h:Wp m (vB P Q))(c:∀s,P s->Wp (K s) Q):Wp (wB m K) Q:=by
 refine jU (h.mono ?_);intro o a
 cases o with
 |inl s=>exact c s a
 |inr r=>exact a
theorem zL6{β:Type}{z:β}{i0 j0:Nat}{P:Nat->Prop}{T:Int×Int×β->Option ((Int×Int×β) ⊕ (Int×β))}(a:i0<=j0)
  (step:∀i j:Nat,i0<=i->i<j->j<=j0->Wp (T ((i:Int),(j:Int),z)) (fun o=>(o=Ah ((((i+j) / 2+1:Nat):Int),(j:Int),z)/\P ((i+j) / 2))\/(o=Ah ((i:Int),(((i+j) / 2:Nat):Int),z)/\¬P ((i+j) / 2)))):
  Wp (zS (fun s:Int×Int×β=>bif decide (s.1<s.2.1)then T s else Sa (Ak (s.1,s.2.2))) ((i0:Int),(j0:Int),z)) (fun s=>s.2=z/\∃i:Nat,s.1=(i:Int)/\i0<=i/\i<=j0/\(i0<i->P (i-1))/\(i<j0->¬P i)):=by
 refine uA (fun s:Int×Int×β=>s.2.2=z/\∃i j:Nat,s.1=(i:Int)/\s.2.1=(j:Int)/\i0<=i/\i<=j/\j<=j0/\(i0<i->P (i-1))/\(j<j0->¬P j)) (fun s=>(s.2.1-s.1).toNat)
  ⟨rfl,i0,j0,rfl,rfl,aj _,a,aj _,fun h=>by omega,fun h=>by omega⟩ ?_
 rintro⟨n,p,y⟩ ⟨d,i,j,e,f,c,q,g,k,m⟩;simp only at e f d;subst e f d;refine zO (fun h=>?_) (fun h=>zA (e2r ⟨rfl,i,rfl,c,by omega,k,?_⟩))
 .have h:(i:Int)< (j:Int):=h;refine(step i j c (by omega) g).mono ?_;rintro o (⟨rfl,l⟩|⟨rfl,l⟩)
  .refine⟨⟨rfl,(i+j) / 2+1,j,rfl,rfl,by omega,by omega,g,fun _=>by grind,m⟩,?_⟩;simp only;omega
  .refine⟨⟨rfl,i,(i+j) / 2,rfl,rfl,c,by omega,by omega,k,fun _=>l⟩,?_⟩;simp only;omega
 grind
section
variable {α κ:Type}{cmp:α×α×Unit->Option Int}{lt:α->α->Prop}{key:α->κ}
theorem xH{xs:List α}{i:Nat}(h:i<xs.length):xs[i]?=Sa xs[i]:=by simp[h]
theorem zHQ(hk:zQG lt key)(S:∀x y,Wp (cmp (x,y,())) (fun c=>c<0↔lt x y)):∀(n:Nat) (xs:List α) (a m b:Nat),a<m->m<b->b<=xs.length->xs.length<1099511627776->b-a<=n->uV lt a m xs->uV lt m b xs->
  Wp (zCF cmp n xs ((a:Int),(m:Int),(b:Int),(),())) (fun r=>zAW key a b xs r.1/\uV lt a b r.1):=by
 have ho:=hk.ord;have a2:∀x y z,¬lt y x->lt y z->lt x z:=fun x y z t g=>bF (fun D=>ho.tr z x y D t g);have cc:∀x y z,lt x y->¬lt z y->lt x z:=fun x y z t g=>bF (fun D=>ho.tr y z x g D t);intro n
 induction n with
 |zero=>omega
 |succ n ih=>
  intro xs a m b c4 c5 hb hl hn H I;have av :=xH (xs:=xs) (i:=a) (by omega);have ax :=xH (xs:=xs) (i:=m) (by omega);simp only[zCF];unfold zJT;dsimp only;rw[zI (x:=(m:Int) - (a:Int)) (by omega) (by omega),zI (x:=(b:Int) - (m:Int)) (by omega) (by omega)];refine qAX (fun s:List α=>s=xs/\m≠a+1) ?_ ?_
  .refine zF (fun h=>?_) (fun h=>zA (e2l ⟨rfl,?_⟩))
   .have h:(m:Int) - (a:Int)=1:=by simpa using h
    have a6:m=a+1:=by omega
    subst a6;refine zB ((zL6 (z:=xs) (i0:=a+1) (j0:=b) (P:=fun q=>∀y,xs[q]?=Sa y->lt y xs[a]) (by omega) ?_).mono ?_)
    .intro i j hi a9 hj;have W:=xH (xs:=xs) (i:=(i+j) / 2) (by omega);dsimp only;rw[zVW i j (by omega)];simp only[zM W,aF,yJ W,zM av,yJ av,af];refine zB ((S _ _).mono (fun c hc=>zO (fun t=>zA (.inl ⟨?_,fun y d=>?_⟩)) (fun t=>zA (.inr ⟨rfl,fun g=>t (hc.2 (g _ W))⟩))));all_goals grind[zI]
    .rintro⟨s,B⟩ ⟨N,i,hi,Y,bb,hP,hN⟩;simp only at N hi;subst N hi
     have Z:∀q y,a+1<=q->q<i->B[q]?=Sa y->lt y B[a]:=by
      intro q y ab ad d;have hp:=hP (by omega) _ (xH (by omega));by_cases e:q=i-1
      .grind
      .exact a2 _ _ _ (I q (i-1) y _ ab (by omega) (by omega) d (xH (by omega))) hp
     have ag:∀q y,i<=q->q<b->B[q]?=Sa y->¬lt y B[a]:=by
      intro q y ab ad d hlt;have a3:=hN (by omega);apply a3;intro w L;by_cases e:q=i
      .grind
      .exact a2 _ _ _ (I i q w y Y (by omega) ad L d) hlt
     dsimp only;rw[zI (x:=(i:Int) -1) (by omega) (by omega)];refine uA (fun s:Int×List α=>∃k:Nat,s.1=(k:Int)/\a<=k/\k+1<=i/\s.2.length=B.length/\∀j,s.2[j]?=zAF a (a+1) (k+1) B j) (fun s=>((i:Int) -s.1).toNat) ⟨a,rfl,aj _,Y,rfl,fun j=>(qDM j).symm⟩ ?_;rintro⟨s,G⟩ ⟨k,al,cf,ch,J,L⟩;simp only at al J L;subst al;refine zO (fun hlt=>?_) (fun an=>?_)
     .have hlt:(k:Int)< (i:Int) -1:=hlt;have l:=xH (xs:=G) (i:=k) (by omega);have d:=xH (xs:=G) (i:=k+1) (by omega);have ao:(G.set k (G[k+1]'(by omega)))[k+1]?=Sa (G[k+1]'(by omega)):=by grind
      dsimp only;rw[zI (x:=(k:Int)+1) (by omega) (by omega),show((k:Int)+1)=((k+1:Nat):Int) by omega];simp only[zM l,zM d,aF,yJ l,yJ d,af,zM ao,yJ ao];refine zA (e2l ⟨⟨k+1,rfl,by omega,by omega,by grind,qFU cf (by omega) J L l d⟩,?_⟩);simp only;omega
     .have an:¬(k:Int)< (i:Int) -1:=an;have ap:k+1=i:=by omega
      subst ap;refine zJN (zJN (zF (fun _=>zA (e2r (e2r ?_))) (fun h=>absurd h (by simp_all))))
      have ay:zAW key a (k+1) B G:=zNK hk (m:=a+1) (by omega) (by omega) (by omega) J L (fun q r x y t g D Q l d=>by
       grind)
      refine⟨ay.mono (aj _) (by omega),?_⟩
      have vC:∀q y,a<=q->q<b->G[q]?=Sa y->(q<k/\B[q+1]?=Sa y)\/(q=k/\y=B[a])\/(k<q/\B[q]?=Sa y):=by
       intro q y t g d;rw[L]at d;unfold zAF at d;split at d
       .simp_all
       .split at d
        .refine .inr (.inl ⟨by omega,?_⟩);rw[show q- (k+1- (a+1))=a by omega,av]at d;cases d;rfl
        grind
      intro p q x y t g D l d;rcases vC p x t (by omega) l with⟨K,A⟩|⟨K,rfl⟩|⟨K,A⟩
      .rcases vC q y (by omega) D d with⟨E,f⟩|⟨E,rfl⟩|⟨E,f⟩
       .exact I (p+1) (q+1) x y (by omega) (by omega) (by omega) A f
       .exact ho.asym _ _ (Z (p+1) x (by omega) (by omega) A)
       .exact I (p+1) q x y (by omega) (by omega) D A f
      .rcases vC q y (by omega) D d with⟨E,f⟩|⟨E,rfl⟩|⟨E,f⟩
       all_goals grind
      .rcases vC q y (by omega) D d with⟨E,f⟩|⟨E,rfl⟩|⟨E,f⟩
       .omega
       .omega
       .exact I p q x y (by omega) g D A f
   grind
  rintro s ⟨rfl,a6⟩;refine qAX (fun s':List α=>s'=s/\b≠m+1) ?_ ?_
  .refine zF (fun h=>?_) (fun h=>zA (e2l ⟨rfl,?_⟩))
   .have h:(b:Int) - (m:Int)=1:=by simpa using h
    have be:b=m+1:=by omega
    subst be;refine zB ((zL6 (z:=s) (i0:=a) (j0:=m) (P:=fun q=>∀y,s[q]?=Sa y->¬lt s[m] y) (by omega) ?_).mono ?_)
    .intro i j hi a9 hj;have W:=xH (xs:=s) (i:=(i+j) / 2) (by omega);dsimp only;rw[zVW i j (by omega)];simp only[zM W,aF,yJ W,zM ax,yJ ax,af];refine zB ((S _ _).mono (fun c hc=>zAh (fun t=>zA (.inl ⟨?_,fun y d=>?_⟩)) (fun t=>zA (.inr ⟨rfl,fun g=>g _ W (hc.1 t)⟩))));all_goals grind[zI]
    .rintro⟨s0,B⟩ ⟨N,i,hi,Y,bb,hP,hN⟩;simp only at N hi;subst N hi
     have Z:∀q y,a<=q->q<i->B[q]?=Sa y->¬lt B[m] y:=by
      intro q y ab ad d;have hp:=hP (by omega) _ (xH (by omega));by_cases e:q=i-1
      .grind
      .exact ho.tr _ _ _ (H q (i-1) y _ ab (by omega) (by omega) d (xH (by omega))) hp
     have ag:∀q y,i<=q->q<m->B[q]?=Sa y->lt B[m] y:=by
      intro q y ab ad d;refine bF (fun bk=>?_);have a3:=hN (by omega);apply a3;intro w L;by_cases e:q=i
      .grind
      .exact ho.tr _ _ _ (H i q w y Y (by omega) ad L d) bk
     dsimp only;refine uA (fun s:Int×List α=>∃k:Nat,s.1=(k:Int)/\i<=k/\k<=m/\s.2.length=B.length/\∀j,s.2[j]?=zAF k m (m+1) B j) (fun s=>s.1.toNat) ⟨m,rfl,bb,aj _,rfl,fun j=>(zXx j).symm⟩ ?_;rintro⟨s0,G⟩ ⟨k,al,ch,ck,J,L⟩;simp only at al J L;subst al;refine zO (fun bn=>?_) (fun an=>?_)
     .have bn:(k:Int)>(i:Int):=bn;have l:=xH (xs:=G) (i:=k) (by omega);have d:=xH (xs:=G) (i:=k-1) (by omega);have ao:(G.set k (G[k-1]'(by omega)))[k-1]?=Sa (G[k-1]'(by omega)):=by grind[List.getElem?_set_ne]
      dsimp only;rw[zI (x:=(k:Int) -1) (by omega) (by omega),show((k:Int) -1)=((k-1:Nat):Int) by omega];simp only[zM l,zM d,aF,yJ l,yJ d,af,zM ao,yJ ao];refine zA (e2l ⟨⟨k-1,rfl,by omega,by omega,by grind,zUv (by omega) ck (by omega) J L l d⟩,?_⟩);simp only;omega
     .have an:¬(k:Int)>(i:Int):=an;have ap:k=i:=by omega
      subst ap;refine zJN (zJN (zF (fun _=>zA (e2r (e2r ?_))) (fun h=>absurd h (by simp_all))))
      have ay:zAW key k (m+1) B G:=zNK hk (m:=m) (by omega) (by omega) (by omega) J L (fun q r x y t g D Q l d=>by
       grind)
      refine⟨ay.mono Y (aj _),?_⟩
      have vC:∀q y,a<=q->q<m+1->G[q]?=Sa y->(q<k/\B[q]?=Sa y)\/(q=k/\y=B[m])\/(k<q/\B[q-1]?=Sa y):=by
       intro q y t g d;rw[L]at d;unfold zAF at d;split at d
       .refine .inr (.inl ⟨by omega,?_⟩);rw[show q+(m-k)=m by omega,ax]at d;cases d;rfl
       .split at d
        .exact .inr (.inr ⟨by omega,by simp_all⟩)
        grind
      intro p q x y t g D l d;rcases vC p x t (by omega) l with⟨K,A⟩|⟨K,rfl⟩|⟨K,A⟩
      .rcases vC q y (by omega) D d with⟨E,f⟩|⟨E,rfl⟩|⟨E,f⟩
       .exact H p q x y t g (by omega) A f
       .grind
       .exact H p (q-1) x y t (by omega) (by omega) A f
      .rcases vC q y (by omega) D d with⟨E,f⟩|⟨E,rfl⟩|⟨E,f⟩
       .omega
       .omega
       .exact ho.asym _ _ (ag (q-1) y (by omega) (by omega) f)
      .rcases vC q y (by omega) D d with⟨E,f⟩|⟨E,rfl⟩|⟨E,f⟩
       .omega
       .omega
       .exact H (p-1) (q-1) x y (by omega) (by omega) (by omega) A f
   grind
  rintro s' ⟨rfl,be⟩;clear av ax;rw[zVW a b (by omega)];have cl:2*((a+b) / 2)<=a+b:=by omega
  have cp:a+b<2*((a+b) / 2)+2:=by omega
  generalize (a+b) / 2=M at cl cp;rw[zI (x:=(M:Int)+(m:Int)) (by omega) (by omega),zI (x:=(M:Int)+(m:Int) -1) (by omega) (by omega)];refine zB ((show Wp _ (fun s:Int×Int×List α=>∃st r:Nat,s=((st:Int),(r:Int),s')/\((M<m/\st+b=M+m/\r=M)\/(m<=M/\st=a/\r=m)))from ?_).mono ?_)
  .refine zO (fun h=>zA ⟨M+m-b,M,?_,.inl ⟨?_,?_,rfl⟩⟩) (fun h=>zA ⟨a,m,rfl,.inr ⟨?_,rfl,rfl⟩⟩);all_goals grind[zI]
  rintro _ ⟨st,r,rfl,ay⟩;refine zB ((zL6 (z:=s') (i0:=st) (j0:=r) (P:=fun c=>∀x y,s'[M+m-1-c]?=Sa x->s'[c]?=Sa y->¬lt x y) (by omega) ?_).mono ?_)
  .intro i j hi a9 hj;have W:=xH (xs:=s') (i:=(i+j) / 2) (by omega);have a4:=xH (xs:=s') (i:=M+m-1- (i+j) / 2) (by omega);dsimp only;rw[zVW i j (by omega),zI (x:=(M:Int)+(m:Int) -1- (((i+j) / 2:Nat):Int)) (by omega) (by omega),show((M:Int)+(m:Int) -1- (((i+j) / 2:Nat):Int))=((M+m-1- (i+j) / 2:Nat):Int) by omega];simp only[zM W,zM a4,aF,yJ W,yJ a4,af];refine zB ((S _ _).mono (fun c hc=>zAh (fun t=>zA (.inl ⟨?_,fun x y l d=>?_⟩)) (fun t=>zA (.inr ⟨rfl,fun g=>g _ _ a4 W (hc.1 t)⟩))));all_goals grind[zI]
  rintro⟨s0,C⟩ ⟨bo,start,bs,c2,c3,hP,hN⟩;simp only at bo bs;subst bo bs;dsimp only;rw[zI (x:=(M:Int)+(m:Int) - (start:Int)) (by omega) (by omega),show((M:Int)+(m:Int) - (start:Int))=((M+m-start:Nat):Int) by omega];have b0:m<=M+m-start:=by omega
  have b1:M+m-start<=b:=by omega
  have cq:start+(M+m-start-m)=M:=by omega
  have a1:a<=start:=by omega
  have b2:start<=m:=by omega
  have a5:∀q F x y,start<=q->q<m->m<=F->F<M+m-start->C[q]?=Sa x->C[F]?=Sa y->lt y x:=by
   intro q F x y t g D Q l d;have hlt:start<r:=by omega
   refine bF (fun cr=>hN hlt ?_);intro u w hu L b3;apply cr
   have k1:lt y w:=by
    by_cases e:F=M+m-1-start
    .grind
    .exact a2 _ _ _ (I F (M+m-1-start) y u D (by omega) (by omega) d hu) b3
   by_cases e:q=start
   .grind
   .exact cc _ _ _ k1 (H start q w x a1 (by omega) (by omega) L l)
  have cs:∀q F x y,a<=q->q<start->M+m-start<=F->F<b->C[q]?=Sa x->C[F]?=Sa y->¬lt y x:=by
   intro q F x y t g D Q l d;have hlt:st<start:=by omega
   have K:=xH (xs:=C) (i:=start-1) (by omega);have E:=xH (xs:=C) (i:=M+m-1- (start-1)) (by omega);have hp:=hP hlt _ _ E K
   have k1:¬lt (C[M+m-1- (start-1)]'(by omega)) x:=by
    by_cases e:q=start-1
    .grind
    .exact ho.tr _ _ _ (H q (start-1) x _ t (by omega) (by omega) l K) hp
   by_cases e:F=M+m-1- (start-1)
   .grind
   .exact ho.tr _ _ _ k1 (I (M+m-1- (start-1)) F _ y (by omega) (by omega) Q E d)
  generalize he:M+m-start=e at b0 b1 cq cs a5;refine zB ((show Wp _ (fun B:List α=>B.length=C.length/\∀k,B[k]?=zAF start m e C k)from ?_).mono ?_)
  .refine zB ((show Wp _ (fun c:Bool×List α=>c.2=C/\(c.1=Sb->start<m/\m<e)/\(c.1=Sd->start=m\/m=e))from ?_).mono ?_)
   .refine zO (fun h=>zA ⟨rfl,(fun g=>?_),fun g=>?_⟩) (fun h=>zA ⟨rfl,(fun g=>by cases g),fun _=>?_⟩);all_goals grind
   .rintro⟨c,B⟩ ⟨N,ht,hf⟩;simp only at N ht hf;subst N;refine zF (fun h=>?_) (fun h=>zA ⟨rfl,fun k=>?_⟩)
    .obtain⟨K,E⟩:=ht h;refine zF (fun _=>zB ((zVA B start m e K E (by omega) (by omega)).mono (fun y d=>zA d))) (fun h=>absurd h (by rw[b9];decide))
    .have:=hf h;unfold zAF
     repeat' split
     all_goals first
      |rfl
      |exact zHx (by omega)
      |(exfalso;omega)
  intro B cv;obtain⟨b4,N⟩:=cv;have zBZ:=zNK hk b2 b0 (by omega) b4 N a5
  have vC:∀q y,a<=q->q<b->B[q]?=Sa y->(q<start/\C[q]?=Sa y)\/(start<=q/\q<M/\C[q+(m-start)]?=Sa y)\/(M<=q/\q<e/\C[q- (e-m)]?=Sa y)\/(e<=q/\C[q]?=Sa y):=by
   intro q y t g d;rw[N]at d;unfold zAF at d;split at d
   .grind
   .split at d;all_goals grind
  have r1:uV lt a start B:=by intro p q x y t g D l d;rw[zBZ.out p (by omega)]at l;rw[zBZ.out q (by omega)]at d;exact H p q x y t g (by omega) l d
  have r2:uV lt start M B:=by intro p q x y t g D l d;rw[N]at l d;unfold zAF at l d;rw[if_pos (by omega)]at l d;exact I _ _ x y (by omega) (by omega) (by omega) l d
  have r3:uV lt M e B:=by intro p q x y t g D l d;rw[N]at l d;unfold zAF at l d;rw[if_neg (by omega),if_pos (by omega)]at l d;exact H _ _ x y (by omega) (by omega) (by omega) l d
  have r4:uV lt e b B:=by intro p q x y t g D l d;rw[zBZ.out p (by omega)]at l;rw[zBZ.out q (by omega)]at d;exact I p q x y (by omega) g D l d
  have rc:∀q F x y,a<=q->q<M->M<=F->F<b->B[q]?=Sa x->B[F]?=Sa y->¬lt y x:=by
   intro q F x y t g D Q l d;rcases vC q x t (by omega) l with⟨K,A⟩|⟨K,E,A⟩|⟨K,E,A⟩|⟨K,A⟩
   .rcases vC F y (by omega) Q d with⟨g3,f⟩|⟨g3,g4,f⟩|⟨g3,g4,f⟩|⟨g3,f⟩
    .omega
    .omega
    .exact H q _ x y t (by omega) (by omega) A f
    grind
   .rcases vC F y (by omega) Q d with⟨g3,f⟩|⟨g3,g4,f⟩|⟨g3,g4,f⟩|⟨g3,f⟩
    .omega
    .omega
    .exact ho.asym _ _ (a5 _ _ y x (by omega) (by omega) (by omega) (by omega) f A)
    .exact I _ F x y (by omega) (by omega) Q A f
   all_goals omega
  refine zB ((show Wp _ (fun G:List α=>zAW key a M B G/\uV lt a M G)from ?_).mono ?_)
  .refine zB ((show Wp _ (fun c:Bool×List α=>c.2=B/\(c.1=Sb->a<start/\start<M)/\(c.1=Sd->a=start\/start=M))from ?_).mono ?_)
   .refine zO (fun h=>zA ⟨rfl,(fun g=>?_),fun g=>?_⟩) (fun h=>zA ⟨rfl,(fun g=>by cases g),fun _=>?_⟩);all_goals grind
   .rintro⟨c,vs⟩ ⟨hv,ht,hf⟩;simp only at hv ht hf;subst hv;refine zF (fun h=>?_) (fun h=>zA ⟨zAW.refl _ _ _,?_⟩)
    .obtain⟨K,E⟩:=ht h;exact zF (fun _=>zB ((ih vs a start M K E (by omega) (by omega) (by omega) r1 r2).mono (fun y d=>zA d))) (fun h=>absurd h (by rw[b9];decide))
    .exact zMr r1 r2 (fun q F x y t g D Q l d=>by have:=hf h;omega)
  intro G cx;obtain⟨O,c0⟩:=cx;have J:G.length=C.length:=O.len.trans b4
  have b5:∀us,zAW key M b G us->uV lt M b us->zAW key a b C us/\uV lt a b us:=by
   intro us a0 c1;refine⟨((zBZ.mono a1 b1).trans (O.mono (aj _) (by omega))).trans (a0.mono (by omega) (aj _)),zMr (c0.out a0 (.inl (aj _))) c1 ?_⟩;intro q F x y t g D Q l d;rw[a0.out q (by omega)]at l;obtain⟨q',k1,k2,A⟩:=O.ins q x t g l;obtain⟨r2,k3,k4,f⟩:=a0.ins F y D Q d;rw[O.out r2 (by omega)]at f
   grind
  have q3:uV lt M e G:=r3.out O (.inr (aj _));have q4:uV lt e b G:=r4.out O (.inr (by omega));refine zB ((show Wp _ (fun c:Bool×List α=>c.2=G/\(c.1=Sb->M<e/\e<b)/\(c.1=Sd->M=e\/e=b))from ?_).mono ?_)
  .refine zO (fun h=>zA ⟨rfl,(fun g=>?_),fun g=>?_⟩) (fun h=>zA ⟨rfl,(fun g=>by cases g),fun _=>?_⟩);all_goals grind
  .rintro⟨c,vs⟩ ⟨hv,ht,hf⟩;simp only at hv ht hf;subst hv;refine zF (fun h=>?_) (fun h=>?_)
   .obtain⟨K,E⟩:=ht h;refine zF (fun _=>zB ((ih vs M e b K E (by omega) (by omega) (by omega) q3 q4).mono (fun y d=>?_))) (fun h=>absurd h (by rw[b9];decide));exact zF (fun _=>zA (b5 _ d.1 d.2)) (fun h=>absurd h (by rw[zWA (d.1.len.trans J)];decide))
   .refine zF (fun _=>zA (b5 _ (zAW.refl _ _ _) ?_)) (fun h=>absurd h (by grind[zWA]));exact zMr q3 q4 (fun q F x y t g D Q l d=>by have:=hf h;omega)
end
section
variable {α κ:Type}{cmp:α×α×Unit->Option Int}{lt:α->α->Prop}{key:α->κ}
def zOP(lt:α->α->Prop)(lo i j:Nat)(xs:List α):Prop:= ∀p q x y,lo<=p->p<q->q<=i->q≠j->xs[p]?=Sa x->xs[q]?=Sa y->¬lt y x
variable {i:List α}{g:Nat}
theorem zXh{xs:Nat}(h:uV lt g xs i):zOP lt g xs xs i:=fun p q x y a c f lo d e=>h p q x y a c (by omega) d e
theorem zZt(l:Ord lt){xs j:Nat}(h:zOP lt g xs j i)(n:j<=xs)(m:g<=j)(d:j=g\/∀x y,i[j]?=Sa x->i[j-1]?=Sa y->¬lt x y):uV lt g (xs+1) i:=by
 intro p q x y a e r lo f;by_cases c:q=j
 .subst c;rcases d with d|d
  .omega
  .by_cases t:p=q-1
   .grind
   .have u:=(aa.1 f).1;have k:i[q-1]?=Sa (i[q-1]'(by omega)):=by simp
    exact l.tr _ _ _ (h p (q-1) x _ a (by omega) (by omega) (by omega) lo k) (d y _ f k)
 .exact h p q x y a e (by omega) c lo f
theorem zZs(r:Ord lt){xs j:Nat}(h:zOP lt g xs j i)(F:g<j)(t:j<=xs)(hi:xs<i.length)(hlt:lt (i[j]'(by omega)) (i[j-1]'(by omega))):
  zOP lt g xs (j-1) ((i.set j (i[j-1]'(by omega))).set (j-1) (i[j]'(by omega))):=by
 have u:j<i.length:=by omega
 have A:i[j]?=Sa i[j]:=by simp
 have n:i[j-1]?=Sa (i[j-1]'(by omega)):=by simp
 have a:∀m z,((i.set j (i[j-1]'(by omega))).set (j-1) (i[j]'(by omega)))[m]?=Sa z->(m=j-1/\z=i[j])\/(m=j/\z=i[j-1]'(by omega))\/(m≠j/\m≠j-1/\i[m]?=Sa z):=by
  grind
 intro p q x y e f k B d C;rcases a q y C with⟨lo,_⟩|⟨rfl,rfl⟩|⟨l,G,c⟩
 .omega
 .rcases a p x d with⟨rfl,rfl⟩|⟨lo,_⟩|⟨D,E,d⟩
  .exact r.asym _ _ hlt
  .omega
  .exact h p (q-1) x _ e (by omega) (by omega) (by omega) d n
 .rcases a p x d with⟨rfl,rfl⟩|⟨rfl,rfl⟩|⟨D,E,d⟩
  .exact h j q _ y (by omega) (by omega) k l A c
  .exact h (p-1) q _ y (by omega) (by omega) k l n c
  .exact h p q x y e f k l d c
theorem qBS(c:zQG lt key){xs:List α}(d:0<g)(a:g<xs.length)(hlt:lt xs[g] (xs[g-1]'(by omega))):
  zAW key (g-1) (g+1) xs ((xs.set g (xs[g-1]'(by omega))).set (g-1) xs[g]):=by
 have e:=xH a;have f:=xH (xs:=xs) (i:=g-1) (by omega);refine zNK c (m:=g) (by omega) (by omega) (by omega) (by simp) (zUv (m:=g) (k:=g) d (aj _) a rfl (fun k=>(zXx k).symm) e f) ?_
 grind
theorem zFs(G:zQG lt key)(t:∀x y,Wp (cmp (x,y,())) (fun c=>c<0↔lt x y))(xs:List α)(a b:Nat)(N:a<=b)(S:b<=xs.length)(W:xs.length<1099511627776):
  Wp (zBu cmp xs ((a:Int),(b:Int),(),())) (fun r=>zAW key a b xs r.1/\uV lt a b r.1):=by
 have H:=G.ord;unfold zBu;dsimp only;rw[zI (by omega) (by omega)]
 refine uA (fun s:Int×List α=>zAW key a b xs s.2/\∃i:Nat,s.1=(i:Int)/\a+1<=i/\(i<=b\/i=a+1)/\uV lt a i s.2) (fun s=>((b:Int) -s.1).toNat)
  ⟨zAW.refl _ _ _,a+1,by simp only;omega,aj _,.inr rfl,qBY⟩ ?_
 rintro⟨s,E⟩ ⟨l,i,I,O,P,n⟩;simp only at I l n;subst I;have u:E.length=xs.length:=l.len;refine zO (fun hlt=>?_) (fun z=>?_)
 .have hlt:(i:Int)< (b:Int):=hlt;refine zB ((show Wp _ (fun g:List α=>zAW key a b E g/\uV lt a (i+1) g)from ?_).mono (fun g A=>zA (e2l ⟨⟨l.trans A.1,i+1,?_,by omega,.inl (by omega),A.2⟩,?_⟩)))
  .refine uA (fun s:Int×List α=>zAW key a b E s.2/\∃j:Nat,s.1=(j:Int)/\a<=j/\j<=i/\zOP lt a i j s.2) (fun s=>s.1.toNat) ⟨zAW.refl _ _ _,i,rfl,by omega,aj _,zXh n⟩ ?_;rintro⟨s,g⟩ ⟨f,j,J,F,B,p⟩;simp only at J f p;subst J;have Q:g.length=xs.length:=f.len.trans u;refine zB ((show Wp _ (fun c:Bool×List α=>c.2=g/\(c.1=Sb->a<j/\∀x y,g[j]?=Sa x->g[j-1]?=Sa y->lt x y)/\(c.1=Sd->j=a\/∀x y,g[j]?=Sa x->g[j-1]?=Sa y->¬lt x y))from ?_).mono ?_)
   .refine zO (fun k=>?_) (fun k=>zA ⟨rfl,(fun h=>by cases h),fun _=>.inl ?_⟩)
    .have k:(j:Int)>(a:Int):=k;have d:=xH (xs:=g) (i:=j) (by omega);have e:=xH (xs:=g) (i:=j-1) (by omega);dsimp only;rw[zI (by omega) (by omega),show((j:Int) -1)=((j-1:Nat):Int) by omega];simp[zM d,zM e,yJ d,yJ e];refine zB ((t _ _).mono (fun c Y=>zA ⟨rfl,(fun h=>⟨by omega,?_⟩),fun h=>.inr ?_⟩));all_goals grind
    omega
   .rintro⟨c,C⟩ ⟨K,L,M⟩;simp only at K L M;subst K;refine zF (fun q=>?_) (fun q=>zA (e2r ⟨f,zZt H p B F (M q)⟩));obtain⟨k,m⟩:=L q;have d:=xH (xs:=C) (i:=j) (by omega);have e:=xH (xs:=C) (i:=j-1) (by omega)
    have D:(C.set j (C[j-1]'(by omega)))[j-1]?=Sa (C[j-1]'(by omega)):=by
     grind
    dsimp only;rw[zI (by omega) (by omega),show((j:Int) -1)=((j-1:Nat):Int) by omega];simp[zM d,zM e,yJ d,yJ e,zM D,yJ D];refine zA (e2l ⟨⟨f.trans ((qBS G (by omega) (by omega) (m _ _ d e)).mono (by omega) (by omega)),j-1,rfl,by omega,by omega,zZs H p k B (by omega) (m _ _ d e)⟩,?_⟩);simp only;omega
  all_goals grind[zI]
 .have z:¬(i:Int)< (b:Int):=z;exact zJN (zF (fun _=>zA (e2r ⟨l,n.sub (aj _) (by omega)⟩)) (fun h=>absurd h (by simp_all)))
def zWK(lt:α->α->Prop)(a n:Nat)(xs:List α):Prop:= ∀j,uV lt (j*a) (min ((j+1)*a) n) xs
theorem zVz(S:zQG lt key)(i:∀x y,Wp (cmp (x,y,())) (fun c=>c<0↔lt x y))(xs:List α)(hl:xs.length<=1048576):
  Wp (zNw cmp xs ((xs.length:Int),(),())) (fun r=>zAW key 0 xs.length xs r.1/\uV lt 0 xs.length r.1):=by
 unfold zNw;dsimp only;generalize hn:xs.length=n at hl;refine zB ((show Wp _ (fun s:List α×Int=>zAW key 0 n xs s.1/\∃t:Nat,s.2=((20*t:Nat):Int)/\20*t<=n/\n<20*t+20/\∀j,j<t->uV lt (j*20) ((j+1)*20) s.1)from ?_).mono ?_)
 .refine uA (fun s:Int×List α×Int=>zAW key 0 n xs s.2.1/\∃t:Nat,s.1=((20*t+20:Nat):Int)/\s.2.2=((20*t:Nat):Int)/\20*t<=n/\∀j,j<t->uV lt (j*20) ((j+1)*20) s.2.1) (fun s=>((n:Int)+20-s.1).toNat)
   ⟨zAW.refl _ _ _,0,rfl,rfl,aY _,fun j I=>by omega⟩ ?_
  rintro⟨sb,Z,sa⟩ ⟨g,t,u,d,G,k⟩;simp only at u d g k;subst u d;have ab:=g.len;refine zO (fun h=>?_) (fun h=>zA (e2r ⟨g,t,rfl,G,?_,k⟩))
  .have h:((20*t+20:Nat):Int)<=(n:Int):=h;refine zF (fun _=>?_) (fun h=>absurd h (by simp_all));refine zB ((zFs S i Z (20*t) (20*t+20) (by omega) (by omega) (by omega)).mono (fun y m=>zA (e2l ⟨⟨g.trans (m.1.mono (by omega) (by omega)),t+1,?_,?_,by omega,?_⟩,?_⟩)))
   .grind[zI]
   .simp only;omega
   .intro j I;by_cases e:j=t
    .grind
    .exact(k j (by omega)).out m.1 (.inl (by omega))
   grind[zI]
  omega
 rintro⟨Z,sa⟩ ⟨g,t,d,G,ag,k⟩;simp only at d g k;subst d;have ab:=g.len;refine zF (fun _=>?_) (fun h=>absurd h (by simp_all));refine zB ((zFs S i Z (20*t) n G (by omega) (by omega)).mono (fun y m=>?_))
 have hB:zWK lt 20 n y.1:=by
  intro j;by_cases e:j<t
  .rw[ci (by omega)];exact(k j e).out m.1 (.inl (by omega))
  .by_cases e2:j=t
   .grind
   .intro p q x y' h1 B h3;omega
 have K:zAW key 0 n xs y.1:=g.trans (m.1.mono (by omega) (aj _));refine uA (fun s:Int×List α=>zAW key 0 n xs s.2/\∃a:Nat,s.1=(a:Int)/\20<=a/\a<=2097152/\zWK lt a n s.2) (fun s=>((n:Int) -s.1).toNat) ⟨K,20,rfl,aj _,by omega,hB⟩ ?_;rintro⟨ap,ws⟩ ⟨W,a,L,al,an,z⟩;simp only at L W z;subst L;have M:=W.len;refine zO (fun h=>?_) (fun h=>?_)
 .have h:(a:Int)< (n:Int):=h;dsimp only;rw[zI (x:=(2:Int)*(a:Int)) (by omega) (by omega)];refine zB ((show Wp _ (fun s:Int×List α=>zAW key 0 n ws s.2/\∃t:Nat,s.1=((t*(2*a):Nat):Int)/\t*(2*a)<=n/\n< (t+1)*(2*a)/\(∀j,j<t->uV lt (j*(2*a)) ((j+1)*(2*a)) s.2)/\∀j,2*t<=j->uV lt (j*a) (min ((j+1)*a) n) s.2)from ?_).mono ?_)
  .refine uA (fun s:Int×List α×Int=>zAW key 0 n ws s.2.1/\∃t:Nat,s.1=(((t+1)*(2*a):Nat):Int)/\s.2.2=((t*(2*a):Nat):Int)/\t*(2*a)<=n/\(∀j,j<t->uV lt (j*(2*a)) ((j+1)*(2*a)) s.2.1)/\∀j,2*t<=j->uV lt (j*a) (min ((j+1)*a) n) s.2.1) (fun s=>((n:Int)+2*(a:Int) -s.1).toNat)
    ⟨zAW.refl _ _ _,0,by simp only;omega,by simp,by omega,fun j I=>by omega,fun j _=>z j⟩ ?_
   rintro⟨sb,H,sa⟩ ⟨F,t,u,d,ao,l,f⟩;simp only at u d F l f;subst u d;have ad:H.length=n:=by rw[F.len,M,hn]
   have Y:(t+1)*(2*a)=t*(2*a)+2*a:=bB _ _;have eA:2*t*a=t*(2*a):=by grind
   have eB:(2*t+1)*a=t*(2*a)+a:=by grind
   have eC:(2*t+2)*a=t*(2*a)+2*a:=by grind
   generalize hA:t*(2*a)=A at*
   refine zO (fun B=>?_) (fun B=>zA (e2r ⟨F,t,by rw[hA],by omega,?_,l,f⟩))
   .have B:(((t+1)*(2*a):Nat):Int)<=(n:Int):=B;rw[Y]at B ⊢;refine zF (fun _=>?_) (fun h=>absurd h (by grind));dsimp only;rw[zI (x:=(A:Int)+(a:Int)) (by omega) (by omega),show((A:Int)+(a:Int))=((A+a:Nat):Int) by omega];have J:=f (2*t) (aj _);have N:=f (2*t+1) (by omega);rw[show 2*t+1+1=2*t+2 from rfl,eC,eB,ci (by omega)]at N;rw[eB,eA,ci (by omega)]at J;unfold zHP;refine zB ((zHQ S i 1048576 H A (A+a) (A+2*a) (by omega) (by omega) (by omega) (by omega) (by omega) J N).mono (fun y m=>zA (e2l ⟨⟨F.trans (m.1.mono (by omega) (by omega)),t+1,?_,?_,?_,?_,?_⟩,?_⟩)))
    .simp only;rw[zI (by omega) (by omega),show(t+1+1)*(2*a)=A+2*a+2*a by grind];omega
    .grind
    .rw[Y];omega
    .intro j I;by_cases e:j=t
     .grind
     .refine(l j (by omega)).out m.1 (.inl ?_);have:(j+1)*(2*a)<=t*(2*a):=aq _ (by omega);omega
    .intro j I;refine(f j (by omega)).out m.1 (.inr ?_);have:(2*t+2)*a<=j*a:=aq _ (by omega);omega
    grind[zI]
   omega
  rintro⟨sa,H⟩ ⟨F,t,d,av,ax,l,f⟩;simp only at d F l f;subst d;have ad:H.length=n:=by rw[F.len,M,hn]
  have Y:(t+1)*(2*a)=t*(2*a)+2*a:=bB _ _;have eA:2*t*a=t*(2*a):=by grind
  have eB:(2*t+1)*a=t*(2*a)+a:=by grind
  have eC:(2*t+2)*a=t*(2*a)+2*a:=by grind
  have J:=f (2*t) (aj _);have N:=f (2*t+1) (by omega);rw[show 2*t+1+1=2*t+2 from rfl,eC,eB,Nat.min_eq_right (by omega)]at N;rw[eB,eA]at J;have C:∀j,j<t->(j+1)*(2*a)<=t*(2*a):=fun j I=>aq _ (by omega);have D:∀j,t<j->t*(2*a)+2*a<=j*(2*a):=fun j I=>by rw[<-Y];exact aq _ (by omega)
  generalize hA:t*(2*a)=A at*
  have O:∀E,zAW key A n H E->uV lt A n E->zAW key 0 n xs E/\zWK lt (a*2) n E:=by
   intro E P ay;refine⟨(W.trans F).trans (P.mono (by omega) (aj _)),?_⟩;intro j;rw[show a*2=2*a by omega];by_cases e:j<t
   .have:=C j e;rw[ci (by omega)];exact(l j e).out P (.inl this)
   .by_cases e2:j=t
    .grind
    .have:=D j (by omega);intro p q x y' h1 B h3;omega
  dsimp only;rw[zI (x:=(A:Int)+(a:Int)) (by omega) (by omega),show((A:Int)+(a:Int))=((A+a:Nat):Int) by omega];refine zB ((show Wp _ (fun E:List α=>zAW key 0 n xs E/\zWK lt (a*2) n E)from ?_).mono (fun E Q=>zA (e2l ⟨⟨Q.1,a*2,?_,by omega,by omega,Q.2⟩,?_⟩)))
  .refine zO (fun B=>?_) (fun B=>zA (O H (zAW.refl _ _ _) ?_))
   .have B:((A+a:Nat):Int)< (n:Int):=B;rw[ci (by omega)]at J;refine zF (fun _=>?_) (fun h=>absurd h (by grind));unfold zHP;exact zB ((zHQ S i 1048576 H A (A+a) n (by omega) (by omega) (by omega) (by omega) (by omega) J N).mono (fun y m=>zA (O _ m.1 m.2)))
   grind
  all_goals grind[zI]
 .have h:¬(a:Int)< (n:Int):=h;refine zJN (zF (fun _=>zA (e2r ⟨W,?_⟩)) (fun h=>absurd h (by grind)));have:=z 0
  grind
theorem zO2(g:zQG lt key)(a:∀x y,Wp (cmp (x,y,())) (fun c=>c<0↔lt x y))(xs:List α)(i:xs.length<=1048576):
  Wp (zG0 cmp xs ((),())) (fun r=>r.1.length=xs.length/\zJv key xs r.1/\r.1.Pairwise (fun x y=>¬lt y x)):=by
 unfold zG0;dsimp only;refine zF (fun _=>?_) (fun h=>absurd h (by simp_all));refine zB ((zVz g a xs i).mono (fun y d=>?_));refine zF (fun _=>zA ⟨d.1.len,d.1.same,?_⟩) (fun h=>absurd h (by rw[zWA d.1.len];decide));rw[aT];intro p q j f e;have:=d.1.len;have f:q<y.1.length:=f;exact d.2 p q _ _ (aY _) e (by omega) (by simp) (by simp)
end
theorem zKO:∀(c d:List (Ty.El zP)),d.Pairwise hlt->(c.foldl zJa d).Pairwise hlt/\∀h,h∈c.foldl zJa d↔h∈d\/h∈c
 |[],d,f=>⟨f,fun h=>by simp⟩
 |x::c,d,f=>by
  have g:∀a b:Ty.El zP,zTY a b=Sb↔a=b:=fun a b=>⟨fun h=>zJ8 h,fun h=>by grind[zTY]⟩
  have i:(zJa d x).Pairwise hlt:=zKp zHb (fun _ _=>zSE) g (fun a b i j=>zZX i (fun e=>j e.symm)) f;obtain⟨j,k⟩:=zKO c (zJa d x) i;simp_all[zOf,or_assoc,zJa]
theorem zOg{p:Ty.El zD}{b:Ty.El zC}:∀(l:List (Ty.El zC)) (a:List (Ty.El zP)),a.Pairwise hlt->
  (l.foldl (zBZ p b) a).Pairwise hlt/\∀h,h∈l.foldl (zBZ p b) a↔h∈a\/∃x,x∈l/\x.1=p/\zCK x b=0/\h∈x.2.2.2.2.2.2.2.2.2.2.2.1
 |[],a,c=>⟨c,fun h=>by simp⟩
 |x::l,a,c=>by
  cases k:zB3 x.1 p&&(zCK x b==0)with
  |true=>
   have d:zBZ p b a x=x.2.2.2.2.2.2.2.2.2.2.2.1.foldl zJa a:=by grind[zBZ]
   have e:x.1=p/\zCK x b=0:=by simp_all[yY]
   obtain⟨g,j⟩:=zKO x.2.2.2.2.2.2.2.2.2.2.2.1 a c;rw[<-d]at g j;obtain⟨f,i⟩:=zOg l (zBZ p b a x) g;refine⟨f,fun h=>?_⟩
   grind
  |false=>
   have d:zBZ p b a x=a:=by grind[zBZ]
   have e:¬(x.1=p/\zCK x b=0):=by
    grind[yY]
   obtain⟨f,i⟩:=zOg l a c;rw[dB,d];refine⟨f,fun h=>?_⟩;rw[i h];constructor;all_goals grind
theorem zAb(l:List (Ty.El zC))(p:Ty.El zD)(b:Ty.El zC):(zCz l p b).Pairwise hlt:=(zOg l [] Al).1
theorem xA(l:List (Ty.El zC))(p:Ty.El zD)(b:Ty.El zC)(h:Ty.El zP):h∈zCz l p b↔ ∃x,x∈l/\x.1=p/\zCK x b=0/\h∈x.2.2.2.2.2.2.2.2.2.2.2.1:=by have:=(zOg (p:=p) (b:=b) l [] Al).2 h;rw[show zCz l p b=l.foldl (zBZ p b) []from rfl,this];simp
noncomputable def zBY(p:Ty.El zD)(l:List (Ty.El zC)):List (Ty.El zC):=zPx (fun x:Ty.El zC=>x.1) p l
theorem zZL(p:Ty.El zD)(x:Ty.El zC)(l:List (Ty.El zC)):zBY p (x::l)=if x.1=p then x::zBY p l else zBY p l:=by
 grind[zBY,zPx]
theorem zF1{p:Ty.El zD}{x:Ty.El zC}{l:List (Ty.El zC)}:x∈zBY p l↔x∈l/\x.1=p:=by
 grind[zBY,zPx]
def zOK(c:Option (Ty.El zC))(l:List (Ty.El zC)):Option (Ty.El zC):=l.foldl (fun c x=>bif qC4 x c then Sa x else c) c
theorem zGB{p:Ty.El zD}:∀(l:List (Ty.El zC)) (c:Option (Ty.El zC)),l.foldl (zQB p) c=zOK c (zBY p l)
 |[],c=>rfl
 |x::l,c=>by
  rw[dB,zZL];by_cases h:x.1=p
  .rw[if_pos h];have a:zQB p c x=bif qC4 x c then Sa x else c:=by grind[yY,zQB]
   rw[a,zGB l];rfl
  .rw[if_neg h];have d:zB3 x.1 p=false:=by simp_all[Bool.eq_false_iff,yY]
   have a:zQB p c x=c:=by grind[zQB]
   rw[a,zGB l]
theorem zI6(l:List (Ty.El zC))(p:Ty.El zD):zFl l p=zOK Sc (zBY p l):=zGB l Sc
variable {g:List (Ty.El zC)}
theorem zXW{a:List (Ty.El zC)}(h:zJv (fun x:Ty.El zC=>x.1) g a):zBs g=zBs a:=by
 have e:∀x,x∈g↔x∈a:=by
  intro x;have f:= @zF1 x.1 x g;have l:= @zF1 x.1 x a;have i:zBY x.1 g=zBY x.1 a:=h x.1
  grind
 have c:zXI g=zXI a:=zEg zK0 (zJ9 g) (zJ9 a) (fun p=>by
  grind[zXH])
 unfold zBs;rw[c];congr 1;funext p;unfold mrg;have d:zFl g p=zFl a p:=by rw[zI6,zI6];exact congrArg (zOK Sc) (h p)
 rw[d]
 cases zFl a p with
 |none=>rfl
 |some b=>
  have j:zCz g p b=zCz a p b:=zEg zHb (zAb _ _ _) (zAb _ _ _) (fun k=>by
   rw[xA,xA]
   grind)
  grind
def kR{α:Type}(eq:α->α->Bool):List α->List α
 |[]=>[]
 |[x]=>[x]
 |x::y::r=>bif eq x y then kR eq (y::r)else x::kR eq (y::r)
theorem zDA{α:Type}{eq:α->α->Bool}(c:∀x y,eq x y=Sb↔x=y)(z:α):∀(l:List α),z∈kR eq l↔z∈l
 |[]=>cD
 |[x]=>cD
 |x::y::r=>by
  simp only[kR]
  cases h:eq x y with
  |true=>
   rw[cond_true,zDA c z (y::r),(c x y).1 h];simp
  |false=>rw[cond_false,bg,zDA c z (y::r),bg (a:=z) (b:=x)]
theorem zFh{α:Type}{eq:α->α->Bool}{R:α->α->Prop}(i:∀x y,eq x y=Sb↔x=y)(k:Ord R)(a:∀x y,¬R y x->x≠y->R x y):∀(l:List α),l.Pairwise (fun x y=>¬R y x)->(kR eq l).Pairwise R
 |[],_=>Al
 |[x],_=>cO _ _
 |x::y::r,c=>by
  have m:=c;rw[bp]at c;have j:=zFh i k a (y::r) c.2;simp only[kR]
  cases h:eq x y with
  |true=>exact j
  |false=>
   rw[cond_false,bp];refine⟨fun z n=>?_,j⟩;have d:x≠y:=fun e=>by grind
   have f:R x y:=a x y (c.1 y (by simp)) d;have g:=(zDA i z (y::r)).1 n;rcases bg.1 g with rfl|p
   .exact f
   .have q:¬R z y:=by simp_all
    grind
theorem zKr(a b:Ty.El zP):zTY a b=Sb↔a=b:=⟨fun h=>zJ8 h,fun h=>by grind[zTY]⟩
theorem zV6{p:Ty.El zD}{b:Ty.El zC}{a:List (Ty.El zP)}(c:a.Pairwise (fun x y=>¬hlt y x))(d:∀h,h∈a↔ ∃x,x∈g/\x.1=p/\zCK x b=0/\h∈x.2.2.2.2.2.2.2.2.2.2.2.1):
  kR zTY a=zCz g p b:=
 zEg zHb (zFh zKr zHb (fun _ _ e f=>zZX e f) a c) (zAb g p b) (fun h=>by rw[zDA zKr,d,xA])
theorem zV3:jT=zBu z7:=rfl
theorem zVw:∀n,jL n=zCF z7 n:=by
 intro n
 induction n with
 |zero=>rfl
 |succ n a=>show zAq (jL n)=zJT z7 (zCF z7 n);rw[a];rfl
theorem zW1:vE=zHP z7:=zVw 1048576
theorem qBU:vU=zNw z7:=by unfold vU zNw;rw[zW1,zV3]
theorem zTC:vL=zG0 z7:=by unfold vL zG0;rw[qBU]
theorem qCl:zQG rlt (fun x:Ty.El zC=>x.1) where
 ord:=qBc
 ne:=fun x y h e=>by unfold rlt at h;rw[e]at h;exact zK0.asym _ _ h h
theorem qHx(x y:Ty.El zC):Wp (z7 (x,y,())) (fun c=>c<0↔rlt x y):=by unfold z7;dsimp only;exact zB (zK (zND _ _) (zA zOC))
theorem zQL(l:List (Ty.El zC))(a:l.length<=1048576):
  Wp (vL l ((),())) (fun r=>r.1.length=l.length/\zJv (fun x:Ty.El zC=>x.1) l r.1/\r.1.Pairwise (fun x y=>¬rlt y x)):=by
 rw[zTC];exact zO2 qCl qHx l a
end Go.Ve

namespace Go.Ve
open Go
theorem zQn{α β:Type}{f:α->List β}{k:Nat}:∀{xs:List α},(∀x,x∈xs->(f x).length<=k)->(xs.flatMap f).length<=xs.length*k
 |[],_=>by simp
 |x::xs,h=>by have c:=h x (by simp);have d:=zQn (xs:=xs) (fun y a=>h y (aw _ a));simp only[List.flatMap_cons,aN,aH,bB];omega
theorem zV8{α β:Type}{f:α->List β}{xs:List α}{i:Nat}{x:α}(h:xs[i]?=Sa x):(xs.take (i+1)).flatMap f=(xs.take i).flatMap f++f x:=by rw[bP,h,List.flatMap_append];simp
theorem zN6{v:Ty.El zH}(a:zFz v)(r i:Int)(p:Ty.El zR->Bool):(zLy v r i p).length<=360:=by
 unfold zLy;cases upB v r i
 .exact aY _
 .exact ai (cF _ _) (zSZ a r i)
end Go.Ve


namespace Go.Ve
open Go
def zTo(v:Ty.El zH)(e:Ty.El zR):Option Int:=match v.1.1[Ac e.1]? with
 |some q=>match q.2.2.1[Ac e.2.1]? with
  |some y=>Sa y.2.1
  |none=>Sc
 |none=>Sc
theorem qEZ{n:Ty.El zJ}{d:List Int}{v:Ty.El zH}(j:qE n d v){p:Ty.El zD}{F:Int}{e e':Ty.El zR}(h:zIq n p F e)(H:zIq n p F e'){a:Int}(k:zTo v e=Sa a)(c:zTo v e'=Sa a):e'=e:=by
 obtain⟨I,J,u,x,l,m,z,_,K,_⟩:=h;obtain⟨L,M,f,y,r,t,A,_,N,_⟩:=H;have B:v.1.1[Ac e.1]?=Sa u:=by rw[j.net];exact l
 have C:v.1.1[Ac e'.1]?=Sa f:=by rw[j.net];exact r
 unfold zTo at k c;rw[B]at k;rw[C]at c;simp[m]at k;simp[t]at c;have g:∀(p q:Int),0<=p->0<=q->p.toNat=q.toNat->q=p:=fun p q S W Y=>by omega
 by_cases D:Ac e.1=Ac e'.1
 .have O:e'.1=e.1:=g e.1 e'.1 I L D;rw[<-D,l]at r;cases r;have i:=(zHv j).rt u (ae l);have P:Sa (kD x.2.1 x.2.2.1)=Sa p:=(uB x.2.1 x.2.2.1).symm.trans K;have Q:Sa (kD y.2.1 y.2.2.1)=Sa p:=(uB y.2.1 y.2.2.1).symm.trans N;have G:kD x.2.1 x.2.2.1=kD y.2.1 y.2.2.1:=aW (P.trans Q.symm)
  have Z:e'.2.1=e.2.1:=by
   rcases cU (Ac e.2.1) (Ac e'.2.1)with hlt|heq|E
   .have:=(i.ifs _ y t).apart _ x hlt m A z;rw[G,zNS]at this;cases this
   .exact g e.2.1 e'.2.1 J M heq
   .have:=(i.ifs _ x m).apart _ y E t z A;rw[G,zNS]at this;cases this
  grind
 .exact absurd (k.trans c.symm) ((zHv j).addr _ _ u f D l r x y (ae m) (ae t) z A)
theorem zLN(v:Ty.El zH)(e:Ty.El zR)(q:Ty.El zG)(y:Ty.El zZ)(a:(0:Int)<=e.1)(c:(0:Int)<=e.2.1)(d:v.1.1[Ac e.1]?=Sa q)(f:q.2.2.1[Ac e.2.1]?=Sa y):Wp (zGh (v,e,())) (fun x=>x=y):=by unfold zGh;dsimp only;simp only[xG d a,xG f c,af];exact zA rfl
theorem zO3(n:Ty.El zJ)(d:List Int)(v:Ty.El zH)(A:qE n d v)(r i:Int)(a:Int)(e:Ty.El zR)(B:e∈zLy v r i (fun e=>e.1 !=r))(G:zTo v e=Sa a):
  Wp (zED (v,r,i,a,())) (fun z=>z=(e,Sb,())):=by
 unfold zED;dsimp only;have K:=A.s
 have C:upB v r i=true:=by
  grind[zLy,upB]
 obtain⟨H,_,I⟩:=zWh A C
 have k:∀e,e∈zLy v r i (fun e=>e.1 !=r)->zIq n H.1 H.2.1 e:=by
  grind[zLy]
 refine zB ((zJW v r i K).mono (fun f D=>?_));have L:f.length<=360:=by grind[zN6]
 rw[<-D]at B k;refine jU ?_;refine uA (fun(s:Int×Ty.El zR)=>∃j:Nat,s.1=(j:Int)/\j<=f.length/\∀m E,m<j->f[m]?=Sa E->zTo v E≠Sa a) (fun(s:Int×Ty.El zR)=>((f.length:Int) -s.1).toNat) ⟨(0:Nat),rfl,aY _,fun m E M=>by omega⟩ ?_;rintro⟨s,c⟩ ⟨j,J,N,O⟩;simp only at J;subst J;refine zO ?_ ?_
 .intro p;have p:(j:Int)< (f.length:Int):=p;have t:j<f.length:=by omega
  have F:f[j]?=Sa f[j]:=by simp[t]
  generalize f[j]=x at F;have g:=k x (ae F);have l:=g;obtain⟨P,Q,q,y,S,W,_⟩:=g;have Y:v.1.1[Ac x.1]?=Sa q:=by rw[A.net];exact S
  have u:zTo v x=Sa y.2.1:=by unfold zTo;simp_all
  simp only[zM F,af];refine zB ((zLN v x q y P Q Y W).mono (fun z Z=>?_));rw[Z];refine zF (fun h=>zA ?_) (fun h=>zA ?_)
  .have h:y.2.1=a:=by simpa using h
   have:=qEZ A (k e B) l (a:=a) G (by rw[u,h]);show(x,Sb,())=(e,Sb,())
   rw[this]
  .have h:¬y.2.1=a:=by simpa using h
   have hw:Aa .i64 ((j:Int)+1)=((j+1:Nat):Int):=by rw[zI (by omega) (by omega)];omega
   refine⟨⟨j+1,hw,by omega,?_⟩,?_⟩
   .grind
   omega
 .intro p;have p:¬(j:Int)< (f.length:Int):=p;have t:j=f.length:=by omega
  obtain⟨m,M,ab⟩:=aA B;exact absurd G (O m e (by omega) (by grind))
end Go.Ve



