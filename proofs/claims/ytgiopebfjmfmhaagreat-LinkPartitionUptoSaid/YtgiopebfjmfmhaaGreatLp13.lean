/- law16 -/
import Derived.Test.YtgiopebfjmfmhaaGreatLp11
import Derived.Test.YtgiopebfjmfmhaaGreatLp12
set_option linter.unusedVariables false
open Option renaming some->Sa
set_option maxRecDepth 1000000
set_option maxHeartbeats 4000000
namespace Go.Ve
open Go
section
variable {α:Type}{cmp:α×α×Unit->Option Int}
theorem zET(xs:List α)(a b n:Nat)(m:a+n<=b)(q:b+n<=xs.length)(t:xs.length<0x4000000000000000):
  Wp (zFV cmp xs ((a:Int),(b:Int),(n:Int),(),())) (fun r=>r.1.length=xs.length/\∀k,r.1[k]?=swF a b n xs k):=by
 unfold zFV;dsimp only;refine kY (fun s:Int×List α=>∃i:Nat,s.1=(i:Int)/\i<=n/\s.2.length=xs.length/\∀k,s.2[k]?=swF a b i xs k) (fun s=>((n:Int) -s.1).toNat) ⟨0,rfl,aW _,rfl,fun k=>qCL.symm⟩ ?_;rintro⟨s,c⟩ ⟨i,j,p,d,l⟩;simp only at j d l;subst j;refine zP (fun h=>?_) (fun h=>?_)
 .have h:(i:Int)< (n:Int):=h;have f:c[a+i]?=Sa (c[a+i]'(by omega)):=by simp
  have g:c[b+i]?=Sa (c[b+i]'(by omega)):=by simp
  have e:(c.set (a+i) (c[b+i]'(by omega)))[b+i]?=Sa (c[b+i]'(by omega)):=by grind
  dsimp only;rw[zJ (x:=(b:Int)+(i:Int)) (by omega) (by omega),zJ (x:=(a:Int)+(i:Int)) (by omega) (by omega),show((b:Int)+(i:Int))=((b+i:Nat):Int) by omega,show((a:Int)+(i:Int))=((a+i:Nat):Int) by omega];simp only[zO f,zO g,aB,yG f,yG g,af,zO e,yG e];refine zA (e2l ⟨⟨i+1,?_,by omega,by grind,qCM (by omega) (by omega) d l f g⟩,?_⟩);all_goals grind[zJ]
 .have h:¬(i:Int)< (n:Int):=h;have:i=n:=by omega
  simp_all[zA,e2r]
theorem zVT{xs a:List α}(h:xs.length=a.length):Nat.beq xs.length a.length=true:=by simp_all
theorem zUU(xs:List α)(a m b:Nat)(A:a<m)(B:m<b)(F:b<=xs.length)(G:xs.length<0x4000000000000000):
  Wp (zU6 cmp xs ((a:Int),(m:Int),(b:Int),(),())) (fun r=>r.1.length=xs.length/\∀k,r.1[k]?=zAv a m b xs k):=by
 unfold zU6;dsimp only;rw[zJ (x:=(m:Int) - (a:Int)) (by omega) (by omega),zJ (x:=(b:Int) - (m:Int)) (by omega) (by omega)];refine zB ((show Wp _ (fun s:List α×Int=>s.1.length=xs.length/\∃i:Nat,s.2=(i:Int)/\0<i/\i<=m/\m+i<=b/\∀k,zAv (m-i) m (m+i) s.1 k=zAv a m b xs k)from ?_).mono ?_)
 .refine kY (fun s:Int×Int×List α=>s.2.2.length=xs.length/\∃i j:Nat,s.1=(i:Int)/\s.2.1=(j:Int)/\0<i/\0<j/\i<=m-a/\m+j<=b/\∀k,zAv (m-i) m (m+j) s.2.2 k=zAv a m b xs k) (fun s=>(s.1+s.2.1).toNat)
   ⟨rfl,m-a,b-m,by simp only;omega,by simp only;omega,by omega,by omega,by omega,by omega,fun k=>by grind⟩ ?_
  rintro⟨H,I,e⟩ ⟨c,i,j,f,z,g,q,t,u,l⟩;simp only at f z c l;subst f z;refine zH (fun n=>?_) (fun J=>zA (e2r ⟨c,i,rfl,g,by omega,?_,?_⟩))
  .have n:¬(i:Int)=(j:Int):=by simpa using n
   refine zP (fun d=>?_) (fun d=>?_)
   .have d:(i:Int)>(j:Int):=d;refine zH (fun _=>?_) (fun h=>absurd h (by simp_all));dsimp only;rw[zJ (x:=(m:Int) - (i:Int)) (by omega) (by omega),zJ (x:=(i:Int) - (j:Int)) (by omega) (by omega),show((m:Int) - (i:Int))=((m-i:Nat):Int) by omega];refine zB ((zET e (m-i) m j (by omega) (by omega) (by omega)).mono (fun y p=>zA (e2l ⟨⟨p.1.trans c,i-j,j,?_,rfl,by omega,q,by omega,u,fun k=>?_⟩,?_⟩)))
    .simp only;omega
    .rw[<-l k,<-qC6 (lo:=m-i) (m:=m) (hi:=m+j) (xs:=e) (zs:=y.1) (by omega) (by omega) (by omega) (fun k=>by grind) k,show m- (i-j)=m-i+(m+j-m) by omega]
    grind
   .have d:¬(i:Int)>(j:Int):=d;refine zH (fun _=>?_) (fun h=>absurd h (by simp_all));dsimp only;rw[zJ (x:=(m:Int) - (i:Int)) (by omega) (by omega),zJ (x:=(m:Int)+(j:Int)) (by omega) (by omega),zJ (x:=(m:Int)+(j:Int) - (i:Int)) (by omega) (by omega),zJ (x:=(j:Int) - (i:Int)) (by omega) (by omega),show((m:Int) - (i:Int))=((m-i:Nat):Int) by omega,show((m:Int)+(j:Int) - (i:Int))=((m+j-i:Nat):Int) by omega];refine zB ((zET e (m-i) (m+j-i) i (by omega) (by omega) (by omega)).mono (fun y p=>zA (e2l ⟨⟨p.1.trans c,i,j-i,rfl,?_,g,by omega,t,by omega,fun k=>?_⟩,?_⟩)))
    .simp only;omega
    .rw[<-l k,<-qBk (lo:=m-i) (m:=m) (hi:=m+j) (xs:=e) (zs:=y.1) (by omega) (by omega) (by omega) (fun k=>by grind) k,show m+(j-i)=m+j- (m- (m-i)) by omega]
    grind
  all_goals grind
 .rintro⟨e,s⟩ ⟨c,i,f,g,D,E,l⟩;simp only at f c l;subst f;refine zH (fun _=>?_) (fun h=>absurd h (by simp_all));dsimp only;rw[zJ (x:=(m:Int) - (i:Int)) (by omega) (by omega),show((m:Int) - (i:Int))=((m-i:Nat):Int) by omega];refine zB ((zET e (m-i) m i (by omega) (by omega) (by omega)).mono (fun y p=>?_));refine zH (fun _=>zA ⟨p.1.trans c,fun k=>?_⟩) (fun h=>absurd h (by grind))
  grind[qC7]
end
section
variable {α κ:Type}{lt:α->α->Prop}{key:α->κ}
structure zP7(lt:α->α->Prop)(key:α->κ):Prop where
 ord:Ord lt
 ne:∀x y,lt x y->key x≠key y
open Classical in
noncomputable def zOZ(key:α->κ)(p:κ)(xs:List α):List α:=xs.filter (fun x=>decide (key x=p))
def zJa(key:α->κ)(xs a:List α):Prop:= ∀p,zOZ key p xs=zOZ key p a
theorem zJa.refl(xs:List α):zJa key xs xs:=fun _=>rfl
theorem zJa.trans{xs ys zs:List α}(a:zJa key xs ys)(c:zJa key ys zs):zJa key xs zs:=fun p=>(a p).trans (c p)
theorem zXB(p:κ)(xs a:List α):zOZ key p (xs++a)=zOZ key p xs++zOZ key p a:=dM ..
theorem zXA{p:κ}{xs:List α}(h:∀x,x∈xs->key x≠p):zOZ key p xs=[]:=by
 grind[List.filter_eq_nil_iff,zOZ]
theorem qBh(a:zP7 lt key){P U V S:List α}(h:∀x y,x∈U->y∈V->lt y x):zJa key (P++U++V++S) (P++V++U++S):=by
 intro p;simp only[zXB];congr 1;rw[cz,cz];congr 1;by_cases c:∃x,x∈U/\key x=p
 .obtain⟨x,d,rfl⟩:=c;rw[zXA (xs:=V) (fun y e=>a.ne _ _ (h x y d e))];simp
 grind[zXA]
structure zAL(key:α->κ)(a b:Nat)(xs ys:List α):Prop where
 len:ys.length=xs.length
 out:∀k,k<a\/b<=k->ys[k]?=xs[k]?
 ins:∀q y,a<=q->q<b->ys[q]?=Sa y->∃q',a<=q'/\q'<b/\xs[q']?=Sa y
 same:zJa key xs ys
theorem zAL.refl(a b:Nat)(xs:List α):zAL key a b xs xs:=⟨rfl,fun _ _=>rfl,fun q y c d e=>⟨q,c,d,e⟩,zJa.refl xs⟩
theorem zAL.trans{a b:Nat}{xs ys zs:List α}(c:zAL key a b xs ys)(d:zAL key a b ys zs):zAL key a b xs zs:=by refine⟨d.len.trans c.len,fun k g=>(d.out k g).trans (c.out k g),?_,c.same.trans d.same⟩;intro q y e f hy;obtain⟨h,i,j,l⟩:=d.ins q y e f hy;exact c.ins h y i j l
variable {g l:List α}{i j:Nat}
theorem zAL.mono{a' e:Nat}(h:zAL key i j g l)(ha:a'<=i)(hb:j<=e):zAL key a' e g l:=by
 refine⟨h.len,fun k f=>h.out k (by omega),?_,h.same⟩;intro q y c d hy;by_cases hq:i<=q/\q<j
 .obtain⟨xs,a,b,ys⟩:=h.ins q y hq.1 hq.2 hy
  grind
 .exact⟨q,c,d,by rw[<-h.out q (by omega)];exact hy⟩
def uQ(lt:α->α->Prop)(lo hi:Nat)(xs:List α):Prop:= ∀p q x y,lo<=p->p<q->q<hi->xs[p]?=Sa x->xs[q]?=Sa y->¬lt y x
theorem uQ.out{lo hi a b:Nat}{xs ys:List α}(h:uQ lt lo hi xs)(c:zAL key a b xs ys)(hd:hi<=a\/b<=lo):uQ lt lo hi ys:=by intro p q x y d e f hx hy;rw[c.out p (by omega)]at hx;rw[c.out q (by omega)]at hy;exact h p q x y d e f hx hy
theorem zL2{b:Nat}(xs:uQ lt i j g)(h:uQ lt j b g)(l:∀q r x y,i<=q->q<j->j<=r->r<b->g[q]?=Sa x->g[r]?=Sa y->¬lt y x):uQ lt i b g:=by
 intro p q x y a d c e f;by_cases k:q<j
 .exact xs p q x y a d k e f
 .by_cases m:p<j
  .grind
  .exact h p q x y (by omega) d c e f
theorem qBg:uQ lt i (i+1) g:=fun p q x y c d e _ _=>by omega
theorem uQ.sub{a' c:Nat}(h:uQ lt i j g)(ha:i<=a')(hb:c<=j):uQ lt a' c g:=fun p q x y e d f hx hy=>h p q x y (by omega) d (by omega) hx hy
theorem zNh(f:zP7 lt key){m:Nat}(C:i<=m)(D:m<=j)(E:j<=g.length)(xs:l.length=g.length)(h:∀k,l[k]?=zAv i m j g k)(hlt:∀q r x y,i<=q->q<m->m<=r->r<j->g[q]?=Sa x->g[r]?=Sa y->lt y x):zAL key i j g l:=by
 have c:g=g.take i++(g.drop i).take (m-i)++(g.drop m).take (j-m)++g.drop j:=by
  refine bT (fun k=>?_);simp only[List.getElem?_append,aN,bX,bW,cG,cH]
  grind[zHh]
 have F:l=g.take i++(g.drop m).take (j-m)++(g.drop i).take (m-i)++g.drop j:=by
  refine bT (fun k=>?_);rw[h];unfold zAv;simp only[List.getElem?_append,aN,bX,bW,cG,cH]
  repeat' split
  all_goals first
   |rfl
   |exact zHh (by omega)
   |(exfalso;omega)
 refine⟨xs,?_,?_,?_⟩
 .intro k zs;rw[h];unfold zAv;rw[if_neg (by omega),if_neg (by omega)]
 .intro q y n p a;rw[h]at a;unfold zAv at a;split at a
  .exact⟨q+(m-i),by omega,by omega,a⟩
  .split at a
   .exact⟨q- (j-m),by omega,by omega,a⟩
   omega
 .have G:=qBh f (P:=g.take i) (U:=(g.drop i).take (m-i)) (V:=(g.drop m).take (j-m)) (S:=g.drop j) ?_
  .grind
  .intro x y t a;obtain⟨lo,d,u⟩:=aC t;obtain⟨hi,e,z⟩:=aC a
   have A:g[i+lo]?=Sa x:=by
    grind
   have B:g[m+hi]?=Sa y:=by
    grind
   simp at d e;exact hlt (i+lo) (m+hi) x y (by omega) (by omega) (by omega) (by omega) A B
theorem qFf(e:i<=j)(a:j+1<g.length)(zs:l.length=g.length)(h:∀k,l[k]?=zAv i (i+1) (j+1) g k){x y:α}(f:l[j]?=Sa x)(xs:l[j+1]?=Sa y):
  ∀k,((l.set j y).set (j+1) x)[k]?=zAv i (i+1) (j+2) g k:=by
 intro k;have c:=h j;have d:=h (j+1);unfold zAv at c d;rw[f,if_neg (by omega),if_pos (by omega)]at c;rw[xs,if_neg (by omega),if_neg (by omega)]at d;unfold zAv;by_cases m:k=j+1
 .grind
 .rw[aS (by omega)];by_cases n:k=j
  .grind
  grind[List.getElem?_set_ne,zHh,zAv]
theorem zTQ{m k:Nat}(d:0<k)(e:k<=m)(i:m<g.length)(zs:l.length=g.length)(h:∀j,l[j]?=zAv k m (m+1) g j){x y:α}(f:l[k]?=Sa x)(xs:l[k-1]?=Sa y):
  ∀j,((l.set k y).set (k-1) x)[j]?=zAv (k-1) m (m+1) g j:=by
 intro j;have a:=h k;have c:=h (k-1);unfold zAv at a c;rw[f,if_pos (by omega)]at a;rw[xs,if_neg (by omega),if_neg (by omega)]at c;unfold zAv;by_cases n:j=k-1
 .grind
 .rw[aS (by omega)];by_cases p:j=k
  .grind
  grind[List.getElem?_set_ne,zHh,zAv]
theorem qC8(j:Nat):zAv i (i+1) (i+1) g j=g[j]? :=by
 grind[zHh,zAv]
theorem zWT(j:Nat):zAv i i (i+1) g j=g[j]? :=by
 grind[zHh,zAv]
end
theorem zVi(i j:Nat)(h:i+j<0x4000000000000000):IntKind.wrap .i64 (Int.fdiv (IntKind.wrap .u64 (IntKind.wrap .i64 ((i:Int)+(j:Int)))) ((2:Int)^min (Int.toNat (1:Int)) (IntKind.bits .u64)))=(((i+j) / 2:Nat):Int):=by
 grind[zJ,zMR,Int.fdiv_eq_ediv_of_nonneg,min,IntKind.bits]
theorem qAi{σ ρ:Type}{m:Option (σ ⊕ ρ)}{K:σ->Option ρ}{Q:ρ->Prop}(P:σ->Prop)(h:Wp m (vH P Q))(c:∀s,P s->Wp (K s) Q):Wp (wL m K) Q:=by
 refine wU (h.mono ?_);intro o a
 cases o with
 |inl s=>exact c s a
 |inr r=>exact a
theorem zLG{β:Type}{z:β}{i0 j0:Nat}{P:Nat->Prop}{T:Int×Int×β->Option ((Int×Int×β) ⊕ (Int×β))}(a:i0<=j0)
  (step:∀i j:Nat,i0<=i->i<j->j<=j0->Wp (T ((i:Int),(j:Int),z)) (fun o=>(o=Sum.inl ((((i+j) / 2+1:Nat):Int),(j:Int),z)/\P ((i+j) / 2))\/(o=Sum.inl ((i:Int),(((i+j) / 2:Nat):Int),z)/\¬P ((i+j) / 2)))):
  Wp (zR (fun s:Int×Int×β=>bif decide (s.1<s.2.1)then T s else Sa (Sum.inr (s.1,s.2.2))) ((i0:Int),(j0:Int),z)) (fun s=>s.2=z/\∃i:Nat,s.1=(i:Int)/\i0<=i/\i<=j0/\(i0<i->P (i-1))/\(i<j0->¬P i)):=by
 refine kY (fun s:Int×Int×β=>s.2.2=z/\∃i j:Nat,s.1=(i:Int)/\s.2.1=(j:Int)/\i0<=i/\i<=j/\j<=j0/\(i0<i->P (i-1))/\(j<j0->¬P j)) (fun s=>(s.2.1-s.1).toNat)
  ⟨rfl,i0,j0,rfl,rfl,ai _,a,ai _,fun h=>by omega,fun h=>by omega⟩ ?_
 rintro⟨n,p,y⟩ ⟨d,i,j,e,f,c,q,g,k,m⟩;simp only at e f d;subst e f d;refine zP (fun h=>?_) (fun h=>zA (e2r ⟨rfl,i,rfl,c,by omega,k,?_⟩))
 .have h:(i:Int)< (j:Int):=h;refine(step i j c (by omega) g).mono ?_;rintro o (⟨rfl,l⟩|⟨rfl,l⟩)
  .refine⟨⟨rfl,(i+j) / 2+1,j,rfl,rfl,by omega,by omega,g,fun _=>by grind,m⟩,?_⟩;simp only;omega
  .refine⟨⟨rfl,i,(i+j) / 2,rfl,rfl,c,by omega,by omega,k,fun _=>l⟩,?_⟩;simp only;omega
 grind
section
variable {α κ:Type}{cmp:α×α×Unit->Option Int}{lt:α->α->Prop}{key:α->κ}
theorem xB{xs:List α}{i:Nat}(h:i<xs.length):xs[i]?=Sa xs[i]:=by simp[h]
theorem zHB(hk:zP7 lt key)(S:∀x y,Wp (cmp (x,y,())) (fun c=>c<0↔lt x y)):∀(n:Nat) (xs:List α) (a m b:Nat),a<m->m<b->b<=xs.length->xs.length<1099511627776->b-a<=n->uQ lt a m xs->uQ lt m b xs->
  Wp (zCv cmp n xs ((a:Int),(m:Int),(b:Int),(),())) (fun r=>zAL key a b xs r.1/\uQ lt a b r.1):=by
 have ho:=hk.ord;have a2:∀x y z,¬lt y x->lt y z->lt x z:=fun x y z t g=>bG (fun D=>ho.tr z x y D t g);have b5:∀x y z,lt x y->¬lt z y->lt x z:=fun x y z t g=>bG (fun D=>ho.tr y z x g D t);intro n
 induction n with
 |zero=>omega
 |succ n ih=>
  intro xs a m b c2 c3 hb hl hn H I;have av :=xB (xs:=xs) (i:=a) (by omega);have ax :=xB (xs:=xs) (i:=m) (by omega);simp only[zCv];unfold zJw;dsimp only;rw[zJ (x:=(m:Int) - (a:Int)) (by omega) (by omega),zJ (x:=(b:Int) - (m:Int)) (by omega) (by omega)];refine qAi (fun s:List α=>s=xs/\m≠a+1) ?_ ?_
  .refine zH (fun h=>?_) (fun h=>zA (e2l ⟨rfl,?_⟩))
   .have h:(m:Int) - (a:Int)=1:=by simpa using h
    have a6:m=a+1:=by omega
    subst a6;refine zB ((zLG (z:=xs) (i0:=a+1) (j0:=b) (P:=fun q=>∀y,xs[q]?=Sa y->lt y xs[a]) (by omega) ?_).mono ?_)
    .intro i j hi a9 hj;have W:=xB (xs:=xs) (i:=(i+j) / 2) (by omega);dsimp only;rw[zVi i j (by omega)];simp only[zO W,aB,yG W,zO av,yG av,af];refine zB ((S _ _).mono (fun c hc=>zP (fun t=>zA (.inl ⟨?_,fun y d=>?_⟩)) (fun t=>zA (.inr ⟨rfl,fun g=>t (hc.2 (g _ W))⟩))));all_goals grind[zJ]
    .rintro⟨s,B⟩ ⟨N,i,hi,Y,bb,hP,hN⟩;simp only at N hi;subst N hi
     have Z:∀q y,a+1<=q->q<i->B[q]?=Sa y->lt y B[a]:=by
      intro q y ab ad d;have hp:=hP (by omega) _ (xB (by omega));by_cases e:q=i-1
      .grind
      .exact a2 _ _ _ (I q (i-1) y _ ab (by omega) (by omega) d (xB (by omega))) hp
     have ag:∀q y,i<=q->q<b->B[q]?=Sa y->¬lt y B[a]:=by
      intro q y ab ad d hlt;have a3:=hN (by omega);apply a3;intro w L;by_cases e:q=i
      .grind
      .exact a2 _ _ _ (I i q w y Y (by omega) ad L d) hlt
     dsimp only;rw[zJ (x:=(i:Int) -1) (by omega) (by omega)];refine kY (fun s:Int×List α=>∃k:Nat,s.1=(k:Int)/\a<=k/\k+1<=i/\s.2.length=B.length/\∀j,s.2[j]?=zAv a (a+1) (k+1) B j) (fun s=>((i:Int) -s.1).toNat) ⟨a,rfl,ai _,Y,rfl,fun j=>(qC8 j).symm⟩ ?_;rintro⟨s,G⟩ ⟨k,al,b6,cc,J,L⟩;simp only at al J L;subst al;refine zP (fun hlt=>?_) (fun an=>?_)
     .have hlt:(k:Int)< (i:Int) -1:=hlt;have l:=xB (xs:=G) (i:=k) (by omega);have d:=xB (xs:=G) (i:=k+1) (by omega);have ao:(G.set k (G[k+1]'(by omega)))[k+1]?=Sa (G[k+1]'(by omega)):=by grind
      dsimp only;rw[zJ (x:=(k:Int)+1) (by omega) (by omega),show((k:Int)+1)=((k+1:Nat):Int) by omega];simp only[zO l,zO d,aB,yG l,yG d,af,zO ao,yG ao];refine zA (e2l ⟨⟨k+1,rfl,by omega,by omega,by grind,qFf b6 (by omega) J L l d⟩,?_⟩);simp only;omega
     .have an:¬(k:Int)< (i:Int) -1:=an;have ap:k+1=i:=by omega
      subst ap;refine zIb (zIb (zH (fun _=>zA (e2r (e2r ?_))) (fun h=>absurd h (by simp_all))))
      have ay:zAL key a (k+1) B G:=zNh hk (m:=a+1) (by omega) (by omega) (by omega) J L (fun q r x y t g D Q l d=>by
       grind)
      refine⟨ay.mono (ai _) (by omega),?_⟩
      have vA:∀q y,a<=q->q<b->G[q]?=Sa y->(q<k/\B[q+1]?=Sa y)\/(q=k/\y=B[a])\/(k<q/\B[q]?=Sa y):=by
       intro q y t g d;rw[L]at d;unfold zAv at d;split at d
       .simp_all
       .split at d
        .refine .inr (.inl ⟨by omega,?_⟩);rw[show q- (k+1- (a+1))=a by omega,av]at d;cases d;rfl
        grind
      intro p q x y t g D l d;rcases vA p x t (by omega) l with⟨K,A⟩|⟨K,rfl⟩|⟨K,A⟩
      .rcases vA q y (by omega) D d with⟨E,f⟩|⟨E,rfl⟩|⟨E,f⟩
       .exact I (p+1) (q+1) x y (by omega) (by omega) (by omega) A f
       .exact ho.asym _ _ (Z (p+1) x (by omega) (by omega) A)
       .exact I (p+1) q x y (by omega) (by omega) D A f
      .rcases vA q y (by omega) D d with⟨E,f⟩|⟨E,rfl⟩|⟨E,f⟩
       all_goals grind
      .rcases vA q y (by omega) D d with⟨E,f⟩|⟨E,rfl⟩|⟨E,f⟩
       .omega
       .omega
       .exact I p q x y (by omega) g D A f
   grind
  rintro s ⟨rfl,a6⟩;refine qAi (fun s':List α=>s'=s/\b≠m+1) ?_ ?_
  .refine zH (fun h=>?_) (fun h=>zA (e2l ⟨rfl,?_⟩))
   .have h:(b:Int) - (m:Int)=1:=by simpa using h
    have bd:b=m+1:=by omega
    subst bd;refine zB ((zLG (z:=s) (i0:=a) (j0:=m) (P:=fun q=>∀y,s[q]?=Sa y->¬lt s[m] y) (by omega) ?_).mono ?_)
    .intro i j hi a9 hj;have W:=xB (xs:=s) (i:=(i+j) / 2) (by omega);dsimp only;rw[zVi i j (by omega)];simp only[zO W,aB,yG W,zO ax,yG ax,af];refine zB ((S _ _).mono (fun c hc=>x6 (fun t=>zA (.inl ⟨?_,fun y d=>?_⟩)) (fun t=>zA (.inr ⟨rfl,fun g=>g _ W (hc.1 t)⟩))));all_goals grind[zJ]
    .rintro⟨s0,B⟩ ⟨N,i,hi,Y,bb,hP,hN⟩;simp only at N hi;subst N hi
     have Z:∀q y,a<=q->q<i->B[q]?=Sa y->¬lt B[m] y:=by
      intro q y ab ad d;have hp:=hP (by omega) _ (xB (by omega));by_cases e:q=i-1
      .grind
      .exact ho.tr _ _ _ (H q (i-1) y _ ab (by omega) (by omega) d (xB (by omega))) hp
     have ag:∀q y,i<=q->q<m->B[q]?=Sa y->lt B[m] y:=by
      intro q y ab ad d;refine bG (fun be=>?_);have a3:=hN (by omega);apply a3;intro w L;by_cases e:q=i
      .grind
      .exact ho.tr _ _ _ (H i q w y Y (by omega) ad L d) be
     dsimp only;refine kY (fun s:Int×List α=>∃k:Nat,s.1=(k:Int)/\i<=k/\k<=m/\s.2.length=B.length/\∀j,s.2[j]?=zAv k m (m+1) B j) (fun s=>s.1.toNat) ⟨m,rfl,bb,ai _,rfl,fun j=>(zWT j).symm⟩ ?_;rintro⟨s0,G⟩ ⟨k,al,cc,cf,J,L⟩;simp only at al J L;subst al;refine zP (fun bk=>?_) (fun an=>?_)
     .have bk:(k:Int)>(i:Int):=bk;have l:=xB (xs:=G) (i:=k) (by omega);have d:=xB (xs:=G) (i:=k-1) (by omega);have ao:(G.set k (G[k-1]'(by omega)))[k-1]?=Sa (G[k-1]'(by omega)):=by grind[List.getElem?_set_ne]
      dsimp only;rw[zJ (x:=(k:Int) -1) (by omega) (by omega),show((k:Int) -1)=((k-1:Nat):Int) by omega];simp only[zO l,zO d,aB,yG l,yG d,af,zO ao,yG ao];refine zA (e2l ⟨⟨k-1,rfl,by omega,by omega,by grind,zTQ (by omega) cf (by omega) J L l d⟩,?_⟩);simp only;omega
     .have an:¬(k:Int)>(i:Int):=an;have ap:k=i:=by omega
      subst ap;refine zIb (zIb (zH (fun _=>zA (e2r (e2r ?_))) (fun h=>absurd h (by simp_all))))
      have ay:zAL key k (m+1) B G:=zNh hk (m:=m) (by omega) (by omega) (by omega) J L (fun q r x y t g D Q l d=>by
       grind)
      refine⟨ay.mono Y (ai _),?_⟩
      have vA:∀q y,a<=q->q<m+1->G[q]?=Sa y->(q<k/\B[q]?=Sa y)\/(q=k/\y=B[m])\/(k<q/\B[q-1]?=Sa y):=by
       intro q y t g d;rw[L]at d;unfold zAv at d;split at d
       .refine .inr (.inl ⟨by omega,?_⟩);rw[show q+(m-k)=m by omega,ax]at d;cases d;rfl
       .split at d
        .exact .inr (.inr ⟨by omega,by simp_all⟩)
        grind
      intro p q x y t g D l d;rcases vA p x t (by omega) l with⟨K,A⟩|⟨K,rfl⟩|⟨K,A⟩
      .rcases vA q y (by omega) D d with⟨E,f⟩|⟨E,rfl⟩|⟨E,f⟩
       .exact H p q x y t g (by omega) A f
       .grind
       .exact H p (q-1) x y t (by omega) (by omega) A f
      .rcases vA q y (by omega) D d with⟨E,f⟩|⟨E,rfl⟩|⟨E,f⟩
       .omega
       .omega
       .exact ho.asym _ _ (ag (q-1) y (by omega) (by omega) f)
      .rcases vA q y (by omega) D d with⟨E,f⟩|⟨E,rfl⟩|⟨E,f⟩
       .omega
       .omega
       .exact H (p-1) (q-1) x y (by omega) (by omega) (by omega) A f
   grind
  rintro s' ⟨rfl,bd⟩;clear av ax;rw[zVi a b (by omega)];have ch:2*((a+b) / 2)<=a+b:=by omega
  have ck:a+b<2*((a+b) / 2)+2:=by omega
  generalize (a+b) / 2=M at ch ck;rw[zJ (x:=(M:Int)+(m:Int)) (by omega) (by omega),zJ (x:=(M:Int)+(m:Int) -1) (by omega) (by omega)];refine zB ((show Wp _ (fun s:Int×Int×List α=>∃st r:Nat,s=((st:Int),(r:Int),s')/\((M<m/\st+b=M+m/\r=M)\/(m<=M/\st=a/\r=m)))from ?_).mono ?_)
  .refine zP (fun h=>zA ⟨M+m-b,M,?_,.inl ⟨?_,?_,rfl⟩⟩) (fun h=>zA ⟨a,m,rfl,.inr ⟨?_,rfl,rfl⟩⟩);all_goals grind[zJ]
  rintro _ ⟨st,r,rfl,ay⟩;refine zB ((zLG (z:=s') (i0:=st) (j0:=r) (P:=fun c=>∀x y,s'[M+m-1-c]?=Sa x->s'[c]?=Sa y->¬lt x y) (by omega) ?_).mono ?_)
  .intro i j hi a9 hj;have W:=xB (xs:=s') (i:=(i+j) / 2) (by omega);have a4:=xB (xs:=s') (i:=M+m-1- (i+j) / 2) (by omega);dsimp only;rw[zVi i j (by omega),zJ (x:=(M:Int)+(m:Int) -1- (((i+j) / 2:Nat):Int)) (by omega) (by omega),show((M:Int)+(m:Int) -1- (((i+j) / 2:Nat):Int))=((M+m-1- (i+j) / 2:Nat):Int) by omega];simp only[zO W,zO a4,aB,yG W,yG a4,af];refine zB ((S _ _).mono (fun c hc=>x6 (fun t=>zA (.inl ⟨?_,fun x y l d=>?_⟩)) (fun t=>zA (.inr ⟨rfl,fun g=>g _ _ a4 W (hc.1 t)⟩))));all_goals grind[zJ]
  rintro⟨s0,C⟩ ⟨bn,start,bo,c0,c1,hP,hN⟩;simp only at bn bo;subst bn bo;dsimp only;rw[zJ (x:=(M:Int)+(m:Int) - (start:Int)) (by omega) (by omega),show((M:Int)+(m:Int) - (start:Int))=((M+m-start:Nat):Int) by omega];have bs:m<=M+m-start:=by omega
  have b0:M+m-start<=b:=by omega
  have cl:start+(M+m-start-m)=M:=by omega
  have a1:a<=start:=by omega
  have b1:start<=m:=by omega
  have a5:∀q F x y,start<=q->q<m->m<=F->F<M+m-start->C[q]?=Sa x->C[F]?=Sa y->lt y x:=by
   intro q F x y t g D Q l d;have hlt:start<r:=by omega
   refine bG (fun cp=>hN hlt ?_);intro u w hu L b2;apply cp
   have k1:lt y w:=by
    by_cases e:F=M+m-1-start
    .grind
    .exact a2 _ _ _ (I F (M+m-1-start) y u D (by omega) (by omega) d hu) b2
   by_cases e:q=start
   .grind
   .exact b5 _ _ _ k1 (H start q w x a1 (by omega) (by omega) L l)
  have cq:∀q F x y,a<=q->q<start->M+m-start<=F->F<b->C[q]?=Sa x->C[F]?=Sa y->¬lt y x:=by
   intro q F x y t g D Q l d;have hlt:st<start:=by omega
   have K:=xB (xs:=C) (i:=start-1) (by omega);have E:=xB (xs:=C) (i:=M+m-1- (start-1)) (by omega);have hp:=hP hlt _ _ E K
   have k1:¬lt (C[M+m-1- (start-1)]'(by omega)) x:=by
    by_cases e:q=start-1
    .grind
    .exact ho.tr _ _ _ (H q (start-1) x _ t (by omega) (by omega) l K) hp
   by_cases e:F=M+m-1- (start-1)
   .grind
   .exact ho.tr _ _ _ k1 (I (M+m-1- (start-1)) F _ y (by omega) (by omega) Q E d)
  generalize he:M+m-start=e at bs b0 cl cq a5;refine zB ((show Wp _ (fun B:List α=>B.length=C.length/\∀k,B[k]?=zAv start m e C k)from ?_).mono ?_)
  .refine zB ((show Wp _ (fun c:Bool×List α=>c.2=C/\(c.1=true->start<m/\m<e)/\(c.1=false->start=m\/m=e))from ?_).mono ?_)
   .refine zP (fun h=>zA ⟨rfl,(fun g=>?_),fun g=>?_⟩) (fun h=>zA ⟨rfl,(fun g=>by cases g),fun _=>?_⟩);all_goals grind
   .rintro⟨c,B⟩ ⟨N,ht,hf⟩;simp only at N ht hf;subst N;refine zH (fun h=>?_) (fun h=>zA ⟨rfl,fun k=>?_⟩)
    .obtain⟨K,E⟩:=ht h;refine zH (fun _=>zB ((zUU B start m e K E (by omega) (by omega)).mono (fun y d=>zA d))) (fun h=>absurd h (by rw[ci];decide))
    .have:=hf h;unfold zAv
     repeat' split
     all_goals first
      |rfl
      |exact zHh (by omega)
      |(exfalso;omega)
  intro B cr;obtain⟨b3,N⟩:=cr;have zBS:=zNh hk b1 bs (by omega) b3 N a5
  have vA:∀q y,a<=q->q<b->B[q]?=Sa y->(q<start/\C[q]?=Sa y)\/(start<=q/\q<M/\C[q+(m-start)]?=Sa y)\/(M<=q/\q<e/\C[q- (e-m)]?=Sa y)\/(e<=q/\C[q]?=Sa y):=by
   intro q y t g d;rw[N]at d;unfold zAv at d;split at d
   .grind
   .split at d;all_goals grind
  have r1:uQ lt a start B:=by intro p q x y t g D l d;rw[zBS.out p (by omega)]at l;rw[zBS.out q (by omega)]at d;exact H p q x y t g (by omega) l d
  have r2:uQ lt start M B:=by intro p q x y t g D l d;rw[N]at l d;unfold zAv at l d;rw[if_pos (by omega)]at l d;exact I _ _ x y (by omega) (by omega) (by omega) l d
  have r3:uQ lt M e B:=by intro p q x y t g D l d;rw[N]at l d;unfold zAv at l d;rw[if_neg (by omega),if_pos (by omega)]at l d;exact H _ _ x y (by omega) (by omega) (by omega) l d
  have r4:uQ lt e b B:=by intro p q x y t g D l d;rw[zBS.out p (by omega)]at l;rw[zBS.out q (by omega)]at d;exact I p q x y (by omega) g D l d
  have rc:∀q F x y,a<=q->q<M->M<=F->F<b->B[q]?=Sa x->B[F]?=Sa y->¬lt y x:=by
   intro q F x y t g D Q l d;rcases vA q x t (by omega) l with⟨K,A⟩|⟨K,E,A⟩|⟨K,E,A⟩|⟨K,A⟩
   .rcases vA F y (by omega) Q d with⟨g3,f⟩|⟨g3,g4,f⟩|⟨g3,g4,f⟩|⟨g3,f⟩
    .omega
    .omega
    .exact H q _ x y t (by omega) (by omega) A f
    grind
   .rcases vA F y (by omega) Q d with⟨g3,f⟩|⟨g3,g4,f⟩|⟨g3,g4,f⟩|⟨g3,f⟩
    .omega
    .omega
    .exact ho.asym _ _ (a5 _ _ y x (by omega) (by omega) (by omega) (by omega) f A)
    .exact I _ F x y (by omega) (by omega) Q A f
   all_goals omega
  refine zB ((show Wp _ (fun G:List α=>zAL key a M B G/\uQ lt a M G)from ?_).mono ?_)
  .refine zB ((show Wp _ (fun c:Bool×List α=>c.2=B/\(c.1=true->a<start/\start<M)/\(c.1=false->a=start\/start=M))from ?_).mono ?_)
   .refine zP (fun h=>zA ⟨rfl,(fun g=>?_),fun g=>?_⟩) (fun h=>zA ⟨rfl,(fun g=>by cases g),fun _=>?_⟩);all_goals grind
   .rintro⟨c,vs⟩ ⟨hv,ht,hf⟩;simp only at hv ht hf;subst hv;refine zH (fun h=>?_) (fun h=>zA ⟨zAL.refl _ _ _,?_⟩)
    .obtain⟨K,E⟩:=ht h;exact zH (fun _=>zB ((ih vs a start M K E (by omega) (by omega) (by omega) r1 r2).mono (fun y d=>zA d))) (fun h=>absurd h (by rw[ci];decide))
    .exact zL2 r1 r2 (fun q F x y t g D Q l d=>by have:=hf h;omega)
  intro G cs;obtain⟨O,cv⟩:=cs;have J:G.length=C.length:=O.len.trans b3
  have b4:∀us,zAL key M b G us->uQ lt M b us->zAL key a b C us/\uQ lt a b us:=by
   intro us a0 cx;refine⟨((zBS.mono a1 b0).trans (O.mono (ai _) (by omega))).trans (a0.mono (by omega) (ai _)),zL2 (cv.out a0 (.inl (ai _))) cx ?_⟩;intro q F x y t g D Q l d;rw[a0.out q (by omega)]at l;obtain⟨q',k1,k2,A⟩:=O.ins q x t g l;obtain⟨r2,k3,k4,f⟩:=a0.ins F y D Q d;rw[O.out r2 (by omega)]at f
   grind
  have q3:uQ lt M e G:=r3.out O (.inr (ai _));have q4:uQ lt e b G:=r4.out O (.inr (by omega));refine zB ((show Wp _ (fun c:Bool×List α=>c.2=G/\(c.1=true->M<e/\e<b)/\(c.1=false->M=e\/e=b))from ?_).mono ?_)
  .refine zP (fun h=>zA ⟨rfl,(fun g=>?_),fun g=>?_⟩) (fun h=>zA ⟨rfl,(fun g=>by cases g),fun _=>?_⟩);all_goals grind
  .rintro⟨c,vs⟩ ⟨hv,ht,hf⟩;simp only at hv ht hf;subst hv;refine zH (fun h=>?_) (fun h=>?_)
   .obtain⟨K,E⟩:=ht h;refine zH (fun _=>zB ((ih vs M e b K E (by omega) (by omega) (by omega) q3 q4).mono (fun y d=>?_))) (fun h=>absurd h (by rw[ci];decide));exact zH (fun _=>zA (b4 _ d.1 d.2)) (fun h=>absurd h (by rw[zVT (d.1.len.trans J)];decide))
   .refine zH (fun _=>zA (b4 _ (zAL.refl _ _ _) ?_)) (fun h=>absurd h (by grind[zVT]));exact zL2 q3 q4 (fun q F x y t g D Q l d=>by have:=hf h;omega)
end
section
variable {α κ:Type}{cmp:α×α×Unit->Option Int}{lt:α->α->Prop}{key:α->κ}
def zOk(lt:α->α->Prop)(lo i j:Nat)(xs:List α):Prop:= ∀p q x y,lo<=p->p<q->q<=i->q≠j->xs[p]?=Sa x->xs[q]?=Sa y->¬lt y x
variable {i:List α}{g:Nat}
theorem zWC{xs:Nat}(h:uQ lt g xs i):zOk lt g xs xs i:=fun p q x y a c f lo d e=>h p q x y a c (by omega) d e
theorem zYO(l:Ord lt){xs j:Nat}(h:zOk lt g xs j i)(n:j<=xs)(m:g<=j)(d:j=g\/∀x y,i[j]?=Sa x->i[j-1]?=Sa y->¬lt x y):uQ lt g (xs+1) i:=by
 intro p q x y a e r lo f;by_cases c:q=j
 .subst c;rcases d with d|d
  .omega
  .by_cases t:p=q-1
   .grind
   .have u:=(aa.1 f).1;have k:i[q-1]?=Sa (i[q-1]'(by omega)):=by simp
    exact l.tr _ _ _ (h p (q-1) x _ a (by omega) (by omega) (by omega) lo k) (d y _ f k)
 .exact h p q x y a e (by omega) c lo f
theorem zYN(r:Ord lt){xs j:Nat}(h:zOk lt g xs j i)(F:g<j)(t:j<=xs)(hi:xs<i.length)(hlt:lt (i[j]'(by omega)) (i[j-1]'(by omega))):
  zOk lt g xs (j-1) ((i.set j (i[j-1]'(by omega))).set (j-1) (i[j]'(by omega))):=by
 have u:j<i.length:=by omega
 have A:i[j]?=Sa i[j]:=by simp
 have n:i[j-1]?=Sa (i[j-1]'(by omega)):=by simp
 have a:∀m z,((i.set j (i[j-1]'(by omega))).set (j-1) (i[j]'(by omega)))[m]?=Sa z->(m=j-1/\z=i[j])\/(m=j/\z=i[j-1]'(by omega))\/(m≠j/\m≠j-1/\i[m]?=Sa z):=by
  grind
 intro p q x y e f k B d C;rcases a q y C with⟨lo,_⟩|⟨rfl,rfl⟩|⟨l,G,c⟩
 .omega
 .rcases a p x d with⟨rfl,rfl⟩|⟨lo,_⟩|⟨D,E,d⟩
  .exact r.asym _ _ hlt
  .omega
  .exact h p (q-1) x _ e (by omega) (by omega) (by omega) d n
 .rcases a p x d with⟨rfl,rfl⟩|⟨rfl,rfl⟩|⟨D,E,d⟩
  .exact h j q _ y (by omega) (by omega) k l A c
  .exact h (p-1) q _ y (by omega) (by omega) k l n c
  .exact h p q x y e f k l d c
theorem qBa(c:zP7 lt key){xs:List α}(d:0<g)(a:g<xs.length)(hlt:lt xs[g] (xs[g-1]'(by omega))):
  zAL key (g-1) (g+1) xs ((xs.set g (xs[g-1]'(by omega))).set (g-1) xs[g]):=by
 have e:=xB a;have f:=xB (xs:=xs) (i:=g-1) (by omega);refine zNh c (m:=g) (by omega) (by omega) (by omega) (by simp) (zTQ (m:=g) (k:=g) d (ai _) a rfl (fun k=>(zWT k).symm) e f) ?_
 grind
theorem zFg(G:zP7 lt key)(t:∀x y,Wp (cmp (x,y,())) (fun c=>c<0↔lt x y))(xs:List α)(a b:Nat)(N:a<=b)(S:b<=xs.length)(W:xs.length<1099511627776):
  Wp (zBn cmp xs ((a:Int),(b:Int),(),())) (fun r=>zAL key a b xs r.1/\uQ lt a b r.1):=by
 have H:=G.ord;unfold zBn;dsimp only;rw[zJ (by omega) (by omega)]
 refine kY (fun s:Int×List α=>zAL key a b xs s.2/\∃i:Nat,s.1=(i:Int)/\a+1<=i/\(i<=b\/i=a+1)/\uQ lt a i s.2) (fun s=>((b:Int) -s.1).toNat)
  ⟨zAL.refl _ _ _,a+1,by simp only;omega,ai _,.inr rfl,qBg⟩ ?_
 rintro⟨s,E⟩ ⟨l,i,I,O,P,n⟩;simp only at I l n;subst I;have u:E.length=xs.length:=l.len;refine zP (fun hlt=>?_) (fun z=>?_)
 .have hlt:(i:Int)< (b:Int):=hlt;refine zB ((show Wp _ (fun g:List α=>zAL key a b E g/\uQ lt a (i+1) g)from ?_).mono (fun g A=>zA (e2l ⟨⟨l.trans A.1,i+1,?_,by omega,.inl (by omega),A.2⟩,?_⟩)))
  .refine kY (fun s:Int×List α=>zAL key a b E s.2/\∃j:Nat,s.1=(j:Int)/\a<=j/\j<=i/\zOk lt a i j s.2) (fun s=>s.1.toNat) ⟨zAL.refl _ _ _,i,rfl,by omega,ai _,zWC n⟩ ?_;rintro⟨s,g⟩ ⟨f,j,J,F,B,p⟩;simp only at J f p;subst J;have Q:g.length=xs.length:=f.len.trans u;refine zB ((show Wp _ (fun c:Bool×List α=>c.2=g/\(c.1=true->a<j/\∀x y,g[j]?=Sa x->g[j-1]?=Sa y->lt x y)/\(c.1=false->j=a\/∀x y,g[j]?=Sa x->g[j-1]?=Sa y->¬lt x y))from ?_).mono ?_)
   .refine zP (fun k=>?_) (fun k=>zA ⟨rfl,(fun h=>by cases h),fun _=>.inl ?_⟩)
    .have k:(j:Int)>(a:Int):=k;have d:=xB (xs:=g) (i:=j) (by omega);have e:=xB (xs:=g) (i:=j-1) (by omega);dsimp only;rw[zJ (by omega) (by omega),show((j:Int) -1)=((j-1:Nat):Int) by omega];simp[zO d,zO e,yG d,yG e];refine zB ((t _ _).mono (fun c Y=>zA ⟨rfl,(fun h=>⟨by omega,?_⟩),fun h=>.inr ?_⟩));all_goals grind
    omega
   .rintro⟨c,C⟩ ⟨K,L,M⟩;simp only at K L M;subst K;refine zH (fun q=>?_) (fun q=>zA (e2r ⟨f,zYO H p B F (M q)⟩));obtain⟨k,m⟩:=L q;have d:=xB (xs:=C) (i:=j) (by omega);have e:=xB (xs:=C) (i:=j-1) (by omega)
    have D:(C.set j (C[j-1]'(by omega)))[j-1]?=Sa (C[j-1]'(by omega)):=by
     grind
    dsimp only;rw[zJ (by omega) (by omega),show((j:Int) -1)=((j-1:Nat):Int) by omega];simp[zO d,zO e,yG d,yG e,zO D,yG D];refine zA (e2l ⟨⟨f.trans ((qBa G (by omega) (by omega) (m _ _ d e)).mono (by omega) (by omega)),j-1,rfl,by omega,by omega,zYN H p k B (by omega) (m _ _ d e)⟩,?_⟩);simp only;omega
  all_goals grind[zJ]
 .have z:¬(i:Int)< (b:Int):=z;exact zIb (zH (fun _=>zA (e2r ⟨l,n.sub (ai _) (by omega)⟩)) (fun h=>absurd h (by simp_all)))
def zV4(lt:α->α->Prop)(a n:Nat)(xs:List α):Prop:= ∀j,uQ lt (j*a) (min ((j+1)*a) n) xs
theorem zUT(S:zP7 lt key)(i:∀x y,Wp (cmp (x,y,())) (fun c=>c<0↔lt x y))(xs:List α)(hl:xs.length<=1048576):
  Wp (zM2 cmp xs ((xs.length:Int),(),())) (fun r=>zAL key 0 xs.length xs r.1/\uQ lt 0 xs.length r.1):=by
 unfold zM2;dsimp only;generalize hn:xs.length=n at hl;refine zB ((show Wp _ (fun s:List α×Int=>zAL key 0 n xs s.1/\∃t:Nat,s.2=((20*t:Nat):Int)/\20*t<=n/\n<20*t+20/\∀j,j<t->uQ lt (j*20) ((j+1)*20) s.1)from ?_).mono ?_)
 .refine kY (fun s:Int×List α×Int=>zAL key 0 n xs s.2.1/\∃t:Nat,s.1=((20*t+20:Nat):Int)/\s.2.2=((20*t:Nat):Int)/\20*t<=n/\∀j,j<t->uQ lt (j*20) ((j+1)*20) s.2.1) (fun s=>((n:Int)+20-s.1).toNat)
   ⟨zAL.refl _ _ _,0,rfl,rfl,aW _,fun j I=>by omega⟩ ?_
  rintro⟨sb,Z,sa⟩ ⟨g,t,u,d,G,k⟩;simp only at u d g k;subst u d;have ab:=g.len;refine zP (fun h=>?_) (fun h=>zA (e2r ⟨g,t,rfl,G,?_,k⟩))
  .have h:((20*t+20:Nat):Int)<=(n:Int):=h;refine zH (fun _=>?_) (fun h=>absurd h (by simp_all));refine zB ((zFg S i Z (20*t) (20*t+20) (by omega) (by omega) (by omega)).mono (fun y m=>zA (e2l ⟨⟨g.trans (m.1.mono (by omega) (by omega)),t+1,?_,?_,by omega,?_⟩,?_⟩)))
   .grind[zJ]
   .simp only;omega
   .intro j I;by_cases e:j=t
    .grind
    .exact(k j (by omega)).out m.1 (.inl (by omega))
   grind[zJ]
  omega
 rintro⟨Z,sa⟩ ⟨g,t,d,G,ag,k⟩;simp only at d g k;subst d;have ab:=g.len;refine zH (fun _=>?_) (fun h=>absurd h (by simp_all));refine zB ((zFg S i Z (20*t) n G (by omega) (by omega)).mono (fun y m=>?_))
 have hB:zV4 lt 20 n y.1:=by
  intro j;by_cases e:j<t
  .rw[cu (by omega)];exact(k j e).out m.1 (.inl (by omega))
  .by_cases e2:j=t
   .grind
   .intro p q x y' h1 B h3;omega
 have K:zAL key 0 n xs y.1:=g.trans (m.1.mono (by omega) (ai _));refine kY (fun s:Int×List α=>zAL key 0 n xs s.2/\∃a:Nat,s.1=(a:Int)/\20<=a/\a<=2097152/\zV4 lt a n s.2) (fun s=>((n:Int) -s.1).toNat) ⟨K,20,rfl,ai _,by omega,hB⟩ ?_;rintro⟨ap,ws⟩ ⟨W,a,L,al,an,z⟩;simp only at L W z;subst L;have M:=W.len;refine zP (fun h=>?_) (fun h=>?_)
 .have h:(a:Int)< (n:Int):=h;dsimp only;rw[zJ (x:=(2:Int)*(a:Int)) (by omega) (by omega)];refine zB ((show Wp _ (fun s:Int×List α=>zAL key 0 n ws s.2/\∃t:Nat,s.1=((t*(2*a):Nat):Int)/\t*(2*a)<=n/\n< (t+1)*(2*a)/\(∀j,j<t->uQ lt (j*(2*a)) ((j+1)*(2*a)) s.2)/\∀j,2*t<=j->uQ lt (j*a) (min ((j+1)*a) n) s.2)from ?_).mono ?_)
  .refine kY (fun s:Int×List α×Int=>zAL key 0 n ws s.2.1/\∃t:Nat,s.1=(((t+1)*(2*a):Nat):Int)/\s.2.2=((t*(2*a):Nat):Int)/\t*(2*a)<=n/\(∀j,j<t->uQ lt (j*(2*a)) ((j+1)*(2*a)) s.2.1)/\∀j,2*t<=j->uQ lt (j*a) (min ((j+1)*a) n) s.2.1) (fun s=>((n:Int)+2*(a:Int) -s.1).toNat)
    ⟨zAL.refl _ _ _,0,by simp only;omega,by simp,by omega,fun j I=>by omega,fun j _=>z j⟩ ?_
   rintro⟨sb,H,sa⟩ ⟨F,t,u,d,ao,l,f⟩;simp only at u d F l f;subst u d;have ad:H.length=n:=by rw[F.len,M,hn]
   have Y:(t+1)*(2*a)=t*(2*a)+2*a:=bE _ _;have eA:2*t*a=t*(2*a):=by grind
   have eB:(2*t+1)*a=t*(2*a)+a:=by grind
   have eC:(2*t+2)*a=t*(2*a)+2*a:=by grind
   generalize hA:t*(2*a)=A at*
   refine zP (fun B=>?_) (fun B=>zA (e2r ⟨F,t,by rw[hA],by omega,?_,l,f⟩))
   .have B:(((t+1)*(2*a):Nat):Int)<=(n:Int):=B;rw[Y]at B ⊢;refine zH (fun _=>?_) (fun h=>absurd h (by grind));dsimp only;rw[zJ (x:=(A:Int)+(a:Int)) (by omega) (by omega),show((A:Int)+(a:Int))=((A+a:Nat):Int) by omega];have J:=f (2*t) (ai _);have N:=f (2*t+1) (by omega);rw[show 2*t+1+1=2*t+2 from rfl,eC,eB,cu (by omega)]at N;rw[eB,eA,cu (by omega)]at J;unfold zHA;refine zB ((zHB S i 1048576 H A (A+a) (A+2*a) (by omega) (by omega) (by omega) (by omega) (by omega) J N).mono (fun y m=>zA (e2l ⟨⟨F.trans (m.1.mono (by omega) (by omega)),t+1,?_,?_,?_,?_,?_⟩,?_⟩)))
    .simp only;rw[zJ (by omega) (by omega),show(t+1+1)*(2*a)=A+2*a+2*a by grind];omega
    .grind
    .rw[Y];omega
    .intro j I;by_cases e:j=t
     .grind
     .refine(l j (by omega)).out m.1 (.inl ?_);have:(j+1)*(2*a)<=t*(2*a):=aq _ (by omega);omega
    .intro j I;refine(f j (by omega)).out m.1 (.inr ?_);have:(2*t+2)*a<=j*a:=aq _ (by omega);omega
    grind[zJ]
   omega
  rintro⟨sa,H⟩ ⟨F,t,d,av,ax,l,f⟩;simp only at d F l f;subst d;have ad:H.length=n:=by rw[F.len,M,hn]
  have Y:(t+1)*(2*a)=t*(2*a)+2*a:=bE _ _;have eA:2*t*a=t*(2*a):=by grind
  have eB:(2*t+1)*a=t*(2*a)+a:=by grind
  have eC:(2*t+2)*a=t*(2*a)+2*a:=by grind
  have J:=f (2*t) (ai _);have N:=f (2*t+1) (by omega);rw[show 2*t+1+1=2*t+2 from rfl,eC,eB,Nat.min_eq_right (by omega)]at N;rw[eB,eA]at J;have C:∀j,j<t->(j+1)*(2*a)<=t*(2*a):=fun j I=>aq _ (by omega);have D:∀j,t<j->t*(2*a)+2*a<=j*(2*a):=fun j I=>by rw[<-Y];exact aq _ (by omega)
  generalize hA:t*(2*a)=A at*
  have O:∀E,zAL key A n H E->uQ lt A n E->zAL key 0 n xs E/\zV4 lt (a*2) n E:=by
   intro E P ay;refine⟨(W.trans F).trans (P.mono (by omega) (ai _)),?_⟩;intro j;rw[show a*2=2*a by omega];by_cases e:j<t
   .have:=C j e;rw[cu (by omega)];exact(l j e).out P (.inl this)
   .by_cases e2:j=t
    .grind
    .have:=D j (by omega);intro p q x y' h1 B h3;omega
  dsimp only;rw[zJ (x:=(A:Int)+(a:Int)) (by omega) (by omega),show((A:Int)+(a:Int))=((A+a:Nat):Int) by omega];refine zB ((show Wp _ (fun E:List α=>zAL key 0 n xs E/\zV4 lt (a*2) n E)from ?_).mono (fun E Q=>zA (e2l ⟨⟨Q.1,a*2,?_,by omega,by omega,Q.2⟩,?_⟩)))
  .refine zP (fun B=>?_) (fun B=>zA (O H (zAL.refl _ _ _) ?_))
   .have B:((A+a:Nat):Int)< (n:Int):=B;rw[cu (by omega)]at J;refine zH (fun _=>?_) (fun h=>absurd h (by grind));unfold zHA;exact zB ((zHB S i 1048576 H A (A+a) n (by omega) (by omega) (by omega) (by omega) (by omega) J N).mono (fun y m=>zA (O _ m.1 m.2)))
   grind
  all_goals grind[zJ]
 .have h:¬(a:Int)< (n:Int):=h;refine zIb (zH (fun _=>zA (e2r ⟨W,?_⟩)) (fun h=>absurd h (by grind)));have:=z 0
  grind
theorem zOx(g:zP7 lt key)(a:∀x y,Wp (cmp (x,y,())) (fun c=>c<0↔lt x y))(xs:List α)(i:xs.length<=1048576):
  Wp (zGP cmp xs ((),())) (fun r=>r.1.length=xs.length/\zJa key xs r.1/\r.1.Pairwise (fun x y=>¬lt y x)):=by
 unfold zGP;dsimp only;refine zH (fun _=>?_) (fun h=>absurd h (by simp_all));refine zB ((zUT g a xs i).mono (fun y d=>?_));refine zH (fun _=>zA ⟨d.1.len,d.1.same,?_⟩) (fun h=>absurd h (by rw[zVT d.1.len];decide));rw[aY];intro p q j f e;have:=d.1.len;have f:q<y.1.length:=f;exact d.2 p q _ _ (aW _) e (by omega) (by simp) (by simp)
end
theorem zKq:∀(c d:List (Ty.El zQ)),d.Pairwise hlt->(c.foldl zIR d).Pairwise hlt/\∀h,h∈c.foldl zIR d↔h∈d\/h∈c
 |[],d,f=>⟨f,fun h=>by simp⟩
 |x::c,d,f=>by
  have g:∀a b:Ty.El zQ,zTm a b=true↔a=b:=fun a b=>⟨fun h=>zJL h,fun h=>by grind[zTm]⟩
  have i:(zIR d x).Pairwise hlt:=zJ0 zGX (fun _ _=>qDP) g (fun a b i j=>zZi i (fun e=>j e.symm)) f;obtain⟨j,k⟩:=zKq c (zIR d x) i;simp_all[zNK,or_assoc,zIR]
theorem zNL{p:Ty.El zD}{b:Ty.El zC}:∀(l:List (Ty.El zC)) (a:List (Ty.El zQ)),a.Pairwise hlt->
  (l.foldl (zBS p b) a).Pairwise hlt/\∀h,h∈l.foldl (zBS p b) a↔h∈a\/∃x,x∈l/\x.1=p/\zCA x b=0/\h∈x.2.2.2.2.2.2.2.2.2.2.2.1
 |[],a,c=>⟨c,fun h=>by simp⟩
 |x::l,a,c=>by
  cases k:zBW x.1 p&&(zCA x b==0)with
  |true=>
   have d:zBS p b a x=x.2.2.2.2.2.2.2.2.2.2.2.1.foldl zIR a:=by grind[zBS]
   have e:x.1=p/\zCA x b=0:=by simp_all[uT]
   obtain⟨g,j⟩:=zKq x.2.2.2.2.2.2.2.2.2.2.2.1 a c;rw[<-d]at g j;obtain⟨f,i⟩:=zNL l (zBS p b a x) g;refine⟨f,fun h=>?_⟩
   grind
  |false=>
   have d:zBS p b a x=a:=by grind[zBS]
   have e:¬(x.1=p/\zCA x b=0):=by
    grind[uT]
   obtain⟨f,i⟩:=zNL l a c;rw[dF,d];refine⟨f,fun h=>?_⟩;rw[i h];constructor;all_goals grind
theorem zAV(l:List (Ty.El zC))(p:Ty.El zD)(b:Ty.El zC):(zEb l p b).Pairwise hlt:=(zNL l [] List.Pairwise.nil).1
theorem zBo(l:List (Ty.El zC))(p:Ty.El zD)(b:Ty.El zC)(h:Ty.El zQ):h∈zEb l p b↔ ∃x,x∈l/\x.1=p/\zCA x b=0/\h∈x.2.2.2.2.2.2.2.2.2.2.2.1:=by have:=(zNL (p:=p) (b:=b) l [] List.Pairwise.nil).2 h;rw[show zEb l p b=l.foldl (zBS p b) []from rfl,this];simp
noncomputable def zBR(p:Ty.El zD)(l:List (Ty.El zC)):List (Ty.El zC):=zOZ (fun x:Ty.El zC=>x.1) p l
theorem zY6(p:Ty.El zD)(x:Ty.El zC)(l:List (Ty.El zC)):zBR p (x::l)=if x.1=p then x::zBR p l else zBR p l:=by
 grind[zBR,zOZ]
theorem zFP{p:Ty.El zD}{x:Ty.El zC}{l:List (Ty.El zC)}:x∈zBR p l↔x∈l/\x.1=p:=by
 grind[zBR,zOZ]
def zOf(c:Option (Ty.El zC))(l:List (Ty.El zC)):Option (Ty.El zC):=l.foldl (fun c x=>bif qCo x c then Sa x else c) c
theorem zGp{p:Ty.El zD}:∀(l:List (Ty.El zC)) (c:Option (Ty.El zC)),l.foldl (zP2 p) c=zOf c (zBR p l)
 |[],c=>rfl
 |x::l,c=>by
  rw[dF,zY6];by_cases h:x.1=p
  .rw[if_pos h];have a:zP2 p c x=bif qCo x c then Sa x else c:=by grind[uT,zP2]
   rw[a,zGp l];rfl
  .rw[if_neg h];have d:zBW x.1 p=false:=by simp_all[Bool.eq_false_iff,uT]
   have a:zP2 p c x=c:=by grind[zP2]
   rw[a,zGp l]
theorem zIO(l:List (Ty.El zC))(p:Ty.El zD):zE8 l p=zOf none (zBR p l):=zGp l none
variable {g:List (Ty.El zC)}
theorem zXj{a:List (Ty.El zC)}(h:zJa (fun x:Ty.El zC=>x.1) g a):zBY g=zBY a:=by
 have e:∀x,x∈g↔x∈a:=by
  intro x;have f:= @zFP x.1 x g;have l:= @zFP x.1 x a;have i:zBR x.1 g=zBR x.1 a:=h x.1
  grind
 have c:zW4 g=zW4 a:=zD2 zKC (zJM g) (zJM a) (fun p=>by
  grind[zW3])
 unfold zBY;rw[c];congr 1;funext p;unfold mrg;have d:zE8 g p=zE8 a p:=by rw[zIO,zIO];exact congrArg (zOf none) (h p)
 rw[d]
 cases zE8 a p with
 |none=>rfl
 |some b=>
  have j:zEb g p b=zEb a p b:=zD2 zGX (zAV _ _ _) (zAV _ _ _) (fun k=>by
   rw[zBo,zBo]
   grind)
  grind
def kP{α:Type}(eq:α->α->Bool):List α->List α
 |[]=>[]
 |[x]=>[x]
 |x::y::r=>bif eq x y then kP eq (y::r)else x::kP eq (y::r)
theorem zDq{α:Type}{eq:α->α->Bool}(c:∀x y,eq x y=true↔x=y)(z:α):∀(l:List α),z∈kP eq l↔z∈l
 |[]=>cI
 |[x]=>cI
 |x::y::r=>by
  simp only[kP]
  cases h:eq x y with
  |true=>
   rw[cond_true,zDq c z (y::r),(c x y).1 h];simp
  |false=>rw[cond_false,bi,zDq c z (y::r),bi (a:=z) (b:=x)]
theorem zE4{α:Type}{eq:α->α->Bool}{R:α->α->Prop}(i:∀x y,eq x y=true↔x=y)(k:Ord R)(a:∀x y,¬R y x->x≠y->R x y):∀(l:List α),l.Pairwise (fun x y=>¬R y x)->(kP eq l).Pairwise R
 |[],_=>List.Pairwise.nil
 |[x],_=>cT _ _
 |x::y::r,c=>by
  have m:=c;rw[bt]at c;have j:=zE4 i k a (y::r) c.2;simp only[kP]
  cases h:eq x y with
  |true=>exact j
  |false=>
   rw[cond_false,bt];refine⟨fun z n=>?_,j⟩;have d:x≠y:=fun e=>by grind
   have f:R x y:=a x y (c.1 y (by simp)) d;have g:=(zDq i z (y::r)).1 n;rcases bi.1 g with rfl|p
   .exact f
   .have q:¬R z y:=by simp_all
    grind
theorem zJ2(a b:Ty.El zQ):zTm a b=true↔a=b:=⟨fun h=>zJL h,fun h=>by grind[zTm]⟩
theorem zVs{p:Ty.El zD}{b:Ty.El zC}{a:List (Ty.El zQ)}(c:a.Pairwise (fun x y=>¬hlt y x))(d:∀h,h∈a↔ ∃x,x∈g/\x.1=p/\zCA x b=0/\h∈x.2.2.2.2.2.2.2.2.2.2.2.1):
  kP zTm a=zEb g p b:=
 zD2 zGX (zE4 zJ2 zGX (fun _ _ e f=>zZi e f) a c) (zAV g p b) (fun h=>by rw[zDq zJ2,d,zBo])
theorem zVp:jS=zBn z8:=rfl
theorem zUQ:∀n,jK n=zCv z8 n:=by
 intro n
 induction n with
 |zero=>rfl
 |succ n a=>show zAg (jK n)=zJw z8 (zCv z8 n);rw[a];rfl
theorem zWn:vD=zHA z8:=zUQ 1048576
theorem qBc:vT=zM2 z8:=by unfold vT zM2;rw[zWn,zVp]
theorem zS1:vL=zGP z8:=by unfold vL zGP;rw[qBc]
theorem qBF:zP7 rlt (fun x:Ty.El zC=>x.1) where
 ord:=qAv
 ne:=fun x y h e=>by unfold rlt at h;rw[e]at h;exact zKC.asym _ _ h h
theorem qGS(x y:Ty.El zC):Wp (z8 (x,y,())) (fun c=>c<0↔rlt x y):=by unfold z8;dsimp only;exact zB (zM (zNa _ _) (zA zQY))
theorem zQc(l:List (Ty.El zC))(a:l.length<=1048576):
  Wp (vL l ((),())) (fun r=>r.1.length=l.length/\zJa (fun x:Ty.El zC=>x.1) l r.1/\r.1.Pairwise (fun x y=>¬rlt y x)):=by
 rw[zS1];exact zOx qBF qGS l a
end Go.Ve

namespace Go.Ve
open Go
theorem zPO{α β:Type}{f:α->List β}{k:Nat}:∀{xs:List α},(∀x,x∈xs->(f x).length<=k)->(xs.flatMap f).length<=xs.length*k
 |[],_=>by simp
 |x::xs,h=>by have c:=h x (by simp);have d:=zPO (xs:=xs) (fun y a=>h y (aw _ a));simp only[List.flatMap_cons,aN,aH,bE];omega
theorem zVu{α β:Type}{f:α->List β}{xs:List α}{i:Nat}{x:α}(h:xs[i]?=Sa x):(xs.take (i+1)).flatMap f=(xs.take i).flatMap f++f x:=by rw[bS,h,List.flatMap_append];simp
theorem zNC{v:Ty.El zF}(a:zGt v)(r i:Int)(p:Ty.El zS->Bool):(zHQ v r i p).length<=360:=by
 unfold zHQ;cases upB v r i
 .exact aW _
 .exact aj (cL _ _) (zSq a r i)
end Go.Ve


namespace Go.Ve
open Go
def qHr(v:Ty.El zF)(e:Ty.El zS):Option Int:=match v.1.1[Int.toNat e.1]? with
 |some q=>match q.2.2.1[Int.toNat e.2.1]? with
  |some y=>Sa y.2.1
  |none=>none
 |none=>none
end Go.Ve




