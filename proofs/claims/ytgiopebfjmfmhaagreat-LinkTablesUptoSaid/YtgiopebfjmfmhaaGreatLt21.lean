/- law16 -/
import Derived.Test.YtgiopebfjmfmhaaGreatLt17
import Derived.Test.YtgiopebfjmfmhaaGreatLt13
import Derived.Test.YtgiopebfjmfmhaaGreatLt18
set_option linter.unusedVariables false
open Option renaming some->Sa
set_option maxRecDepth 1000000
set_option maxHeartbeats 4000000
namespace Go.Ve
open Go
variable {g l:List (Ty.El zC)}{j:Ty.El zD}
theorem zUI(h:zBY j g=zBY j l):mrg g j=mrg l j:=by
 have d:∀x,(x∈g/\x.1=j)↔(x∈l/\x.1=j):=fun x=>by rw[<-zF1,<-zF1,h]
 unfold mrg
 have c:zFl g j=zFl l j:=by
  grind[zI6]
 rw[c]
 cases zFl l j with
 |none=>rfl
 |some b=>
  have e:zCz g j b=zCz l j b:=zEg zHb (zAb _ _ _) (zAb _ _ _) (fun f=>by
   rw[xA,xA]
   grind)
  grind
theorem zN4(p:Ty.El zD)(a b:List (Ty.El zC)):zBY p (a++b)=zBY p a++zBY p b:=by
 grind[zBY,zPx]
theorem zSr{l:List (Ty.El zC)}(h:∀x,x∈l->x.1≠j):zBY j l=[]:=by
 grind[List.filter_eq_nil_iff,zBY,zPx]
theorem qCd(h:∀x,x∈g->x.1=j):zBY j g=g:=by
 grind[List.filter_eq_self,zBY,zPx]
variable {i:Ty.El zC}
theorem qAA{c:Option (Ty.El zC)}{l:Nat}(h:g[l]?=Sa i):zOK c (g.take (l+1))=(bif qC4 i (zOK c (g.take l))then Sa i else zOK c (g.take l)):=by
 grind[List.take_add_one,Option.toList_some,zOK]
def zOh(b:Ty.El zC)(l:List (Ty.El zC)):List (Ty.El zP):=l.flatMap (fun x=>bif zCK x b==0 then x.2.2.2.2.2.2.2.2.2.2.2.1 else[])
theorem zRP(xs:List (Ty.El zP)):((if xs=[]then[]else srt zOi xs):List (Ty.El zP)).Pairwise (fun x y=>¬hlt y x)/\(∀h,h∈(if xs=[]then[]else srt zOi xs)↔h∈xs)/\(if xs=[]then[]else srt zOi xs).length=xs.length:=by
 by_cases d:xs=[]
 .simp_all
 .rw[if_neg d];obtain⟨e,f,g⟩:=zW7 zRo xs;refine⟨?_,fun h=>e.mem_iff,f⟩;rw[aT];intro i j k l a c;have:=g i j _ _ a (ah k) (ah l)
  grind[zRq]
theorem zLk(g:List (Ty.El zC))(p:Ty.El zD)(M:g≠[])(N:∀x,x∈g->x.1=p)(A:∀x,x∈g->RtS x)(hl:g.length<=524288)(H:∀x y,x∈g->y∈g->zAO (x,y,())=Sa (zCK x y)):
  Wp (zDd (g,())) (fun z=>mrg g p=Sa z):=by
 obtain⟨a,r,rfl⟩:∃a r,g=a::r:=by
  cases g with
  |nil=>grind
  |cons y r=>grind
 unfold zDd;dsimp only;have O:idx (a::r) (0:Int)=Sa a:=rfl;have q:sub (a::r) (1:Int) ((List.length (a::r):Nat):Int)=Sa r:=by have:=qDs (xs:=a::r) (k:=1) (by simp);simpa using this
 have P:r.length<=524288:=by grind
 refine zB (zK O ?_);refine zB (Wp.mono (Q:=fun b=>zOK (Sa a) r=Sa b/\b∈a::r) ?_ ?_)
 .refine zB (zK q ?_);refine uO (xs:=r) (by omega) (fun i (b:Ty.El zC)=>zOK (Sa a) (r.take i)=Sa b/\b∈a::r) ⟨rfl,by simp⟩ ?_ (fun b t=>by grind);rintro i x b d ⟨t,e⟩;have j:x∈a::r:=aw _ (ae d);simp only[zM d,af];refine zB (zK (H x b j e) ?_);rw[qAA d,t];refine zO (fun h=>zA ⟨?_,j⟩) (fun h=>zA ⟨?_,e⟩);all_goals grind[decide_eq_true,decide_eq_false,qC4]
 .rintro b ⟨t,e⟩;have m:zFl (a::r) p=Sa b:=by rw[zI6,qCd N];exact t
  have C:=A b e
  have l:∀i,i<=(a::r).length->(zOh b ((a::r).take i)).length<=i*1048576:=by
   intro i I
   have:=zQn (xs:=(a::r).take i) (f:=fun x:Ty.El zC=>bif zCK x b==0 then x.2.2.2.2.2.2.2.2.2.2.2.1 else[]) (k:=1048576) (fun x d=>by
    have:=(A x (dy d)).hops
    grind)
   rw[bT,ci I]at this;exact this
  refine zB ((show Wp _ (fun c:List (Ty.El zP)=>c=zOh b (a::r))from ?_).mono (fun c u=>?_))
  .refine uO (xs:=a::r) (by omega) (fun i (h:List (Ty.El zP))=>h=zOh b ((a::r).take i)) rfl ?_ (fun h u=>by grind);intro i x h d u;have I:=(aa.1 d).1;have j:x∈a::r:=ae d;have S:=(A x j).hops;have W:h.length<=i*1048576:=by grind
   simp only[zM d,af];refine zB (zK (H x b j e) ?_);have D:zOh b ((a::r).take (i+1))=h++(bif zCK x b==0 then x.2.2.2.2.2.2.2.2.2.2.2.1 else[]):=by rw[u];exact zV8 d
   rw[D];refine zF (fun E=>?_) (fun E=>zA ?_)
   .rw[E];exact zB (xZ (by omega) (zA rfl))
   grind
  .have J:c.length<=549755813888:=by
    have:=l (a::r).length (aj _)
    grind
   obtain⟨K,L,Y⟩:=zRP c;refine tt (b9 _) ?_
   have Z:jG c ((),())=Sa (if c=[]then[]else srt zOi c,()):=by
    unfold jG
    grind
   refine zB (zK Z ?_);generalize (if c=[]then[]else srt zOi c)=n at K L Y
   have e2:jB n ()=Sa (kR zTY n):=by
    unfold jB
    grind
   refine zB (zK e2 ?_)
   have F:kR zTY n=zCz (a::r) p b:=by
    refine zV6 K (fun h=>?_);rw[L,u];unfold zOh;rw[bR];constructor
    .rintro⟨x,d,ab⟩
     cases E:zCK x b==0 with
     |false=>grind
     |true=>
      grind
    grind
   have G:=C.path;have e3:zBG (b.2.2.2.2.2.2.2.2.1,())=Sa b.2.2.2.2.2.2.2.2.1:=by refine jS ?_;unfold zBG;exact zB (xZ (by grind) (zA rfl))
   refine zB (zK e3 (zA ?_));unfold mrg;rw[m,F];obtain⟨⟨a1,a2,⟨⟩⟩,b⟩:=b;rfl
theorem zIM:i∈zBs g↔ ∃q,(∃x,x∈g/\x.1=q)/\mrg g q=Sa i:=by
 grind[zXH,zBs]
theorem zVX{a:List (Ty.El zC)}{p:Ty.El zD}(B:∀x,x∈g->plt x.1 p)(n:∀x,x∈a->x.1=p)(z:a≠[])(r:mrg a p=Sa i):zBs (g++a)=zBs g++[i]:=by
 have j:∀q:Ty.El zD,¬plt q q:=fun q h=>zK0.asym _ _ h h;have d:∀x,x∈g->x.1≠p:=fun x c e=>by grind
 have t:i.1=p:=zVV r
 have C:∀q,q≠p->mrg (g++a) q=mrg g q:=fun q f=>zUI (by
  rw[zN4,zSr (l:=a) (fun x c e=>f (e.symm.trans (n x c))),cj])
 have D:mrg (g++a) p=mrg a p:=zUI (by rw[zN4,zSr d,dE]);refine zEg qBc (zHw _) ?_ ?_
 .rw[bX];refine⟨zHw g,cO _ _,?_⟩;intro x c y k;rw[aK]at k;subst k;obtain⟨q,⟨E,u,f⟩,m⟩:=zIM.1 c
  grind[zVV,rlt]
 .intro y;rw[aU,aK,zIM,zIM];constructor
  .rintro⟨q,⟨x,c,f⟩,m⟩;by_cases A:q=p;all_goals grind
  .rintro(⟨q,⟨x,c,f⟩,m⟩|rfl)
   .grind
   .obtain⟨x,c⟩:=List.exists_mem_of_ne_nil a z
    grind
theorem zMK(l:List (Ty.El zC)):(zBs l).length<=l.length:=ai (bL _ _) (qD3 l)
theorem zEe(l:List (Ty.El zC))(hl:l.length<=524288)(hs:∀x,x∈l->RtS x)(hP:∀x y,x∈l->y∈l->zAO (x,y,())=Sa (zCK x y)):
  Wp (zCH (l,())) (fun r=>r=zBs l):=by
 unfold zCH;dsimp only;have e0:zAN (l,())=Sa l:=by refine jS ?_;unfold zAN;exact zB (xZ (by grind) (zA rfl))
 refine zB (zK e0 ?_);refine tt (by simp) ?_;refine zB ((show Wp (uS l ((),())) _ from zQL l (by omega)).mono ?_);rintro⟨s,⟨⟩⟩ ⟨O,d,D⟩;simp only at O d D;rw[zXW d]
 have P:∀x,x∈s->x∈l:=by
  intro x N;have B:= @zF1 x.1 x l;have h2:= @zF1 x.1 x s;have h3:zBY x.1 l=zBY x.1 s:=d x.1
  grind
 have hn:s.length<=524288:=by omega
 have m:=aT.1 D;refine zB ((show Wp _ (fun r=>r=zBs s)from ?_).mono (fun r hr=>zA hr))
 refine uA (fun q:Int×List (Ty.El zC)=>∃i:Nat,q.1=(i:Int)/\i<=s.length/\q.2=zBs (s.take i)/\(0<i->∀x y,s[i-1]?=Sa x->s[i]?=Sa y->x.1≠y.1)) (fun q=>((s.length:Int) -q.1).toNat)
  ⟨(0:Nat),rfl,aY _,rfl,fun h=>absurd h (co 0)⟩ ?_
 rintro⟨st,mg⟩ ⟨i,hi,ap,n,Q⟩;simp only at hi n;subst hi;refine zO (fun S=>?_) (fun S=>?_)
 .have S:(i:Int)< (s.length:Int):=S;have hlt:i<s.length:=by omega
  have N:s[i]?=Sa s[i]:=by simp[hlt]
  generalize W:s[i]=j at N;refine zB ((show Wp _ (fun q:List (Ty.El zC)×Int=>q.1=mg/\∃e:Nat,q.2=(e:Int)/\i<e/\e<=s.length/\(∀k y,i<=k->k<e->s[k]?=Sa y->y.1=j.1)/\(∀y,s[e]?=Sa y->y.1≠j.1))from ?_).mono ?_)
  .refine uA (fun q:Int×List (Ty.El zC)=>q.2=mg/\∃e:Nat,q.1=(e:Int)/\i<e/\e<=s.length/\(∀k y,i<=k->k<e->s[k]?=Sa y->y.1=j.1)) (fun q=>((s.length:Int) -q.1).toNat) ⟨rfl,i+1,?_,cX i,hlt,?_⟩ ?_
   .grind[zI]
   .grind
   .rintro⟨q1,q2⟩ ⟨rfl,e,E,F,t,f⟩;simp only at E;subst E;refine zB ((show Wp _ (fun b:Bool×List (Ty.El zC)=>b.2=q2/\(b.1=true->∃y,s[e]?=Sa y/\y.1=j.1)/\(b.1=false->∀y,s[e]?=Sa y->y.1≠j.1))from ?_).mono ?_)
    .refine zO (fun h=>?_) (fun h=>zA ⟨rfl,(fun h'=>by cases h'),fun _ y Y=>?_⟩)
     .have h:(e:Int)< (s.length:Int):=h;have u:s[e]?=Sa (s[e]'(by omega)):=by simp
      generalize (s[e]'(by omega))=ye at u;simp only[zM u,zM N,af];refine zA ⟨rfl,fun C=>⟨ye,u,zJ8 C⟩,fun C y Y=>?_⟩
      grind
     grind
    .rintro⟨b,q3⟩ ⟨G,H,I⟩;simp only at G H I;subst G;refine zF (fun C=>?_) (fun C=>zA (e2r ⟨rfl,e,rfl,F,t,f,I C⟩));obtain⟨y,Y,av⟩:=H C;have J:=(aa.1 Y).1;have hw:IntKind.wrap .i64 ((e:Int)+1)=((e+1:Nat):Int):=by grind[zI]
     refine zA (e2l ⟨⟨rfl,e+1,hw,by omega,J,?_⟩,?_⟩)
     .grind
     .simp only[hw];omega
  .rintro⟨q1,q2⟩ ⟨G,e,E,F,t,f,K⟩;simp only at G E;subst G;subst E;have L:sub s (i:Int) (e:Int)=Sa ((s.take e).drop i):=by unfold sub;rw[if_pos ⟨by omega,by omega,by omega⟩];simp
   have g:∀x,x∈(s.take e).drop i->x∈s/\x.1=j.1:=by
    intro x c;obtain⟨k,hk,rfl⟩:=aA c;rw[bS,bT]at hk;have Z:((s.take e).drop i)[k]=s[i+k]'(by omega):=by rw[List.getElem_drop,List.getElem_take]
    rw[Z];exact⟨aX _,f (i+k) _ (by omega) (by omega) (by simp)⟩
   have ax:((s.take e).drop i).length=e-i:=by grind
   have M:(s.take e).drop i≠[]:=fun h=>by grind
   refine zB (zK L ?_);refine zB ((zLk _ j.1 M (fun x c=>(g x c).2) (fun x c=>hs x (P x (g x c).1)) (by omega) (fun x y c A=>hP x y (P x (g x c).1) (P y (g y A).1))).mono (fun z hz=>?_));have ab:=zMK (s.take i);rw[bT]at ab;have ay:q1.length<=524288:=by rw[n];omega
   refine zB (xZ (by grind) (zA (e2l ⟨⟨e,rfl,t,?_,?_⟩,?_⟩)))
   .have ad:s.take e=s.take i++(s.take e).drop i:=by
     have B:=cE i (s.take e)
     grind
    rw[ad,n];refine(zVX (p:=j.1) ?_ (fun x c=>(g x c).2) M hz).symm;intro x c;obtain⟨a,ha,rfl⟩:=aA c;rw[bT]at ha;rw[List.getElem_take];have ag:0<i:=by omega
    have al:s[i-1]?=Sa (s[i-1]'(by omega)):=by simp
    have an:=Q ag _ _ al N;have B:=m (i-1) i (by omega) hlt (by omega);rw[W]at B;have h2:plt (s[i-1]'(by omega)).1 j.1:=zZE B an;by_cases a0:a=i-1
    .grind
    .have h3:=m a (i-1) (by omega) (by omega) (by omega);unfold rlt plt zHX at*
     omega
   .intro _ x y c A ao;have B:x.1=j.1:=f (e-1) x (by omega) (by omega) c;exact K y A (ao.symm.trans B)
   omega
 grind[zA,e2r,List.take_length]
end Go.Ve
