/- law16 -/
import Derived.Test.YtgiopebfjmfmhaaGreatLp17
import Derived.Test.YtgiopebfjmfmhaaGreatLp13
import Derived.Test.YtgiopebfjmfmhaaGreatLp18
set_option linter.unusedVariables false
open Option renaming some->Sa
set_option maxRecDepth 1000000
set_option maxHeartbeats 4000000
namespace Go.Ve
open Go
variable {g l:List (Ty.El zC)}{j:Ty.El zD}
theorem zT1(h:zBR j g=zBR j l):mrg g j=mrg l j:=by
 have d:∀x,(x∈g/\x.1=j)↔(x∈l/\x.1=j):=fun x=>by rw[<-zFP,<-zFP,h]
 unfold mrg
 have c:zE8 g j=zE8 l j:=by
  grind[zIO]
 rw[c]
 cases zE8 l j with
 |none=>rfl
 |some b=>
  have e:zEb g j b=zEb l j b:=zD2 zGX (zAV _ _ _) (zAV _ _ _) (fun f=>by
   rw[zBo,zBo]
   grind)
  grind
theorem zNz(p:Ty.El zD)(a b:List (Ty.El zC)):zBR p (a++b)=zBR p a++zBR p b:=by
 grind[zBR,zOZ]
theorem zRT{l:List (Ty.El zC)}(h:∀x,x∈l->x.1≠j):zBR j l=[]:=by
 grind[List.filter_eq_nil_iff,zBR,zOZ]
theorem qBw(h:∀x,x∈g->x.1=j):zBR j g=g:=by
 grind[List.filter_eq_self,zBR,zOZ]
variable {i:Ty.El zC}
theorem zZW{c:Option (Ty.El zC)}{l:Nat}(h:g[l]?=Sa i):zOf c (g.take (l+1))=(bif qCo i (zOf c (g.take l))then Sa i else zOf c (g.take l)):=by
 grind[List.take_add_one,Option.toList_some,zOf]
def zNM(b:Ty.El zC)(l:List (Ty.El zC)):List (Ty.El zQ):=l.flatMap (fun x=>bif zCA x b==0 then x.2.2.2.2.2.2.2.2.2.2.2.1 else[])
theorem zRl(xs:List (Ty.El zQ)):((if xs=[]then[]else srt zNN xs):List (Ty.El zQ)).Pairwise (fun x y=>¬hlt y x)/\(∀h,h∈(if xs=[]then[]else srt zNN xs)↔h∈xs)/\(if xs=[]then[]else srt zNN xs).length=xs.length:=by
 by_cases d:xs=[]
 .simp_all
 .rw[if_neg d];obtain⟨e,f,g⟩:=zWt zQQ xs;refine⟨?_,fun h=>e.mem_iff,f⟩;rw[aY];intro i j k l a c;have:=g i j _ _ a (ah k) (ah l)
  grind[zQS]
theorem zKV(g:List (Ty.El zC))(p:Ty.El zD)(M:g≠[])(N:∀x,x∈g->x.1=p)(A:∀x,x∈g->RtS x)(hl:g.length<=524288)(H:∀x y,x∈g->y∈g->zAE (x,y,())=Sa (zCA x y)):
  Wp (zC3 (g,())) (fun z=>mrg g p=Sa z):=by
 obtain⟨a,r,rfl⟩:∃a r,g=a::r:=by
  cases g with
  |nil=>grind
  |cons y r=>grind
 unfold zC3;dsimp only;have O:idx (a::r) (0:Int)=Sa a:=rfl;have q:sub (a::r) (1:Int) ((List.length (a::r):Nat):Int)=Sa r:=by have:=qCN (xs:=a::r) (k:=1) (by simp);simpa using this
 have P:r.length<=524288:=by grind
 refine zB (zM O ?_);refine zB (Wp.mono (Q:=fun b=>zOf (Sa a) r=Sa b/\b∈a::r) ?_ ?_)
 .refine zB (zM q ?_);refine kZ (xs:=r) (by omega) (fun i (b:Ty.El zC)=>zOf (Sa a) (r.take i)=Sa b/\b∈a::r) ⟨rfl,by simp⟩ ?_ (fun b t=>by grind);rintro i x b d ⟨t,e⟩;have j:x∈a::r:=aw _ (ae d);simp only[zO d,af];refine zB (zM (H x b j e) ?_);rw[zZW d,t];refine zP (fun h=>zA ⟨?_,j⟩) (fun h=>zA ⟨?_,e⟩);all_goals grind[decide_eq_true,decide_eq_false,qCo]
 .rintro b ⟨t,e⟩;have m:zE8 (a::r) p=Sa b:=by rw[zIO,qBw N];exact t
  have C:=A b e
  have l:∀i,i<=(a::r).length->(zNM b ((a::r).take i)).length<=i*1048576:=by
   intro i I
   have:=zPO (xs:=(a::r).take i) (f:=fun x:Ty.El zC=>bif zCA x b==0 then x.2.2.2.2.2.2.2.2.2.2.2.1 else[]) (k:=1048576) (fun x d=>by
    have:=(A x (dE d)).hops
    grind)
   rw[bX,cu I]at this;exact this
  refine zB ((show Wp _ (fun c:List (Ty.El zQ)=>c=zNM b (a::r))from ?_).mono (fun c u=>?_))
  .refine kZ (xs:=a::r) (by omega) (fun i (h:List (Ty.El zQ))=>h=zNM b ((a::r).take i)) rfl ?_ (fun h u=>by grind);intro i x h d u;have I:=(aa.1 d).1;have j:x∈a::r:=ae d;have S:=(A x j).hops;have W:h.length<=i*1048576:=by grind
   simp only[zO d,af];refine zB (zM (H x b j e) ?_);have D:zNM b ((a::r).take (i+1))=h++(bif zCA x b==0 then x.2.2.2.2.2.2.2.2.2.2.2.1 else[]):=by rw[u];exact zVu d
   rw[D];refine zH (fun E=>?_) (fun E=>zA ?_)
   .rw[E];exact zB (zAb (by omega) (zA rfl))
   grind
  .have J:c.length<=549755813888:=by
    have:=l (a::r).length (ai _)
    grind
   obtain⟨K,L,Y⟩:=zRl c;refine tt (ci _) ?_
   have Z:jG c ((),())=Sa (if c=[]then[]else srt zNN c,()):=by
    unfold jG
    grind
   refine zB (zM Z ?_);generalize (if c=[]then[]else srt zNN c)=n at K L Y
   have e2:jB n ()=Sa (kP zTm n):=by
    unfold jB
    grind
   refine zB (zM e2 ?_)
   have F:kP zTm n=zEb (a::r) p b:=by
    refine zVs K (fun h=>?_);rw[L,u];unfold zNM;rw[bV];constructor
    .rintro⟨x,d,ab⟩
     cases E:zCA x b==0 with
     |false=>grind
     |true=>
      grind
    grind
   have G:=C.path;have e3:zBA (b.2.2.2.2.2.2.2.2.1,())=Sa b.2.2.2.2.2.2.2.2.1:=by refine vB ?_;unfold zBA;exact zB (zAb (by grind) (zA rfl))
   refine zB (zM e3 (zA ?_));unfold mrg;rw[m,F];obtain⟨⟨a1,a2,⟨⟩⟩,b⟩:=b;rfl
theorem zIx:i∈zBY g↔ ∃q,(∃x,x∈g/\x.1=q)/\mrg g q=Sa i:=by
 grind[zW3,zBY]
theorem zVj{a:List (Ty.El zC)}{p:Ty.El zD}(B:∀x,x∈g->plt x.1 p)(n:∀x,x∈a->x.1=p)(z:a≠[])(r:mrg a p=Sa i):zBY (g++a)=zBY g++[i]:=by
 have j:∀q:Ty.El zD,¬plt q q:=fun q h=>zKC.asym _ _ h h;have d:∀x,x∈g->x.1≠p:=fun x c e=>by grind
 have t:i.1=p:=zVh r
 have C:∀q,q≠p->mrg (g++a) q=mrg g q:=fun q f=>zT1 (by
  rw[zNz,zRT (l:=a) (fun x c e=>f (e.symm.trans (n x c))),cw])
 have D:mrg (g++a) p=mrg a p:=zT1 (by rw[zNz,zRT d,dH]);refine zD2 qAv (zLy _) ?_ ?_
 .rw[b7];refine⟨zLy g,cT _ _,?_⟩;intro x c y k;rw[aM]at k;subst k;obtain⟨q,⟨E,u,f⟩,m⟩:=zIx.1 c
  grind[zVh,rlt]
 .intro y;rw[a7,aM,zIx,zIx];constructor
  .rintro⟨q,⟨x,c,f⟩,m⟩;by_cases A:q=p;all_goals grind
  .rintro(⟨q,⟨x,c,f⟩,m⟩|rfl)
   .grind
   .obtain⟨x,c⟩:=List.exists_mem_of_ne_nil a z
    grind
theorem zMj(l:List (Ty.El zC)):(zBY l).length<=l.length:=aj (bM _ _) (qDp l)
theorem zD0(l:List (Ty.El zC))(hl:l.length<=524288)(hs:∀x,x∈l->RtS x)(hP:∀x y,x∈l->y∈l->zAE (x,y,())=Sa (zCA x y)):
  Wp (zCx (l,())) (fun r=>r=zBY l):=by
 unfold zCx;dsimp only;have e0:zAC (l,())=Sa l:=by refine vB ?_;unfold zAC;exact zB (zAb (by grind) (zA rfl))
 refine zB (zM e0 ?_);refine tt (by simp) ?_;refine zB ((show Wp (uN l ((),())) _ from zQc l (by omega)).mono ?_);rintro⟨s,⟨⟩⟩ ⟨O,d,D⟩;simp only at O d D;rw[zXj d]
 have P:∀x,x∈s->x∈l:=by
  intro x N;have B:= @zFP x.1 x l;have h2:= @zFP x.1 x s;have h3:zBR x.1 l=zBR x.1 s:=d x.1
  grind
 have hn:s.length<=524288:=by omega
 have m:=aY.1 D;refine zB ((show Wp _ (fun r=>r=zBY s)from ?_).mono (fun r hr=>zA hr))
 refine kY (fun q:Int×List (Ty.El zC)=>∃i:Nat,q.1=(i:Int)/\i<=s.length/\q.2=zBY (s.take i)/\(0<i->∀x y,s[i-1]?=Sa x->s[i]?=Sa y->x.1≠y.1)) (fun q=>((s.length:Int) -q.1).toNat)
  ⟨(0:Nat),rfl,aW _,rfl,fun h=>absurd h (cA 0)⟩ ?_
 rintro⟨st,mg⟩ ⟨i,hi,ap,n,Q⟩;simp only at hi n;subst hi;refine zP (fun S=>?_) (fun S=>?_)
 .have S:(i:Int)< (s.length:Int):=S;have hlt:i<s.length:=by omega
  have N:s[i]?=Sa s[i]:=by simp[hlt]
  generalize W:s[i]=j at N;refine zB ((show Wp _ (fun q:List (Ty.El zC)×Int=>q.1=mg/\∃e:Nat,q.2=(e:Int)/\i<e/\e<=s.length/\(∀k y,i<=k->k<e->s[k]?=Sa y->y.1=j.1)/\(∀y,s[e]?=Sa y->y.1≠j.1))from ?_).mono ?_)
  .refine kY (fun q:Int×List (Ty.El zC)=>q.2=mg/\∃e:Nat,q.1=(e:Int)/\i<e/\e<=s.length/\(∀k y,i<=k->k<e->s[k]?=Sa y->y.1=j.1)) (fun q=>((s.length:Int) -q.1).toNat) ⟨rfl,i+1,?_,c7 i,hlt,?_⟩ ?_
   .grind[zJ]
   .grind
   .rintro⟨q1,q2⟩ ⟨rfl,e,E,F,t,f⟩;simp only at E;subst E;refine zB ((show Wp _ (fun b:Bool×List (Ty.El zC)=>b.2=q2/\(b.1=true->∃y,s[e]?=Sa y/\y.1=j.1)/\(b.1=false->∀y,s[e]?=Sa y->y.1≠j.1))from ?_).mono ?_)
    .refine zP (fun h=>?_) (fun h=>zA ⟨rfl,(fun h'=>by cases h'),fun _ y Y=>?_⟩)
     .have h:(e:Int)< (s.length:Int):=h;have u:s[e]?=Sa (s[e]'(by omega)):=by simp
      generalize (s[e]'(by omega))=ye at u;simp only[zO u,zO N,af];refine zA ⟨rfl,fun C=>⟨ye,u,zJL C⟩,fun C y Y=>?_⟩
      grind
     grind
    .rintro⟨b,q3⟩ ⟨G,H,I⟩;simp only at G H I;subst G;refine zH (fun C=>?_) (fun C=>zA (e2r ⟨rfl,e,rfl,F,t,f,I C⟩));obtain⟨y,Y,av⟩:=H C;have J:=(aa.1 Y).1;have hw:IntKind.wrap .i64 ((e:Int)+1)=((e+1:Nat):Int):=by grind[zJ]
     refine zA (e2l ⟨⟨rfl,e+1,hw,by omega,J,?_⟩,?_⟩)
     .grind
     .simp only[hw];omega
  .rintro⟨q1,q2⟩ ⟨G,e,E,F,t,f,K⟩;simp only at G E;subst G;subst E;have L:sub s (i:Int) (e:Int)=Sa ((s.take e).drop i):=by unfold sub;rw[if_pos ⟨by omega,by omega,by omega⟩];simp
   have g:∀x,x∈(s.take e).drop i->x∈s/\x.1=j.1:=by
    intro x c;obtain⟨k,hk,rfl⟩:=aC c;rw[bW,bX]at hk;have Z:((s.take e).drop i)[k]=s[i+k]'(by omega):=by rw[List.getElem_drop,List.getElem_take]
    rw[Z];exact⟨aZ _,f (i+k) _ (by omega) (by omega) (by simp)⟩
   have ax:((s.take e).drop i).length=e-i:=by grind
   have M:(s.take e).drop i≠[]:=fun h=>by grind
   refine zB (zM L ?_);refine zB ((zKV _ j.1 M (fun x c=>(g x c).2) (fun x c=>hs x (P x (g x c).1)) (by omega) (fun x y c A=>hP x y (P x (g x c).1) (P y (g y A).1))).mono (fun z hz=>?_));have ab:=zMj (s.take i);rw[bX]at ab;have ay:q1.length<=524288:=by rw[n];omega
   refine zB (zAb (by grind) (zA (e2l ⟨⟨e,rfl,t,?_,?_⟩,?_⟩)))
   .have ad:s.take e=s.take i++(s.take e).drop i:=by
     have B:=cJ i (s.take e)
     grind
    rw[ad,n];refine(zVj (p:=j.1) ?_ (fun x c=>(g x c).2) M hz).symm;intro x c;obtain⟨a,ha,rfl⟩:=aC c;rw[bX]at ha;rw[List.getElem_take];have ag:0<i:=by omega
    have al:s[i-1]?=Sa (s[i-1]'(by omega)):=by simp
    have an:=Q ag _ _ al N;have B:=m (i-1) i (by omega) hlt (by omega);rw[W]at B;have h2:plt (s[i-1]'(by omega)).1 j.1:=zY0 B an;by_cases a0:a=i-1
    .grind
    .have h3:=m a (i-1) (by omega) (by omega) (by omega);unfold rlt plt zHe at*
     omega
   .intro _ x y c A ao;have B:x.1=j.1:=f (e-1) x (by omega) (by omega) c;exact K y A (ao.symm.trans B)
   omega
 grind[zA,e2r,List.take_length]
end Go.Ve
