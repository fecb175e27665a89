/- law16 -/
import Derived.Test.YtgiopebfjmfmhaaGreatLt23
import Derived.Test.YtgiopebfjmfmhaaGreatLt21
import Derived.Test.YtgiopebfjmfmhaaGreatLt13
set_option linter.unusedVariables false
open Option renaming some->Sa
open Bool renaming true->Sb,false->Sc
open List renaming length->Aa,range->Ad,length_filterMap_le->Af,pairwise_iff_getElem->Ag,set_getElem_self->Ah,nodup_nil->Ai,nodup_append->Ak,range_succ->Al,zipIdx_map->Am,length_map->An
open Int renaming toNat->Ab
open Go.IntKind renaming wrap->Ac
open Option renaming bind->Ae,isNone_some->Aj
set_option maxRecDepth 1000000
set_option maxHeartbeats 4000000
namespace Go.Ve
open Go Go.Proofs
theorem zVq{α β:Type}{f:α->Option β}{P:α->β->Prop}:∀(xs:List α),(∀x,x∈xs->Wp (f x) (P x))->Wp (zCw f xs) (fun a=>a.length=xs.length/\∀(i:Nat) x y,xs[i]?=Sa x->a[i]?=Sa y->P x y)
 |[],_=>zA ⟨rfl,fun i x y h=>by simp at h⟩
 |x::r,h=>by obtain⟨y,g,j⟩:=h x (by simp);obtain⟨a,c,d,k⟩:=zVq r (fun z e=>h z (aw _ e));refine⟨y::a,?_,by simp[d],?_⟩;all_goals grind[zCw]
variable {g i:Nat}
theorem xX.cost{E:List Arc}{M:Nat}(hE:∀e,e∈E->e.c<=M){l:List Nat}(h:xX E g l i):i+M<=l.length*M:=by
 induction h with
 |nil=>simp
 |snoc e a d f s=>
  grind[List.length_cons,Nat.succ_mul]
theorem xX.first{E:List Arc}{l:List Nat}{c:Nat}(h:xX E g (i::l) c):(i=g/\l=[]/\c=0)\/∃e f d,e∈E/\e.a=g/\xX E e.b (i::f) d/\c=e.c+d:=by
 generalize j:i::l=m at h
 induction h generalizing i l with
 |nil=>grind
 | @snoc y u x e z s t k=>
  obtain⟨rfl,rfl⟩:=cP j;right;rcases k rfl with⟨rfl,rfl,rfl⟩|⟨n,f,d,p,q,r,A⟩
  .exact⟨e,[],0,s,t,.nil,by omega⟩
  .exact⟨n,y::f,d+e.c,p,q,.snoc e r s t,by omega⟩
theorem xX.cons{E:List Arc}{e:Arc}(c:e∈E){l:List Nat}(h:xX E e.b (g::l) i):∃d,xX E e.a (g::d) (e.c+i):=by
 generalize f:g::l=m at h
 induction h generalizing g l with
 |nil=>
  obtain⟨rfl,rfl⟩:=cP f;have:=xX.snoc (E:=E) (s:=e.a) (l:=[]) e .nil c rfl
  grind
 | @snoc y q r j u k n p=>obtain⟨rfl,rfl⟩:=cP f;obtain⟨d,t⟩:=p rfl;exact⟨y::d,by rw[<-bv];exact .snoc j t k n⟩
noncomputable def zGz(n:Nat)(es:List (Ty.El qD))(s:Nat):List Int:=(jH ((n:Int),es,(s:Int),())).getD []
theorem zHf{n:Nat}{es:List (Ty.El qD)}(a:n<=64)(c:es.length<=1048576)(e:g<n):jH ((n:Int),es,(g:Int),())=Sa (zGz n es g)/\Dst (zI8 n es) n g (zGz n es g):=by
 obtain⟨d,f,s⟩:=zMn n es g a c e;unfold zGz
 grind
variable {P:List (Ty.El qD)}
theorem zVa(a:g<=64)(c:P.length<=1048576)(d:i<g):zHG (g:Int) P (i:Int)=Sa (zGz g P i):=by obtain⟨e,f⟩:=zHf a c d;unfold zHG;rw[e,af,if_pos (by rw[aF];exact f.1)]
variable {C:List Int}
theorem Dst.bnd(c:i<g)(h:Dst (zI8 g P) g i C){t:Nat}(f:t<g): -1<=C.getD t 0/\C.getD t 0+16777215<=(g:Int)*16777215:=by
 rcases h.2 t f with⟨n,_⟩|⟨k,n,⟨l,es⟩,j⟩
 .omega
 .obtain⟨q,r,a,u,m⟩:=es.short;have x:=j _ _ a;have y:=zZF g _ (a.lt (fun e p=>(qBG e p).2) c) m;have z:=a.cost (M:=16777215) qFg;omega
theorem zOB{α:Type}(eq:α->α->Bool):∀l:List α,(kR eq l).length<=l.length
 |[]=>aj _
 |[_]=>aj _
 |x::y::r=>by
  have:=zOB eq (y::r);simp only[kR]
  grind
def zWJ(l:List (Ty.El zP))(xs:List (Ty.El zP)):Prop:=l.Pairwise hlt/\l.length<=xs.length/\∀h,h∈l↔h∈xs
theorem zRp(xs:List (Ty.El zP))(c:xs.length<1099511627776):Wp (Ae (jG xs ((),())) fun y=>jB y.1 ()) (fun l=>zWJ l xs):=by
 obtain⟨a,d,e⟩:=zRP xs;have f:jG xs ((),())=Sa (if xs=[]then[]else srt zOi xs,()):=by unfold jG;rw[if_pos c]
 refine zB (zK f ?_);unfold jB;rw[if_pos (by rw[e];exact c)];refine zA ⟨zFh zKr zHb (fun _ _ a d=>zZX a d) _ a,?_,fun h=>?_⟩;all_goals grind[Nat.le_trans,zOB,Nat.le_of_eq,zDA,zKr]
def zKR(n:Nat)(es:List (Ty.El qD))(r i:Nat)(h:Ty.El zP):Prop:=
 i≠r/\∃e,e∈es/\zIa n e=Sb/\eA e=(r:Int)/\0<=(zGz n es (eB e).toNat).getD i 0/\eC e+(zGz n es (eB e).toNat).getD i 0=(zGz n es r).getD i 0/\e.2.2.2.1=h
theorem zTx(n:Nat)(es:List (Ty.El qD))(r:Nat)(m:n<=64)(A:es.length<=1048576)(hr:r<n):
  Wp (zC8 ((n:Int),es,(r:Int),())) (fun p=>p.length=n/\∀i l,p[i]?=Sa l->l.Pairwise hlt/\l.length<=es.length/\∀h,h∈l↔zKR n es r i h):=by
 unfold zC8;refine zB (zK (zJV n m) ?_);have d:¬((n:Int)<=0\/1048576<es.length):=by omega
 rw[if_neg d];refine zB (zK (zVa m A hr) ?_);refine zB ((zVq (P:=fun e (y:Ty.El qD×Option (List Int))=>y.1=e/\y.2=if zIa n e=Sb/\eA e=(r:Int)then Sa (zGz n es (eB e).toNat)else none) es ?_).mono ?_)
 .intro e K;refine zB (zK (zJd e n) ?_);refine zF (fun h=>?_) (fun h=>?_)
  .obtain⟨q,t⟩:=(am _ _).mp h;have t:eA e=(r:Int):=of_decide_eq_true t;obtain⟨L,M,B,N,O,Q⟩:=zER q;rw[if_pos ⟨q,t⟩];have hB:e.2.1=(((eB e).toNat:Nat):Int):=(bi B).symm;refine zJN (zK (x:=zGz n es (eB e).toNat) ?_ ⟨rfl,rfl⟩)
   grind[zVa]
  .refine zA ⟨rfl,?_⟩;rw[if_neg];simp_all[eA]
 .rintro c ⟨ab,S⟩;rw[aF]
  have W:∀i,i<n->∀h,h∈zDq (r:Int) (zGz n es r) c i↔zKR n es r i h:=by
   intro i g h;unfold zDq;rw[bm];constructor
   .rintro⟨y,D,a⟩;obtain⟨j,E,rfl⟩:=aA D;have f:j<es.length:=by omega
    obtain⟨u,Y⟩:=S j es[j] c[j] (by simp[f]) (by simp[E]);rw[Y]at a;by_cases z:zIa n es[j]=Sb/\eA es[j]=(r:Int)
    .obtain⟨L,M,B,N,O,Q⟩:=zER z.1;rw[if_pos z]at a;simp only at a;have F:=((zHf m A (show(eB es[j]).toNat<n by omega)).2).bnd (by omega) g;have Z:Ac .i64 (eC es[j]+(zGz n es (eB es[j]).toNat).getD i 0)=eC es[j]+(zGz n es (eB es[j]).toNat).getD i 0:=zI (by omega) (by omega);have k:c[j].1.2.2.1=eC es[j]:=by rw[u];rfl
     rw[k,Z]at a;generalize hC:(decide ((i:Int)≠(r:Int))&&(decide ((zGz n es (eB es[j]).toNat).getD i 0>=0)&&(eC es[j]+(zGz n es (eB es[j]).toNat).getD i 0==(zGz n es r).getD i 0)))=C at a
     cases C with
     |false=>cases a
     |true=>rw[am,am]at hC;obtain⟨G,H,I⟩:=hC;have G:=of_decide_eq_true G;have H:=of_decide_eq_true H;have I:=eq_of_beq I;have a:Sa c[j].1.2.2.2.1=Sa h:=a;rw[u]at a;exact⟨fun h=>G (by rw[h]),es[j],aX _,z.1,z.2,H,I,aW a⟩
    grind
   .rintro⟨ad,e,K,q,t,h0,p,rfl⟩;obtain⟨j,E,rfl⟩:=aA K;have f:j<c.length:=by omega
    obtain⟨u,Y⟩:=S j es[j] c[j] (by simp[E]) (by simp[f]);refine⟨c[j],aX _,?_⟩;obtain⟨L,M,B,N,O,Q⟩:=zER q;have F:=((zHf m A (show(eB es[j]).toNat<n by omega)).2).bnd (by omega) g;have Z:Ac .i64 (eC es[j]+(zGz n es (eB es[j]).toNat).getD i 0)=eC es[j]+(zGz n es (eB es[j]).toNat).getD i 0:=zI (by omega) (by omega);have k:c[j].1.2.2.1=eC es[j]:=by rw[u];rfl
    grind
  refine(zVq (P:=fun i l=>zWJ l (zDq (r:Int) (zGz n es r) c i)) (Ad n) ?_).mono ?_
  .intro i g;refine zRp _ ?_
   grind[Af,zDq,zGz]
  .rintro p ⟨h1,h2⟩;rw[bY]at h1;refine⟨h1,fun i l g=>?_⟩
   have J:i<n:=by
    grind
   obtain⟨k1,k2,k3⟩:=h2 i i l (bh J) g
   grind[Af,zDq,zGz]
theorem qCF{r:Nat}(j:g<=64)(m:P.length<=1048576)(x:i<g)(hi:r<g)(d:r≠i)(I:0<=(zGz g P i).getD r 0):∃h,zKR g P i r h:=by
 have y:=(zHf j m x).2;rcases y.2 r hi with⟨z,_⟩|⟨k,z,⟨l,A⟩,J⟩
 .omega
 .rcases A.first with⟨h,_⟩|⟨a,K,L,p,M,q,N⟩
  .omega
  .obtain⟨e,B,rfl⟩:=aO.1 p;obtain⟨f,t⟩:=aV.1 B;obtain⟨O,es,Q,S,W,Y⟩:=zER t;have C:(zGC e).b=(eB e).toNat:=rfl;have Z:(zGC e).a=(eA e).toNat:=rfl;have hc:((zGC e).c:Int)=eC e:=bi (by omega);have n:=(zHf j m (show(eB e).toNat<g by omega)).2;refine⟨e.2.2.2.1,d,e,f,t,by omega,?_⟩;rw[C]at q;rcases n.2 r hi with⟨D,u⟩|⟨E,D,⟨F,u⟩,G⟩
   .grind
   .have H:=G _ _ q;obtain⟨l3,q4⟩:=xX.cons p (show xX (zI8 g P) (zGC e).b (r::F) E from u)
    grind
def zQ2(a:Ty.El zG):Bool:=a.2.2.2.2.2.2.2.2.1.1
abbrev zN9(a:Ty.El zG):Int:=a.2.2.2.2.2.2.2.2.1.2.1
abbrev zAf(a:Ty.El zG):List (Ty.El vP):=a.2.2.2.2.2.2.2.2.1.2.2.1
abbrev xLS(x:Ty.El zZ):Bool:=x.2.2.2.2.2.1
def tpB(v:Ty.El zH)(r i:Nat):Bool:=match(z8 v)[r]? with
 |some a=>match(vZ a)[i]? with
  |some x=>zQ2 a&&(xLS x&&upB v (r:Int) (i:Int))
  |none=>Sc
 |none=>Sc
variable {l:Ty.El zG}{j:Ty.El zH}{I:Ty.El zZ}
theorem qDn(c:(z8 j)[g]?=Sa l)(d:(vZ l)[i]?=Sa I):tpB j g i=(zQ2 l&&(xLS I&&upB j (g:Int) (i:Int))):=by simp_all[tpB]
theorem zHT(c:(z8 j)[g]?=Sa l)(d:(vZ l)[i]?=Sa I):vJ (j,(g:Int),(i:Int),())=Sa (I,Sb,()):=by refine jS ?_;unfold vJ;have e:=(aa.1 c).1;have f:=(aa.1 d).1;have r:decide ((g:Int)< (0:Int))=false:=decide_eq_false (by omega);have h:decide ((g:Int)>=((Aa j.1.1:Nat):Int))=false:=decide_eq_false (by grind);have v:decide ((i:Int)< (0:Int))=false:=decide_eq_false (by omega);have k:decide ((i:Int)>=((Aa l.2.2.1:Nat):Int))=false:=decide_eq_false (by grind);refine zB ?_;simp only[r,h,v,cond_false];refine zB (zK (zM c) (zA ?_));simp only[k,cond_false];exact zB (zK (zM c) (zB (zK (zM d) (zA rfl))))
theorem zF9(e:zFz j)(c:(z8 j)[g]?=Sa l)(d:(vZ l)[i]?=Sa I)(area:Int):
  wF (j,(g:Int),(i:Int),area,())=Sa (tpB j g i&&(wL I==area)):=by
 refine jS ?_;unfold wF;refine zB (zK (zHT c d) ?_);rw[qDn c d];refine zB ?_;simp only[cond_true];refine zB (zK (zM c) ?_);unfold zQ2
 cases h:l.2.2.2.2.2.2.2.2.1.1 with
 |false=>simp_all[zA]
 |true=>
  cases f:xLS I with
  |false=>simp_all[zA]
  |true=>
   simp only[cond_true];rw[show I.2.2.2.2.2.1=Sb from f];simp only[cond_true]
   cases v:(wL I==area)with
   |false=>simp_all[zA]
   |true=>simp only[cond_true];refine zB ((zIA j g i e).mono (fun b r=>zA (zA ?_)));rw[r];simp
abbrev zVU(v:Ty.El zH)(r i:Nat):List (Ty.El zR):=zLy v (r:Int) (i:Int) (fun e=>e.1 !=(r:Int)||e.2.1 !=(i:Int))
def zKy(v:Ty.El zH)(r i:Nat)(x:Ty.El zZ)(area:Int)(e:Ty.El zR):Option (Ty.El qD):=
 match(z8 v)[Ab e.1]? with
 |some q=>match(vZ q)[Ab e.2.1]? with
  |some y=>if(tpB v (Ab e.1) (Ab e.2.1)&&(wL y==area))=Sb then Sa ((r:Int),e.1,vQ x,((i:Int),qJ y,()),())else none
  |none=>none
 |none=>none
def zHC(v:Ty.El zH)(r:Nat)(a:Ty.El zG)(area:Int)(i:Nat):List (Ty.El qD):=
 match(vZ a)[i]? with
 |some x=>if(tpB v r i&&(wL x==area))=Sb then(zVU v r i).filterMap (zKy v r i x area)else[]
 |none=>[]
def zKx(v:Ty.El zH)(area:Int)(r:Nat):List (Ty.El qD):=
 match(z8 v)[r]? with
 |some a=>(Ad (vZ a).length).flatMap (zHC v r a area)
 |none=>[]
def zDv(v:Ty.El zH)(area:Int):List (Ty.El qD):=(Ad (z8 v).length).flatMap (zKx v area)
variable {J:Ty.El zJ}
theorem qEi(c:qE J C j){e:Ty.El zR}(h:e∈zVU j g i):
  (0:Int)<=e.1/\(0:Int)<=e.2.1/\∃q y,(z8 j)[Ab e.1]?=Sa q/\(vZ q)[Ab e.2.1]?=Sa y:=by
 have a:upB j (g:Int) (i:Int)=true:=by
  unfold zVU zLy at h
  grind
 obtain⟨f,_,d⟩:=zWh c a;have:zIq J f.1 f.2.1 e:=by simp_all[zVU,zLy]
 obtain⟨n,k,q,y,l,m,_⟩:=this;refine⟨n,k,q,y,?_,m⟩;show j.1.1[Ab e.1]?=Sa q;rw[c.net];exact l
theorem zGu{α:Type}{f:Nat->List α}{m:Nat}(h:∀i,(f i).length<=m):∀k,((Ad k).flatMap f).length<=k*m
 |0=>by simp
 |k+1=>by
  have:=zGu h k
  grind[Al,List.length_append,Nat.succ_mul]
theorem zS2(c:zFz j)(r:Nat)(a:Ty.El zG)(area:Int)(i:Nat):(zHC j r a area i).length<=360:=by
 unfold zHC;split
 .split;all_goals grind[Nat.le_trans,Af,zN6]
 .simp
theorem zS1(c:zFz j)(area:Int)(r:Nat):(zKx j area r).length<=7200:=by
 unfold zKx;split
 .rename_i a d;have e:=(c.sm a (ae d)).i1;have g:=zGu (f:=zHC j r a area) (m:=360) (fun i=>zS2 c r a area i) (vZ a).length
  grind
 .simp
theorem zGw(a:zFz j)(area:Int):(zDv j area).length<=64800:=by have d:=zGu (f:=zKx j area) (m:=7200) (fun i=>zS1 a area i) (z8 j).length;have c:=a.rs;have:(z8 j).length*7200<=9*7200:=aq _ c;unfold zDv;omega
theorem zPt{α:Type}(f:Nat->List α)(k:Nat):(Ad (k+1)).flatMap f=(Ad k).flatMap f++f k:=by rw[dD,List.flatMap_append];simp
theorem zSK{α β:Type}(f:α->Option β){xs:List α}{x:α}(h:xs[g]?=Sa x):(xs.take (g+1)).filterMap f=(xs.take g).filterMap f++(f x).toList:=by
 grind[List.take_add_one,Option.toList_some]
theorem zJX(L:qE J C j)(area:Int):jD (j,area,())=Sa (zDv j area):=by
 have l:=L.s;refine jS ?_;unfold jD;have W:=l.rs;refine zB (uO (xs:=j.1.1) (by omega) (fun k (g:List (Ty.El qD))=>g=(Ad k).flatMap (zKx j area)) rfl ?_ (fun g B=>zA B));intro r p g d B
 have Y:g.length<=9*7200:=by
  rw[B];refine ai (zGu (fun i=>zS1 l area i) r) (aq _ ?_)
  grind
 refine zB (zK (zM d) ?_);have D:(vZ p).length<=20:=(l.sm p (ae d)).i1;have N:p.2.2.1.length<=20:=D;refine uO (xs:=p.2.2.1) (by omega) (fun k (z:List (Ty.El qD))=>z=g++(Ad k).flatMap (zHC j r p area)) (by simp) ?_ (fun z t=>?_)
 .intro i x z E t;have O:z.length<=9*7200+7200:=by rw[t,aN];have h1:=zGu (f:=zHC j r p area) (m:=360) (fun i=>zS2 l r p area i) i;have h2:=(aa.1 E).1;omega
  refine zB (zK (zM E) ?_);refine zB (zK (zF9 l d E area) ?_);rw[zPt,<-cn,<-t];have F:zHC j r p area i=if(tpB j r i&&(wL x==area))=Sb then(zVU j r i).filterMap (zKy j r i x area)else[]:=by simp_all[zHC]
  rw[F]
  cases Z:(tpB j r i&&(wL x==area))with
  |false=>exact zA (by simp)
  |true=>
   simp only[bH,cond_false,if_true];refine zB ((zLj j r i l).mono (fun u a=>?_));have ab:u.length<=360:=by rw[a];exact zN6 l _ _ _
   have a:u=zVU j r i:=a;rw[<-a];refine uO (xs:=u) (by omega) (fun k (h:List (Ty.El qD))=>h=z++(u.take k).filterMap (zKy j r i x area)) (by simp) ?_ (fun h c=>by simp_all);intro v e h G c;have H:h.length<=9*7200+7200+360:=by rw[c,aN];have:=bL (zKy j r i x area) (u.take v);have:=List.length_take_le' v u;omega
   obtain⟨a0,a1,q,y,I,n⟩:=qEi L (a▸ae G);have P:e.1=((Ab e.1:Nat):Int):=(bi a0).symm;have Q:e.2.1=((Ab e.2.1:Nat):Int):=(bi a1).symm;refine zB (zK (zM G) ?_);have S:=zF9 l I n area;rw[<-P,<-Q]at S;refine zB (zK S ?_);rw[zSK _ G,<-cn,<-c];have K:zKy j r i x area e=if(tpB j (Ab e.1) (Ab e.2.1)&&(wL y==area))=Sb then Sa ((r:Int),e.1,vQ x,((i:Int),qJ y,()),())else none:=by unfold zKy;rw[I];simp only;rw[n]
   rw[K]
   cases ad:(tpB j (Ab e.1) (Ab e.2.1)&&(wL y==area))with
   |false=>exact zA (by simp)
   |true=>simp only[bH,cond_false,if_true];have A:=zHT I n;rw[<-P,<-Q]at A;refine zB (zK A ?_);refine zB (xZ (by simp;omega) (zA ?_));rfl
 simp_all[zPt,zKx,z8]
structure qAS(v:Ty.El zH)(area:Int)(r i:Nat)(ro:Ty.El zG)(x:Ty.El zZ)(q j:Nat)(qo:Ty.El zG)(y:Ty.El zZ):Prop where
 hr:(z8 v)[r]?=Sa ro
 hx:(vZ ro)[i]?=Sa x
 tx:tpB v r i=Sb
 ax:wL x=area
 nb:(((q:Int),(j:Int),()):Ty.El zR)∈zVU v r i
 hq:(z8 v)[q]?=Sa qo
 hy:(vZ qo)[j]?=Sa y
 ty:tpB v q j=Sb
 ay:wL y=area
theorem zSs(u:qE J C j){area:Int}{e:Ty.El qD}:
  e∈zDv j area↔ ∃r i g x q d k y,qAS j area r i g x q d k y/\e=((r:Int),(q:Int),vQ x,((i:Int),qJ y,()),()):=by
 unfold zDv;rw[bR];constructor
 .rintro⟨r,_,a⟩;unfold zKx at a;split at a
  .rename_i g z;obtain⟨i,_,a⟩:=bR.1 a;unfold zHC at a;split at a
   .rename_i x A;split at a
    .rename_i l;obtain⟨f,m,a⟩:=bm.1 a;obtain⟨B,n,k,y,p,t⟩:=qEi u m;unfold zKy at a;rw[p]at a;simp only at a;rw[t]at a;simp only at a;split at a
     .rename_i c;rw[am,beq_iff_eq]at l c;have D:((Ab f.1:Nat):Int)=f.1:=bi B;have E:((Ab f.2.1:Nat):Int)=f.2.1:=bi n;refine⟨r,i,g,x,Ab f.1,Ab f.2.1,k,y,⟨z,A,l.1,l.2,?_,p,t,c.1,c.2⟩,?_⟩;all_goals grind
     .cases a
    .cases a
   .cases a
  .cases a
 .rintro⟨r,i,g,x,q,d,k,y,h,rfl⟩;refine⟨r,aS.2 (aa.1 h.hr).1,?_⟩;unfold zKx;rw[h.hr];refine bR.2 ⟨i,aS.2 (aa.1 h.hx).1,?_⟩;unfold zHC;rw[h.hx];simp only;rw[if_pos (by rw[h.tx,h.ax];simp)];refine bm.2 ⟨_,h.nb,?_⟩;unfold zKy;simp only[aF];rw[h.hq];simp only;rw[h.hy];simp only;rw[if_pos (by rw[h.ty,h.ay];simp)]
theorem zNq(c:(z8 j)[g]?=Sa l)(d:(vZ l)[i]?=Sa I)(h:tpB j g i=Sb):zQ2 l=Sb/\xLS I=Sb/\upB j (g:Int) (i:Int)=true:=by simp_all[qDn]
theorem qEr(c:qE J C j)(e:(z8 j)[g]?=Sa l)(f:(vZ l)[i]?=Sa I)(h:xLS I=Sb):(0<=wL I/\wL I<=255)/\1<=vQ I/\vQ I<=65535:=by
 have n:l∈J.1:=by have:=ae e;unfold z8 at this;rw[c.net]at this;exact this
 exact(((zHv c).rt l n).ifs i I f).ls h
end Go.Ve
namespace Go.Ve
noncomputable section
open Go Go.Proofs
abbrev PT:=Nat×Int×(Int×Int×Int×Int)
def qB9(a:Nat->Bool)(r:Nat)(xs:List (Ty.El zZ))(i:Nat):Option PT:=match xs[i]? with
 |some x=>if a i then Sa (r,wL x,((r:Int),(kD (qJ x) (jW x)).1,(kD (qJ x) (jW x)).2.1,vQ x))else none
 |none=>none
def zTI(a:Nat->Bool)(r:Nat)(xs:List (Ty.El zZ))(k:Nat):List PT:=(Ad k).filterMap (qB9 a r xs)
def qDZ(c:Nat->Nat->Bool)(a:List (List (Ty.El zZ)))(k:Nat):List PT:=(Ad k).flatMap fun r=>zTI (c r) r (a.getD r []) (a.getD r []).length
theorem zUG{α:Type}{l:List α}(h:l.Nodup){i j:Nat}(hi:i<l.length)(a:j<l.length)(c:l[i]=l[j]):i=j:=by
 grind[Nat.lt_trichotomy,Ag,hlt,absurd]
structure zUf(P:List PT)(S:List AR):Prop where
 nd:(S.map AR.num).Nodup
 pt:∀a,a∈S->a.parts=(P.filter (fun p=>p.2.1==a.num)).map (fun p=>p.2.2)
 mem:∀a,a∈S->∀r,a.mem r=Sb↔ ∃p,p∈P/\p.2.1=a.num/\p.1=r
 num:∀z:Int,z∈S.map AR.num↔ ∃p,p∈P/\p.2.1=z
theorem qDG:zUf [] []:=⟨Ai,(fun a h=>by cases h),(fun a h=>by cases h),(fun z=>by simp)⟩
theorem qGH{S:List AR}{num:Int}:(zPY S num=none/\num ∉ S.map AR.num)\/∃j a,zPY S num=Sa j/\S[j]?=Sa a/\a.num=num:=by
 unfold zPY
 cases h:S.findIdx? (fun a=>a.num==num)with
 |none=>
  grind
 |some j=>
  right;obtain⟨c,d,_⟩:=bc.1 h
  grind
theorem zUf.add{P:List PT}{S:List AR}(h:zUf P S)(r:Nat)(num:Int)(pt:Int×Int×Int×Int):zUf (P++[(r,num,pt)]) (xF S r num pt):=by
 unfold xF;have c:∀(z:Int) (g:Nat),(∃p,p∈P++[(r,num,pt)]/\p.2.1=z/\p.1=g)↔(∃p,p∈P/\p.2.1=z/\p.1=g)\/(num=z/\r=g):=by simp_all
 have d:∀z:Int,(∃p,p∈P++[(r,num,pt)]/\p.2.1=z)↔(∃p,p∈P/\p.2.1=z)\/num=z:=by simp_all
 have l:∀z:Int,(P++[(r,num,pt)]).filter (fun p=>p.2.1==z)=P.filter (fun p=>p.2.1==z)++(if num=z then[(r,num,pt)]else[]):=by
  grind
 rcases qGH (S:=S) (num:=num)with⟨C,n⟩|⟨j,a,C,n,q⟩
 .rw[C];simp only;refine⟨?_,fun a ha=>?_,fun a ha g=>?_,fun z=>?_⟩
  .rw[bu,Ak];refine⟨h.nd,by simp,fun x hx y hy H=>n ?_⟩;rw[H,show y=num from by simpa using hy]at hx;exact hx
  .rw[l];rcases aU.1 ha with ha|ha
   .have t:num≠a.num:=fun f=>n (f▸aO.2 ⟨a,ha,rfl⟩);rw[if_neg t,cj];exact h.pt a ha
   .rw[aK.1 ha];simp only[if_true]
    grind[num,List.filter_eq_nil_iff]
  .rw[c];rcases aU.1 ha with ha|ha
   .have t:num≠a.num:=fun f=>n (f▸aO.2 ⟨a,ha,rfl⟩);rw[h.mem a ha g]
    grind
   .rw[aK.1 ha];simp only;constructor
    .grind
    .rintro(⟨p,hp,u,_⟩|⟨_,u⟩)
     .grind[num,absurd]
     grind
  .rw[bu,aU,d,h.num]
   grind
 .rw[C];simp only;rw[n];simp only;obtain⟨hj,rfl⟩:=aa.1 n
  have e:(S.set j ⟨S[j].num,S[j].parts++[pt],fun k=>if k=r then Sb else S[j].mem k⟩).map AR.num=S.map AR.num:=by
   rw[c9]
   have:(S.map AR.num).set j S[j].num=S.map AR.num:=by
    have:S[j].num=(S.map AR.num)[j]'(by simpa using hj):=by simp
    rw[this,Ah]
   exact this
  have A:∀a,a∈S.set j ⟨S[j].num,S[j].parts++[pt],fun k=>if k=r then Sb else S[j].mem k⟩->(a∈S/\a.num≠num)\/a=⟨S[j].num,S[j].parts++[pt],fun k=>if k=r then Sb else S[j].mem k⟩:=by
   intro a ha;obtain⟨i,F,rfl⟩:=aA ha;rw[b6]at F;rw[cu];by_cases B:j=i
   .grind
   .rw[if_neg B];refine .inl ⟨aX _,fun I=>B ?_⟩;have D:(S.map AR.num)[i]?=Sa num:=by simp[F,I]
    have E:(S.map AR.num)[j]?=Sa num:=by simp[hj,q]
    obtain⟨i1,D⟩:=aa.1 D;obtain⟨J,E⟩:=aa.1 E;exact zUG h.nd J i1 (E.trans D.symm)
  have m:S[j]∈S:=aX _;refine⟨by rw[e];exact h.nd,fun a ha=>?_,fun a ha g=>?_,fun z=>?_⟩
  .rw[l];rcases A a ha with⟨u,G⟩|rfl
   .rw[if_neg (fun f=>G f.symm),cj];exact h.pt a u
   .simp only;rw[q,if_pos rfl,bu,h.pt _ m,q];rfl
  .rw[c];rcases A a ha with⟨u,G⟩|rfl
   .rw[h.mem a u g]
    grind
   .simp only;rw[<-h.mem _ m g,q]
    grind
  .rw[e,h.num,d];refine⟨.inl,fun f=>f.elim id (fun f=>?_)⟩;subst f;rw[<-q];exact(h.num _).1 (aO.2 ⟨_,m,rfl⟩)
theorem zRW{P:List PT}{S:List AR}(h:zUf P S)(c:Nat->Bool)(e:Int->Int->Int×Int)(d:∀a l,e a l=((kD a l).1,(kD a l).2.1))(r:Nat)(xs:List (Ty.El zZ)):∀k,zUf (P++zTI c r xs k) (wM c e r S xs k)
 |0=>by grind[zTI,wM]
 |k+1=>by
  have f:=zRW h c e d r xs k
  have g:zTI c r xs (k+1)=zTI c r xs k++(qB9 c r xs k).toList:=by
   grind[Al,zTI,qB9]
  rw[g,<-cn];simp only[wM,qB9]
  cases xs[k]? with
  |none=>simpa using f
  |some x=>
   simp only
   cases c k with
   |false=>simpa using f
   |true=>simp only[if_true,cd];rw[d];exact f.add r (wL x) _
theorem zRV(d:Nat->Nat->Bool)(e:Int->Int->Int×Int)(c:∀a l,e a l=((kD a l).1,(kD a l).2.1))(f:List (List (Ty.El zZ))):∀k,zUf (qDZ d f k) (qV d e f k)
 |0=>qDG
 |k+1=>by have g:=zRV d e c f k;unfold qDZ;rw[zPt];exact zRW g (d k) e c k _ _
theorem qEe(a l:Int):zN5 a l=((kD a l).1,(kD a l).2.1):=by unfold zN5;rw[xN]
def zGk(v:Ty.El zH):List PT:=qDZ (tpB v) ((z8 v).map vZ) (z8 v).length
def v6(v:Ty.El zH):List Int:=(zCB (qV (tpB v) (fun a l=>((kD a l).1,(kD a l).2.1)) ((z8 v).map vZ) (z8 v).length)).map AR.num
def zBt(v:Ty.El zH)(num:Int)(r:Nat):Bool:=(zGk v).any fun p=>p.2.1==num&&p.1==r
def kG(v:Ty.El zH)(num:Int)(r q:Nat):Int:=if r< (z8 v).length/\zBt v num r=Sb/\q< (z8 v).length then(zGz (z8 v).length (zDv v num) r).getD q 0 else-1
def zCo(v:Ty.El zH)(num:Int):List (Ty.El zJS):=((zGk v).filter (fun p=>p.2.1==num)).map (fun p=>((p.2.2.1,(p.2.2.2.1,p.2.2.2.2.1,()),p.2.2.2.2.2,()):Ty.El zJS))
def zHl(v:Ty.El zH)(num:Int):Ty.El qN:=(num,zCo v num,zDv v num,b8 (zBt v num),i88 (kG v num),())
theorem zO6(v:Ty.El zH):zUf (zGk v) (qV (tpB v) (fun a l=>((kD a l).1,(kD a l).2.1)) ((z8 v).map vZ) (z8 v).length):=zRV _ _ (fun _ _=>rfl) _ _
variable {g:Ty.El zH}
theorem zUF{z:Int}:z∈v6 g↔ ∃p,p∈zGk g/\p.2.1=z:=by rw[<-(zO6 g).num z];unfold v6;exact((cL _ _).map _).mem_iff
theorem zXR(v:Ty.El zH):(v6 v).Pairwise (· < ·):=by
 have d:(v6 v).Nodup:=((cL _ _).map AR.num).nodup_iff.2 (zO6 v).nd;have e:(v6 v).Pairwise (fun a b=>a<=b):=by unfold v6;rw[List.pairwise_map];refine(da (le:=fun a b:AR=>decide (a.num<=b.num)) (fun a b c d e=>?_) (fun a b=>?_) _).imp (fun h=>?_);all_goals grind
 exact(List.pairwise_and_iff.2 ⟨e,d⟩).imp (fun {a b} h=>by omega)
theorem zGj{p:PT}:p∈zGk g↔ ∃(r i:Nat) (d:Ty.El zG) (x:Ty.El zZ),(z8 g)[r]?=Sa d/\(vZ d)[i]?=Sa x/\tpB g r i=Sb/\p=(r,wL x,((r:Int),(kD (qJ x) (jW x)).1,(kD (qJ x) (jW x)).2.1,vQ x)):=by
 unfold zGk qDZ zTI;rw[bR];constructor
 .rintro⟨r,c,a⟩;have c:=aS.1 c;obtain⟨i,k,a⟩:=bm.1 a;have e:(z8 g)[r]?=Sa (z8 g)[r]:=by simp[c]
  have f:((z8 g).map vZ).getD r []=vZ (z8 g)[r]:=by simp_all
  unfold qB9 at a;rw[f]at a;split at a
  .rename_i x v;split at a
   .rename_i j;exact⟨r,i,_,x,e,v,j,(aW a).symm⟩
   .cases a
  .cases a
 .rintro⟨r,i,d,x,c,v,j,rfl⟩;have h:=(aa.1 c).1;have f:((z8 g).map vZ).getD r []=vZ d:=by simp_all
  refine⟨r,aS.2 h,bm.2 ⟨i,?_,?_⟩⟩
  .rw[f];exact aS.2 (aa.1 v).1
  simp_all[qB9]
theorem zXX{num:Int}{r:Nat}:zBt g num r=Sb↔ ∃(i:Nat) (a:Ty.El zG) (x:Ty.El zZ),(z8 g)[r]?=Sa a/\(vZ a)[i]?=Sa x/\tpB g r i=Sb/\wL x=num:=by
 unfold zBt;rw[bC];constructor
 .rintro⟨p,j,h⟩;rw[am,beq_iff_eq,beq_iff_eq]at h;obtain⟨k,i,a,x,c,d,e,rfl⟩:=zGj.1 j;obtain⟨f,v⟩:=h;simp only at f v;subst v;exact⟨i,a,x,c,d,e,f⟩
 .rintro⟨i,a,x,c,d,e,f⟩;refine⟨_,zGj.2 ⟨r,i,a,x,c,d,e,rfl⟩,?_⟩
  grind
variable {j:List Int}{i:Ty.El zJ}
theorem zZm(m:qE i j g):Wp (zP6 g (z8 g).length) (fun v=>∀r n c,(z8 g)[r]?=Sa c->n< (vZ c).length->(v.getD r []).getD n Sc=tpB g r n):=by
 unfold zP6;refine(zKl (R:=fun r l=>∀c,(z8 g)[r]?=Sa c->∀n,n< (vZ c).length->l.getD n Sc=tpB g r n) ?_).mono ?_
 .intro r h;have h:=aS.1 h;have e:(z8 g)[r]?=Sa (z8 g)[r]:=by simp[h]
  have p:(z8 g).getD r default=(z8 g)[r]:=by simp_all
  rw[p];refine(zKl (R:=fun n b=>b=tpB g r n) ?_).mono ?_
  .intro n f;have f:=aS.1 f;have k:(vZ (z8 g)[r])[n]?=Sa (vZ (z8 g)[r])[n]:=by simp[f]
   rw[k];exact zK (zF9 m.s e k _) (by simp)
  .rintro l ⟨q,t⟩ c a n f;rw[e]at a;cases a;rw[bY]at q;have d:n<l.length:=by omega
   have:=t n n l[n] (bh f) (by simp[d]);simp_all
 grind
theorem zQd(e c:Nat->Bool)(f d:Int->Int->Int×Int)(r:Nat)(S:List AR)(xs:List (Ty.El zZ))(g:∀a l,f a l=d a l):∀k,(∀i,i<xs.length->e i=c i)->wM e f r S xs k=wM c d r S xs k
 |0,_=>rfl
 |k+1,h=>by
  simp only[wM];rw[zQd e c f d r S xs g k h]
  cases j:xs[k]? with
  |none=>rfl
  |some x=>simp only;rw[h k (aa.1 j).1,g]
theorem zQc(g d:Nat->Nat->Bool)(e c:Int->Int->Int×Int)(f:List (List (Ty.El zZ)))(m:∀a l,e a l=c a l):∀k,(∀r i,r<k->i< (f.getD r []).length->g r i=d r i)->qV g e f k=qV d c f k
 |0,_=>rfl
 |k+1,h=>by simp only[qV];rw[zQc g d e c f m k (fun r i n j=>h r i (by omega) j)];exact zQd _ _ e c k _ _ m _ (fun i j=>h k i (by omega) j)
theorem zZr(d:qE i j g):Wp (zP6 g (z8 g).length) (fun c=>∃S,zTl g (z8 g).length c=S/\S.map AR.num=v6 g/\zUf (zGk g) S):=by
 refine(zZm d).mono (fun c h=>⟨_,rfl,?_⟩)
 have:zTl g (z8 g).length c=zCB (qV (tpB g) (fun a l=>((kD a l).1,(kD a l).2.1)) ((z8 g).map vZ) (z8 g).length):=by
  unfold zTl;congr 1;refine zQc _ _ _ _ _ qEe _ (fun r n k m=>?_)
  grind
 rw[this];refine⟨rfl,?_⟩;have e:=zO6 g;have f:(zCB (qV (tpB g) (fun a l=>((kD a l).1,(kD a l).2.1)) ((z8 g).map vZ) (z8 g).length)).Perm _:=cL _ _;exact⟨(f.map AR.num).nodup_iff.2 e.nd,fun a v=>e.pt a (f.mem_iff.1 v),fun a v=>e.mem a (f.mem_iff.1 v),fun z=>by rw[<-e.num z];grind⟩
def zJH(v:Ty.El zH)(p:Int×Nat):Option (Nat×Ty.El qN):=some (16*(p.2+1)+(z8 v).length,zHl v p.1)
def zTD(v:Ty.El zH):Ty.El qL:=(v,(((z8 v).length:Nat):Int),(v6 v).zipIdx.map (zJH v),())
theorem zXe(c:qE i j g){S:List AR}(h:zUf (zGk g) S){a:AR}(n:a∈S):zDF g (z8 g).length a=Sa (zHl g a.num):=by
 refine jS ?_;have k:(z8 g).length<=9:=c.s.rs;unfold zDF;refine zB (zK (zJX c a.num) ?_);have m:=zGw c.s a.num;have d:∀r,a.mem r=zBt g a.num r:=by intro r;rw[cR,h.mem a n r];simp_all[zBt]
 refine zB ((zKl (R:=fun r l=>a.mem r=Sb->l=zGz (z8 g).length (zDv g a.num) r) ?_).mono ?_)
 .intro r e;have e:=aS.1 e;by_cases t:a.mem r=Sb
  .rw[if_pos t];obtain⟨f,v⟩:=zHf (es:=zDv g a.num) (show(z8 g).length<=64 by omega) (by omega) e;refine zB (zK f ?_);rw[if_pos v.1];exact zA (fun _=>rfl)
  simp_all[zA]
 .rintro u ⟨x,A⟩;rw[bY]at x;refine zA ?_;unfold zHl;have f:a.parts.map (fun p=>((p.1,(p.2.1,p.2.2.1,()),p.2.2.2,()):Ty.El zJS))=zCo g a.num:=by rw[h.pt a n];simp_all[zCo]
  have v:b8 a.mem=b8 (zBt g a.num):=by
   grind[b8]
  have y:(fun r q=>if r< (z8 g).length/\a.mem r=Sb/\q< (z8 g).length then(u.getD r []).getD q 0 else-1)=kG g a.num:=by
   funext r q;unfold kG
   grind
  rw[f,v,y]
theorem qBo{α β:Type}{f:α->Option β}{g:α->β}:∀(xs:List α),(∀x,x∈xs->f x=Sa (g x))->zCw f xs=Sa (xs.map g)
 |[],_=>rfl
 |x::r,h=>by simp only[zCw];rw[h x (by simp),qBo r (fun z a=>h z (aw _ a))];rfl
theorem zXd{v:Ty.El zH}(e:qE i j v)(t:0< (z8 v).length):zFf v=Sa ((z8 v).length,zTD v):=by
 refine jS ?_;have c:=zHv e;have n:(z8 v).length<=8:=by have:=c.len;unfold z8;rw[e.net];exact this
 unfold zFf;simp only;rw[if_neg (by omega),if_neg ?_]
 .refine zB ((zZr e).mono ?_);rintro d ⟨S,k,l,m⟩;rw[k];refine zB (zK (qBo (g:=fun a:AR=>zHl v a.num) S (fun a p=>zXe e m p)) (zA ?_));unfold zTD;rw[<-l,Am,Am,dx,dx];rfl
 .rw[bC];rintro⟨r,f,h⟩;have q:r∈i.1:=by unfold z8 at f;rw[e.net]at f;exact f
  have:=(c.rt r q).ifl
  grind
end
end Go.Ve
namespace Go.Ve
open Go Go.Proofs
noncomputable abbrev zAE(v:Ty.El zH):Option (Nat×Ty.El qL):=some ((z8 v).length,zTD v)
theorem zZW{α:Type}(f:Nat->α){r:Nat}(h:r<8):idx [f 0,f 1,f 2,f 3,f 4,f 5,f 6,f 7] (r:Int)=Sa (f r):=by
 refine zM ?_
 match r,h with
 |0,_=>rfl
 |1,_=>rfl
 |2,_=>rfl
 |3,_=>rfl
 |4,_=>rfl
 |5,_=>rfl
 |6,_=>rfl
 |7,_=>rfl
 |n+8,h=>omega
variable {j:List Int}{g:Ty.El zH}{l:Ty.El zJ}
theorem yC(a:qE l j g):(z8 g).length<=8:=by have:=(zHv a).len;unfold z8;rw[a.net];exact this
theorem yK(e:qE l j g)(id:Nat)(num:Int)(r q:Nat):
  zV (Sa (id,zHl g num),(r:Int),(q:Int),())=Sa (kG g num r q):=by
 refine jS ?_;have d:=yC e;unfold zV;have f:∀h:8<=r\/8<=q,kG g num r q= -1:=fun h=>by unfold kG;omega
 by_cases i:8<=r
 .have a:decide ((r:Int)>=(8:Int))=true:=decide_eq_true (by omega);simp_all[zA]
 .have a:decide ((r:Int)>=(8:Int))=false:=decide_eq_false (by omega);simp only[a,cond_false,af];by_cases n:8<=q
  .have c:decide ((q:Int)>=(8:Int))=true:=decide_eq_true (by omega);simp_all[zA]
  .have c:decide ((q:Int)>=(8:Int))=false:=decide_eq_false (by omega);simp only[c,cond_false];refine zB (zK (zZW (fun r=>i8 (kG g num r)) (by omega)) ?_);refine zB (zK (zZW (fun q=>kG g num r q) (by omega)) ?_);exact zA rfl
noncomputable def zJu(v:Ty.El zH)(num:Int):Option (Nat×Ty.El qN):=match(v6 v).findIdx? (· ==num)with
 |some j=>zJH v (num,j)
 |none=>none
variable {i:Nat}{b0:Option (Nat×Ty.El qN)}
theorem qBt(a:((v6 g).zipIdx.map (zJH g))[i]?=Sa b0):∃z,(v6 g)[i]?=Sa z/\b0=zJH g (z,i)/\(v6 g).findIdx? (· ==z)=Sa i:=by
 rw[aB,List.getElem?_zipIdx]at a
 cases c:(v6 g)[i]? with
 |none=>grind
 |some z=>
  rw[c]at a;refine⟨z,rfl,by grind,?_⟩;obtain⟨d,rfl⟩:=aa.1 c
  grind[List.findIdx?_eq_some_iff_getElem,Ag,zXR]
theorem zE0(a:((v6 g).zipIdx.map (zJH g))[i]?=Sa b0):∃z,z∈v6 g/\b0=zJu g z/\b0=Sa (16*(i+1)+(z8 g).length,zHl g z):=by
 obtain⟨z,c,d,e⟩:=qBt a;refine⟨z,ae c,?_,d⟩
 grind[zJu]
theorem zDr(v:Ty.El zH):((v6 v).zipIdx.map (zJH v)).length=(v6 v).length:=by simp
variable {I:Int}
theorem zKL(h:I∈v6 g):∃id,zJu g I=Sa (id,zHl g I)/\id%16=(z8 g).length%16:=by
 unfold zJu
 cases a:(v6 g).findIdx? (· ==I)with
 |none=>
  grind
 |some j=>exact⟨_,rfl,by simp only;omega⟩
theorem zPX(h:I ∉ v6 g):zJu g I=none:=by
 grind[List.findIdx?_eq_some_iff_getElem,List.getElem_mem,zJu,v6,absurd]
variable {C:Ty.El zG}
theorem qBa(c:qE l j g)(h:C∈z8 g):C∈l.1:=by unfold z8 at h;rw[c.net]at h;exact h
theorem zSa(a:qE l j g):(zGk g).length<=64:=by
 unfold zGk qDZ
 have c:∀r,(zTI (tpB g r) r (((z8 g).map vZ).getD r []) (((z8 g).map vZ).getD r []).length).length<=8:=by
  intro r;unfold zTI;refine ai (bL _ _) ?_;rw[bY];by_cases h:r< (z8 g).length
  .have e:((z8 g).map vZ).getD r []=vZ (z8 g)[r]:=by simp_all
   rw[e];have d:(z8 g)[r]∈l.1:=qBa a (aX _);exact((zHv a).rt _ d).ifl
  grind
 have i:=zGu (f:=fun r=>zTI (tpB g r) r (((z8 g).map vZ).getD r []) (((z8 g).map vZ).getD r []).length) (m:=8) c (z8 g).length;have n:=yC a;omega
theorem zK1{α:Type}[DecidableEq α]:∀{l m:List α},l.Nodup->(∀x,x∈l->x∈m)->l.length<=m.length
 |[],_,_,_=>aY _
 |x::r,m,h,a=>by
  have c:=a x (by simp)
  have:=zK1 (l:=r) (m:=m.erase x) (List.nodup_cons.1 h).2 (fun y d=>by
   grind)
  grind
theorem zBL(a:qE l j g):(v6 g).length<=64:=by
 refine ai (zK1 (m:=(zGk g).map (fun p=>p.2.1)) ((zXR g).imp (fun h=>by omega)) (fun z c=>?_)) (by rw[aL];exact zSa a)
 grind[zUF]
theorem zUp(p:qE l j g)(num:Int):w6 (zAE g,num,())=Sa (zJu g num):=by
 refine jS ?_;unfold w6;have D:=zBL p;have q:=zDr g;dsimp only;rw[af];refine zAK (xs:=(v6 g).zipIdx.map (zJH g)) (by omega) (fun i=>∀d h,d<i->((v6 g).zipIdx.map (zJH g))[d]?=Sa h->∀id z,h=Sa (id,z)->z.1≠num) (fun d h e=>by omega) ?_ ?_
 .intro i h f e;obtain⟨z,F,r,m⟩:=zE0 f;refine zB (zK (zM f) ?_);refine zB (zK m ?_);refine zF (fun c=>zA ?_) (fun c=>zA ?_)
  .have c:z=num:=eq_of_beq (show(z==num)=Sb from c);subst c;exact r
  .have v:z≠num:=ne_of_beq_false (show(z==num)=Sc from c);clear c;refine⟨rfl,fun d t u k id x a=>?_⟩;by_cases n:d=i
   .subst n;rw[f]at k;cases k;rw[m]at a;cases a;exact v
   .exact e d t (by omega) k id x a
 .intro e;refine zA (zPX (fun y=>?_)).symm;obtain⟨d,A,B⟩:=aA y
  have C:((v6 g).zipIdx.map (zJH g))[d]?=Sa (zJH g (num,d)):=by
   grind
  exact e d _ (by omega) C _ _ rfl rfl
theorem zVY(h:zBt g I i=Sb):i< (z8 g).length/\I∈v6 g:=by obtain⟨v,c,x,a,d,e,f⟩:=zXX.1 h;exact⟨(aa.1 a).1,zUF.2 ⟨_,zGj.2 ⟨i,v,c,x,a,d,e,rfl⟩,f⟩⟩
theorem qA4(f:qE l j g)(r:Nat)(num:Int):vV (zAE g,(r:Int),num,())=Sa (zBt g num r):=by
 refine jS ?_;have i:=yC f;unfold vV;refine zB (zK (zUp f num) ?_);have c:zBt g num r≠Sb->zBt g num r=false:=fun h=>by simpa using h
 by_cases e:num∈v6 g
 .obtain⟨id,n,_⟩:=zKL e;rw[n];refine zB ?_;simp only[Aj,Bool.not_false,cond_true,af];refine zO (fun a=>?_) (fun a=>?_)
  .have a:(r:Int)< (((z8 g).length:Nat):Int):=a;refine zB (zK (zZW (zBt g num) (by omega)) ?_);exact zA (zA rfl)
  .have a:¬(r:Int)< (((z8 g).length:Nat):Int):=a;exact zA (zA (c (fun h=>a (by have:=(zVY h).1;omega))).symm)
 .rw[zPX e];refine zB ?_;simp;exact zA (zA (c (fun h=>e (zVY h).2)).symm)
def zOJ(v:Ty.El zH)(r:Nat):Bool:=zBt v 0 r&&(v6 v).any fun z=>z !=0&&zBt v z r
theorem zJY(c:qE l j g)(r:Nat):jI (zAE g,(r:Int),())=Sa (zOJ g r):=by
 refine jS ?_;have A:=yC c;have B:=zBL c;have n:=zDr g;unfold jI zOJ;refine zB (zK (qA4 c r 0) ?_)
 cases m:zBt g 0 r with
 |false=>exact zA rfl
 |true=>
  have C:=(zVY m).1;simp only[bH,cond_false,bV];rw[af];refine zAK (xs:=(v6 g).zipIdx.map (zJH g)) (by omega) (fun i=>∀d z,d<i->(v6 g)[d]?=Sa z->(z !=0&&zBt g z r)=Sc) (fun d z f=>by omega) ?_ ?_
  .intro i h v f;obtain⟨z,E,e,F⟩:=qBt v;have e:h=Sa (16*(i+1)+(z8 g).length,zHl g z):=e;subst e;refine zB (zK (zM v) ?_)
   have k:∀b:Bool,b=(z !=0&&zBt g z r)->Wp (bif b then Sa (Sum.inr (Sum.inr Sb))else Sa (Sum.inl (Ac .i64 ((i:Int)+(1:Int)))):Option (Int ⊕ (Unit ⊕ Bool)))
     (vB (fun p=>p=Ac .i64 ((i:Int)+1)/\∀d z,d<i+1->(v6 g)[d]?=Sa z->(z !=0&&zBt g z r)=Sc) (vB (fun _=>False) (fun b=>b=(v6 g).any fun z=>z !=0&&zBt g z r))):=by
    intro b G
    cases q:b with
    |true=>
     refine zA ?_;show Sb=_
     grind
    |false=>
     refine zA ⟨rfl,fun d H t u=>?_⟩
     grind
   refine zB ?_;rw[af];refine zF (fun a=>?_) (fun a=>?_)
   .have a:(z !=0)=true:=a;rw[af];refine zB (zK (zZW (zBt g z) (by omega)) (zA ?_));simp_all
   .have a:(z !=0)=false:=a
    grind[zA]
  .intro f;refine zA ?_;rw[eq_comm,List.any_eq_false];intro z x;obtain⟨d,y,rfl⟩:=aA x;simp_all
def zYM(v:Ty.El zH)(r:Nat)(p:Ty.El zD):Bool:=match(z8 v)[r]? with
 |some a=>(Ad (vZ a).length).any fun i=>match(vZ a)[i]? with
  |some x=>jW x !=0&&(zB3 (kD (qJ x) (jW x)) p&&upB v (r:Int) (i:Int))
  |none=>Sc
 |none=>Sc
theorem zEv(D:qE l j g)(E:i< (z8 g).length)(p:Ty.El zD):qO (zAE g,(i:Int),p,())=Sa (zYM g i p):=by
 refine jS ?_;have A:=D.s;have h:(z8 g)[i]?=Sa (z8 g)[i]:=by simp[E]
 generalize (z8 g)[i]=a at h;have q:(vZ a).length<=20:=(A.sm a (ae h)).i1;unfold qO;dsimp only;rw[af];have n:∀(K:Unit->Option Bool) (f:Ty.El zG->Option (Unit ⊕ Bool)),wB (Ae (idx (zTD g).1.1.1 (i:Int)) f) K=wB (f a) K:=by simp_all[idx,zTD]
 refine(show Wp _ _ from ?_);erw[n]
 have t:zYM g i p=(Ad (vZ a).length).any fun r=>match(vZ a)[r]? with
  |some x=>jW x !=0&&(zB3 (kD (qJ x) (jW x)) p&&upB g (i:Int) (r:Int))
  |none=>false:=by
  simp_all[zYM]
 rw[t];have B:a.2.2.1.length<=20:=q;refine zAK (xs:=a.2.2.1) (by omega) (fun k=>∀d x,d<k->(vZ a)[d]?=Sa x->(jW x !=0&&(zB3 (kD (qJ x) (jW x)) p&&upB g (i:Int) (d:Int)))=Sc) (fun d x u=>by omega) ?_ ?_
 .intro r x C u;have m:(vZ a)[r]?=Sa x:=C;refine zB (zK (zM C) ?_)
  have c:∀b:Bool,b=(jW x !=0&&(zB3 (kD (qJ x) (jW x)) p&&upB g (i:Int) (r:Int)))->Wp (bif b then Sa (Sum.inr (Sum.inr Sb))else Sa (Sum.inl (Ac .i64 ((r:Int)+(1:Int)))):Option (Int ⊕ (Unit ⊕ Bool)))
    (vB (fun F=>F=Ac .i64 ((r:Int)+1)/\∀d x,d<r+1->(vZ a)[d]?=Sa x->(jW x !=0&&(zB3 (kD (qJ x) (jW x)) p&&upB g (i:Int) (d:Int)))=Sc) (vB (fun _=>False) (fun b=>b=(Ad (vZ a).length).any fun r=>match(vZ a)[r]? with
     |some x=>jW x !=0&&(zB3 (kD (qJ x) (jW x)) p&&upB g (i:Int) (r:Int))
     |none=>Sc))):=by
   intro b n
   cases y:b with
   |true=>
    refine zA ?_;show Sb=_;rw[eq_comm,bC];refine⟨r,aS.2 (aa.1 m).1,?_⟩;rw[m,<-y];exact n.symm
   |false=>
    refine zA ⟨rfl,fun d G H z=>?_⟩;by_cases I:d=r
    .grind
    .exact u d G (by omega) z
  refine zB ?_;refine zF (fun e=>?_) (fun e=>?_)
  .have e:(jW x !=0)=true:=e;refine zB (zK (xN _ _) ?_);refine zF (fun v=>?_) (fun v=>?_)
   .have v:zB3 (kD (qJ x) (jW x)) p=true:=v;rw[af];refine zB ((zIA g i r A).mono (fun b n=>zA (c b ?_)));rw[e,v,n];rfl
   .have v:zB3 (kD (qJ x) (jW x)) p=false:=v;exact zA (c Sc (by rw[e,v];rfl))
  .have e:(jW x !=0)=false:=e;exact zA (c Sc (by rw[e];rfl))
 .intro u;refine zA ?_;simp_all
theorem zCr(e:(z8 g)[i]?=Sa C)(d:Int)(c:Ty.El zN):
  qF (zAE g,(i:Int),d,c,())=Sa (c.1,(3:Int),d,zN9 C,c.2.1,(0:Int),(0:Int),(0:Int),[],(0:Int),(0:Int),[],Sc,()):=by
 refine jS ?_;unfold qF;dsimp only;rw[af];exact zB (zK (show idx (zTD g).1.1.1 (i:Int)=Sa C from zM e) (zA rfl))
theorem zO4(l:List (Ty.El zN))(p:Ty.El zD)(a:l.length<0x4000000000000000):vF (l,p,())=Sa (zHy (fun x:Ty.El zN=>zB3 x.1 p) l):=by
 refine jS ?_;unfold vF;refine zB ?_;unfold vM;refine zFA a ?_ (zA rfl);intro i x c;rw[zM c,af];show Ae (u6 (x,p,())) _=_;have:u6 (x,p,())=Sa (zB3 x.1 p):=rfl
 grind
def zOQ(l:List (Ty.El zN)):Prop:=(l.map (fun x=>x.1)).Nodup
variable {a1:List (Ty.El zN)}
theorem qBk(h:zOQ a1){i j:Nat}{x y:Ty.El zN}(a:a1[i]?=Sa x)(c:a1[j]?=Sa y)(d:x.1=y.1):i=j:=by obtain⟨e,rfl⟩:=aa.1 a;obtain⟨f,rfl⟩:=aa.1 c;exact zUG h (i:=i) (j:=j) (by simpa using e) (by simpa using f) (by simpa using d)
structure qBJ(l l':List (Ty.El zN))(p:Ty.El zD)(c:Int):Prop where
 once:zOQ l'
 len:l'.length<=l.length+1
 at_:∀x,x∈l'↔(x∈l/\x.1≠p)\/(x.1=p/\x.2.1=c)
variable {a0:Ty.El zD}
theorem qBg(h:zOQ a1)(e:∀x,x∈a1->zB3 x.1 a0=Sc)(c:Int):qBJ a1 (a1++[(a0,c,())]) a0 c:=by
 have d:∀x,x∈a1->x.1≠a0:=fun x f g=>by
  grind[yY]
 refine⟨?_,by simp,fun x=>?_⟩
 .unfold zOQ;rw[bu,Ak];refine⟨h,by simp,fun a i b j=>?_⟩
  grind
 grind
theorem qBf(h:zOQ a1){i:Nat}{y:Ty.El zN}(g:a1[i]?=Sa y)(n:zB3 y.1 a0=Sb)(c:Int):qBJ a1 (a1.set i (y.1,c,())) a0 c:=by
 have d:y.1=a0:=yY.1 n;obtain⟨r,rfl⟩:=aa.1 g
 have k:(a1.set i (a1[i].1,c,())).map (fun x=>x.1)=a1.map (fun x=>x.1):=by
  grind[List.map_set,Ah]
 refine⟨by grind[zOQ],by simp,fun x=>?_⟩;constructor
 .intro e;obtain⟨j,f,rfl⟩:=aA e;rw[b6]at f;rw[cu];by_cases a:i=j
  .grind
  .rw[if_neg a];refine .inl ⟨aX _,fun m=>a ?_⟩;exact qBk h g (ah f) (d.trans m.symm)
 .rintro(⟨e,q⟩|⟨t,u⟩)
  .obtain⟨j,f,rfl⟩:=aA e;have a:i≠j:=fun m=>by grind
   refine ae (i:=j) ?_
   grind
  grind[List.mem_of_getElem?,List.getElem?_set_self]
theorem zLQ(l:List (Ty.El zN))(p:Ty.El zD)(c:Int)(h:zOQ l)(t:l.length<=1073741824):
  Wp (jC l ((p,c,()),())) (fun k=>∃m,qBJ l k p m/\m<=c/\(m=c\/((p,m,()):Ty.El zN)∈l)/\∀e,((p,e,()):Ty.El zN)∈l->m<=e):=by
 unfold jC;refine zB (zK (zO4 l p (by omega)) ?_);rcases zIU (fun x:Ty.El zN=>zB3 x.1 p) l with⟨d,a⟩|⟨i,y,d,a,j,u⟩
 .rw[d];simp;refine xZ (by grind) ⟨c,qBg h a c,dH _,.inl rfl,fun e f=>?_⟩;have:=a _ f;rw[yY.2 rfl]at this;cases this
 .rw[d];have n:decide (((i:Nat):Int)< (0:Int))=false:=decide_eq_false (by omega);simp only[n,cond_false];refine zB (zK (zM a) ?_);rw[aF];have q:y.1=p:=yY.1 j
  have g:∀e,((p,e,()):Ty.El zN)∈l->e=y.2.1:=fun e f=>by
   grind[List.getElem?_of_mem,qBk]
  have r:((p,y.2.1,()):Ty.El zN)∈l:=by
   grind
  refine zA ⟨_,qBf h a j _,?_,?_,fun e f=>?_⟩;all_goals grind
structure zJb(C:Ty.El zD->Int->Prop)(l:List (Ty.El zN)):Prop where
 once:zOQ l
 is:∀x,x∈l->C x.1 x.2.1
 le:∀p c,C p c->∃m,((p,m,()):Ty.El zN)∈l/\m<=c
theorem zZR:zJb (fun _ _=>False) []:=⟨Ai,(fun x h=>by cases h),(fun _ _ h=>False.elim h)⟩
variable {a4:Ty.El zD->Int->Prop}
theorem zJb.iff{D:Ty.El zD->Int->Prop}(h:zJb a4 a1)(a:∀p c,a4 p c↔D p c):zJb D a1:=⟨h.once,fun x hx=>(a _ _).1 (h.is x hx),fun p c hd=>h.le p c ((a p c).2 hd)⟩
theorem zJb.add(h:zJb a4 a1)(p:Ty.El zD)(c:Int)(k:a1.length<=1073741824):
  Wp (jC a1 ((p,c,()),())) (fun g=>zJb (fun q e=>a4 q e\/(q=p/\e=c)) g/\g.length<=a1.length+1):=by
 refine(zLQ a1 p c h.once k).mono ?_;rintro g ⟨m,a,n,i,r⟩;refine⟨⟨a.once,fun x hx=>?_,?_⟩,a.len⟩
 .rcases(a.at_ x).1 hx with⟨d,_⟩|⟨d,j⟩
  .exact .inl (h.is x d)
  .rcases i with rfl|i
   .grind
   .left;have:=h.is _ i
    grind
 .rintro q e (hq|⟨rfl,rfl⟩)
  .obtain⟨t,d,j⟩:=h.le q e hq;by_cases f:q=p
   .subst f;exact⟨m,(a.at_ _).2 (.inr ⟨rfl,rfl⟩),dz (r _ d) j⟩
   .exact⟨t,(a.at_ _).2 (.inl ⟨d,f⟩),j⟩
  .exact⟨m,(a.at_ _).2 (.inr ⟨rfl,rfl⟩),n⟩
def qFs(v:Ty.El zH)(num:Int)(r:Nat)(p:Ty.El zD)(c:Int):Prop:=
 ∃(q i:Nat) (a:Ty.El zG) (x:Ty.El zZ),(z8 v)[q]?=Sa a/\(vZ a)[i]?=Sa x/\tpB v q i=Sb/\wL x=num/\kD (qJ x) (jW x)=p/\0<=kG v num r q/\c=kG v num r q+vQ x
theorem zEo(a:qE l j g)(num:Int)(r q:Nat): -1<=kG g num r q/\kG g num r q<=117440505:=by
 have e:=yC a;unfold kG;split
 .rename_i h;have c:=zGw a.s num;have:=((zHf (es:=zDv g num) (show(z8 g).length<=64 by omega) (by omega) h.1).2).bnd h.1 h.2.2;omega
 .omega
theorem zEZ{z:Ty.El zJS}:z∈zCo g I↔ ∃(q i:Nat) (a:Ty.El zG) (x:Ty.El zZ),(z8 g)[q]?=Sa a/\(vZ a)[i]?=Sa x/\tpB g q i=Sb/\wL x=I/\z=((q:Int),kD (qJ x) (jW x),vQ x,()):=by
 unfold zCo;rw[aO];constructor
 .rintro⟨p,f,rfl⟩;obtain⟨v,h⟩:=aV.1 f;obtain⟨q,i,a,x,c,d,e,rfl⟩:=zGj.1 v;exact⟨q,i,a,x,c,d,e,by simpa using h,rfl⟩
 .rintro⟨q,i,a,x,c,d,e,j,rfl⟩;exact⟨_,aV.2 ⟨zGj.2 ⟨q,i,a,x,c,d,e,rfl⟩,by simpa using j⟩,rfl⟩
theorem zQC(a:qE l j g)(num:Int):(zCo g num).length<=64:=by
 grind[An,Nat.le_trans,List.length_filter_le,zSa,zCo]
theorem kZ{α:Type}{xs:List α}{x:α}(h:xs[i]?=Sa x){y:α}:y∈xs.take (i+1)↔y∈xs.take i\/y=x:=by rw[bP,h,cd,aU,aK]
theorem zIB(G:qE l j g)(a:Option (Nat×Ty.El qL))(id:Nat)(num:Int)(r:Nat):
  Wp (jA (a,Sa (id,zHl g num),(r:Int),())) (fun n=>zJb (qFs g num r) n/\n.length<=64):=by
 unfold jA;have N:=zQC G num;refine zB ?_;rw[af];refine uO (xs:=zCo g num) (by omega) (fun k (v:List (Ty.El zN))=>zJb (fun p c=>∃z,z∈(zCo g num).take k/\z.2.1=p/\0<=kG g num r z.1.toNat/\c=kG g num r z.1.toNat+z.2.2.1) v/\v.length<=k) ?_ ?_ ?_
 .exact⟨zZR.iff (fun p c=>by simp),aj _⟩
 .rintro i z v m ⟨C,J⟩;have P:=(aa.1 m).1;obtain⟨q,d,H,x,A,B,D,I,E⟩:=zEZ.1 (ae m);refine zB (zK (zM m) ?_);have F:z.1=(q:Int):=by rw[E]
  have M:zV (Sa (id,zHl g num),(r:Int),z.1,())=Sa (kG g num r q):=by rw[F];exact yK G id num r q
  refine zB (zK M ?_);have Q:=zEo G num r q;have S:=qEr G A B (zNq A B D).2.1;have u:z.2.2.1=vQ x:=by rw[E]
  refine zO (fun K=>?_) (fun K=>?_)
  .refine zB ((C.add z.2.1 _ (by omega)).mono (fun W L=>zA ?_));refine⟨L.1.iff (fun p c=>?_),by omega⟩;rw[u,zI (by omega) (by omega)];constructor
   .rintro(⟨y,e,f⟩|⟨rfl,rfl⟩)
    .exact⟨y,(kZ m).2 (.inl e),f⟩
    .refine⟨z,(kZ m).2 (.inr rfl),rfl,?_,?_⟩
     .rw[F];exact K
     .rw[F,u];rfl
   .rintro⟨y,e,f,h,t⟩;rcases(kZ m).1 e with e|rfl
    .exact .inl ⟨y,e,f,h,t⟩
    .refine .inr ⟨f.symm,?_⟩;rw[t,F,u];rfl
  .refine zA ⟨C.iff (fun p c=>?_),(show v.length<=i+1 by omega)⟩;constructor
   .rintro⟨y,e,f⟩;exact⟨y,(kZ m).2 (.inl e),f⟩
   .rintro⟨y,e,f,h,t⟩;rcases(kZ m).1 e with e|rfl
    .exact⟨y,e,f,h,t⟩
    .rw[F]at h;exact absurd h K
 .rintro v ⟨C,J⟩;rw[bD]at C;refine zA ⟨C.iff (fun p c=>?_),by omega⟩;constructor
  .rintro⟨z,e,f,h,t⟩;obtain⟨q,d,H,x,A,B,D,I,rfl⟩:=zEZ.1 e;exact⟨q,d,H,x,A,B,D,I,f,h,t⟩
  .rintro⟨q,d,H,x,A,B,D,I,f,h,t⟩;exact⟨_,zEZ.2 ⟨q,d,H,x,A,B,D,I,rfl⟩,f,h,t⟩
def qGL(v:Ty.El zH)(r:Nat)(h:Ty.El zP):Prop:=
 ∃a i c x q j d y,qAS v a r i c x q j d y/\h=((i:Int),qJ y,())
structure zDH(v:Ty.El zH)(r:Nat)(l:List (Ty.El zP)):Prop where
 so:l.Pairwise hlt
 ok:∀h,h∈l->qGL v r h
variable {J:Nat}{a6:Ty.El zP}
theorem zT1(f:qE l j g){m:Int}{num:Nat}(v:zKR i (zDv g I) J num a6):qGL g J a6:=by
 obtain⟨_,e,n,_,a,_,_,rfl⟩:=v;obtain⟨c,p,t,x,q,d,u,y,z,rfl⟩:=(zSs f).1 n;have:c=J:=by have a:((c:Nat):Int)=(J:Int):=a;omega
 subst this;exact⟨I,p,t,x,q,d,u,y,z,rfl⟩
def zK7(v:Ty.El zH)(r:Nat):List (Ty.El zP):=(Ad 20).flatMap fun i=>(zVU v r i).filterMap fun e=>(zTo v e).map fun a=>((i:Int),a,())
variable {P:List (Ty.El zP)}
theorem qCu(h:P.Pairwise hlt):P.Nodup:=h.imp (fun {a b} c e=>by subst e;exact zHb.asym _ _ c c)
theorem zAa(c:qE l j g)(h:zDH g i P):P.length<=7200:=by
 have d:(zK7 g i).length<=20*360:=by unfold zK7;refine zGu (m:=360) (fun v=>?_) 20;exact ai (bL _ _) (zN6 c.s _ _ _)
 refine ai (zK1 (m:=zK7 g i) (qCu h.so) (fun x k=>?_)) d;obtain⟨p,v,e,u,q,n,f,y,a,rfl⟩:=h.ok x k;unfold zK7;have z:=(aa.1 a.hx).1;have t:(vZ e).length<=20:=(c.s.sm e (ae a.hr)).i1;refine bR.2 ⟨v,aS.2 (by omega),bm.2 ⟨_,a.nb,?_⟩⟩;unfold zTo;simp only[aF];rw[show g.1.1[q]?=Sa f from a.hq];simp only;rw[show f.2.2.1[n]?=Sa y from a.hy];rfl
structure zWH(v:Ty.El zH)(num:Int)(r q:Nat)(l:List (Ty.El zP)):Prop where
 so:l.Pairwise hlt
 mem:∀h,h∈l↔zKR (z8 v).length (zDv v num) r q h
theorem zWH.ok(a:qE l j g)(h:zWH g I i J P):zDH g i P:=
 ⟨h.so,fun x hx=>zT1 (m:=0) a ((h.mem x).1 hx)⟩
theorem zGY(e:qE l j g)(f:I∈v6 g)(v:i< (z8 g).length)(p:J< (z8 g).length):
  Wp (qC (zAE g,zJu g I,(i:Int),(J:Int),())) (zWH g I i J):=by
 have t:=yC e;have h:=zGw e.s I;obtain⟨id,num,u⟩:=zKL f;unfold qC;rw[num];simp only[af];have d:(decide ((zTD g).2.1=((id%16:Nat):Int))&&(decide ((0:Int)<=(i:Int))&&decide ((i:Int)< (8:Int))))=true:=by simp only[am,decide_eq_true_eq];refine⟨?_,by omega,by omega⟩;show(((z8 g).length:Nat):Int)=_;omega
 rw[d,cond_true];refine zB ((zTx (z8 g).length (zDv g I) i (by omega) (by omega) v).mono ?_);rintro c ⟨x,k⟩;have hlt:decide ((J:Int)>=((Aa c:Nat):Int))=false:=decide_eq_false (by omega);rw[hlt,cond_false];have a:c[J]?=Sa (c[J]'(by omega)):=by simp
 refine zK (zM a) ?_;obtain⟨n,_,m⟩:=k J _ a;exact⟨n,m⟩
theorem zKV(e:qE l j g)(h:zWH g I i J P)(a:J≠i)(c:0<=kG g I i J):P≠[]:=by
 have n:=yC e;have d:=zGw e.s I;unfold kG at c;split at c
 .rename_i f;obtain⟨x,v⟩:=qCF (by omega) (by omega) f.1 f.2.2 a c;intro k;have:=(h.mem x).2 v
  grind
 .omega
theorem zMm(a b:List (Ty.El zP))(g:a.length<=1048576)(h:b.length<=1048576):Wp (xK (a,b,())) (fun l=>zWJ l (a++b)):=by
 unfold xK;have i:(a++b)=([a,b]:List (List (Ty.El zP))).flatten:=by simp
 have d:(a++b).length=a.length+b.length:=aN;refine zB (zK (x:=a++b) ?_ ?_)
 .unfold zDb
  grind
 .have c:(Nat.beq (Aa (a++b)) (Aa (a++b))&&Nat.beq (Aa (a++b)) (Aa (a++b)))=true:=by simp
  rw[c,cond_true];obtain⟨l,e,f⟩:=zRp (a++b) (by omega);refine⟨l,?_,f⟩;rw[<-e];show Ae (jG (a++b) ((),())) _=_
  grind
theorem zWU{b l:List (Ty.El zP)}(h:zWJ l (P++b))(d:zDH g i P)(e:zDH g i b):zDH g i l:=
 ⟨h.1,fun x c=>by
  rcases aU.1 ((h.2.2 x).1 c)with c|c
  .exact d.ok x c
  .exact e.ok x c⟩
structure zNi(G:Ty.El zD->Int->Prop)(l:List (Ty.El zN)):Prop where
 once:zOQ l
 all:∀x,x∈l->G x.1 x.2.1
theorem zYV:zNi a4 []:=⟨Ai,(fun x h=>by cases h)⟩
theorem zNi.put{a:List (Ty.El zN)}(h:zNi a4 a1)(hp:qBJ a1 a a0 I)(e:a4 a0 I):zNi a4 a:=
 ⟨hp.once,fun x hx=>by
  rcases(hp.at_ x).1 hx with⟨d,_⟩|⟨d,f⟩
  .exact h.all x d
  grind⟩
theorem zNi.add(h:zNi a4 a1){p:Ty.El zD}{c:Int}(f:a4 p c)(g:a1.length<=1073741824):
  Wp (jC a1 ((p,c,()),())) (fun a=>zNi a4 a/\a.length<=a1.length+1):=by
 refine(zLQ a1 p c h.once g).mono ?_;rintro a ⟨m,e,i,d,j⟩;refine⟨h.put e ?_,e.len⟩;rcases d with rfl|d
 .exact f
 .exact h.all _ d
def zWr(p q:Ty.El zD):Bool:=decide (p.2.1<=q.2.1)&&zJs p q.1
def zLV(a:Ty.El zG)(num:Int)(p:Ty.El zD):Option (Ty.El vP):=(zAf a).find? fun x=>x.1==num&&zWr x.2.1 p
theorem qBb(c:qE l j g)(e:(z8 g)[i]?=Sa C):(zAf C).length<=20:=(c.s.sm C (ae e)).i7
theorem zTB{n:Ty.El zJ}(t:qE n j g)(id:Nat)(num:Int){b:Nat}(q:(z8 g)[b]?=Sa C)(p:Ty.El zD):
  wJ (zAE g,Sa (id,zHl g num),(b:Int),p,())=Sa (match zLV C num p with
   |some x=>(x.2.1,Sb,())
   |none=>(((0:Int),(0:Int),()),Sc,())):=by
 refine jS ?_;have A:=qBb t q;unfold wJ;simp only[af];have l:idx (zTD g).1.1.1 (b:Int)=Sa C:=zM q;refine jU ?_;refine zB (zK l ?_);refine zF5 (n:=(zAf C).length) (c:=fun _=>(((zAf C).length:Nat):Int)) (by omega) (fun i (_:Ty.El zD)=>∀x,x∈(zAf C).take i->(x.1==num&&zWr x.2.1 p)=Sc) (by simp) (fun _ _ _=>rfl) ?_ ?_
 .intro i v u d;have f:(zAf C)[i]?=Sa (zAf C)[i]:=by simp[u]
  generalize (zAf C)[i]=x at f;refine zB (zK (zM f) ?_)
  have e:∀c:Bool,c=(x.1==num&&zWr x.2.1 p)->Wp (bif c then Sa (Sum.inr (Sum.inr (x.2.1,Sb,())))else Sa (Sum.inl (Ac .i64 ((i:Int)+(1:Int)),v)):Option ((Int×Ty.El zD) ⊕ (Ty.El zD ⊕ (Ty.El zD×Bool×Unit))))
    (vB (fun o=>o.1=Ac .i64 ((i:Int)+(1:Int))/\∀x,x∈(zAf C).take (i+1)->(x.1==num&&zWr x.2.1 p)=Sc) (vB (fun s=>Wp (Sa (((0:Int),(0:Int),()),Sc,())) (fun r=>r=match zLV C num p with
     |some x=>(x.2.1,Sb,())
     |none=>(((0:Int),(0:Int),()),Sc,()))) (fun r=>r=match zLV C num p with
     |some x=>(x.2.1,Sb,())
     |none=>(((0:Int),(0:Int),()),Sc,())))):=by
   intro c z
   cases m:c with
   |true=>
    refine zA ?_;have:zLV C num p=Sa x:=by unfold zLV;rw[List.find?_eq_some_iff_append];refine⟨by rw[<-z,m],(zAf C).take i,(zAf C).drop (i+1),?_,fun y k=>by rw[d y k];rfl⟩;obtain⟨_,rfl⟩:=aa.1 f;simp_all
    show(x.2.1,Sb,())=_;rw[this]
   |false=>
    refine zA ⟨rfl,fun y k=>?_⟩;rcases(kZ f).1 k with k|rfl
    .exact d y k
    grind
  refine zB ?_;refine zF (fun h=>?_) (fun h=>?_)
  .have h:(x.1==num)=true:=h;refine zB (zK (zEf _ _) (zA (e _ ?_)));rw[h];rfl
  .have h:(x.1==num)=false:=h;exact zA (e _ (by rw[h];rfl))
 .intro v d;rw[bD]at d;refine zA (e2r (zA ?_));have:zLV C num p=none:=by unfold zLV;rw[List.find?_eq_none];intro x f;rw[d x f];simp
  rw[this]
def qGJ(v:Ty.El zH)(num:Int)(b:Nat)(a:Ty.El zG)(p:Ty.El zD)(c:Int):Prop:=
 ∃q,qFs v num b q c/\((zLV a num q=none/\p=q)\/∃x,zLV a num q=Sa x/\p=x.2.1)
theorem zVy(B:qE l j g)(id:Nat)(num:Int){b:Nat}(D:(z8 g)[b]?=Sa C):
  Wp (wQ (zAE g,Sa (id,zHl g num),(b:Int),())) (fun n=>zNi (qGJ g num b C) n/\n.length<=64):=by
 unfold wQ;refine zB (zB ((zIB B (zAE g) id num b).mono ?_));rintro E ⟨F,G⟩;refine uO (xs:=E) (by omega) (fun k (v:List (Ty.El zN))=>zNi (qGJ g num b C) v/\v.length<=k) ⟨zYV,aj _⟩ ?_ (fun v a=>zA ⟨a.1,by omega⟩);rintro i x v r ⟨a,H⟩;have M:=(aa.1 r).1;have h:=F.is x (ae r);refine zB (zK (zM r) ?_);refine zB (zK (zTB B id num D x.1) ?_)
 cases d:zLV C num x.1 with
 |none=>
  simp only[Bool.not_false,cond_true];obtain⟨p,c,⟨⟩⟩:=x;refine zB ((a.add (p:=p) (c:=c) ⟨p,h,.inl ⟨d,rfl⟩⟩ (by omega)).mono (fun N t=>zA ⟨t.1,by omega⟩))
 |some m=>
  have u:qGJ g num b C m.2.1 x.2.1:=⟨x.1,h,.inr ⟨m,d,rfl⟩⟩
  simp only[bH,cond_false];refine zB (zK (zO4 v m.2.1 (by omega)) ?_);rcases zIU (fun x:Ty.El zN=>zB3 x.1 m.2.1) v with⟨z,e⟩|⟨k,y,z,e,f,O⟩
  .rw[z];simp only[show decide ((-1:Int)>=0)=Sc by decide,cond_false];have A:=qBg a.once e x.2.1;refine zB (xZ (by grind) (zA ⟨a.put A u,by grind⟩))
  .have I:y.1=m.2.1:=yY.1 f;have J:=a.all y (ae e);have P:=(aa.1 e).1;rw[z];have K:decide (((k:Nat):Int)>=(0:Int))=true:=decide_eq_true (by omega);simp only[K,cond_true,aF];have q:atN v k=Sa y:=by grind[atN]
   refine zB (zK (zM e) (zB (zK q (zB (zK (zM e) (zB (zK q (zA ?_))))))));have A:=qBf a.once e f (if x.2.1>y.2.1 then x.2.1 else y.2.1);refine⟨a.put A ?_,by grind⟩;split;all_goals grind
def psL(v:Ty.El zH):List (Ty.El zD):=(z8 v).flatMap fun a=>(vZ a).map (fun x=>kD (qJ x) (jW x))++(zAf a).map (fun x=>x.2.1)
theorem zUW{α β:Type}{f:α->List β}{m:Nat}:∀(l:List α),(∀x,x∈l->(f x).length<=m)->(l.flatMap f).length<=l.length*m
 |[],_=>by simp
 |x::r,h=>by have c:=h x (by simp);have d:=zUW r (fun y a=>h y (aw _ a));rw[List.flatMap_cons,aN,aH,bB];omega
theorem qF4(e:qE l j g):(psL g).length<=224:=by
 have d:=yC e
 have:=zUW (f:=fun a=>(vZ a).map (fun x=>kD (qJ x) (jW x))++(zAf a).map (fun x=>x.2.1)) (m:=28) (z8 g) (fun a c=>by
  have h:=((zHv e).rt a (qBa e c)).ifl;have i:(zAf a).length<=20:=(e.s.sm a c).i7
  grind)
 have n:(z8 g).length*28<=8*28:=aq _ d;unfold psL;omega
variable {a5:Ty.El zZ}
theorem qF3(c:(z8 g)[i]?=Sa C)(d:(vZ C)[J]?=Sa a5):kD (qJ a5) (jW a5)∈psL g:=
 bR.2 ⟨C,ae c,cI _ (aO.2 ⟨a5,ae d,rfl⟩)⟩
theorem qF2{x:Ty.El vP}(c:(z8 g)[i]?=Sa C)(d:x∈zAf C):x.2.1∈psL g:=
 bR.2 ⟨C,ae c,dt _ (aO.2 ⟨x,d,rfl⟩)⟩
def Con(v:Ty.El zH)(r q:Nat):Prop:= ∀c:Nat->Int,(∀a b,(∃d i e x j f y,qAS v d a i e x b j f y)->c a=c b)->c r=c q
theorem Con.refl(v:Ty.El zH)(r:Nat):Con v r r:=fun _ _=>rfl
theorem Con.trans{v:Ty.El zH}{r q s:Nat}(h:Con v r q)(k:Con v q s):Con v r s:=fun c a=>(h c a).trans (k c a)
theorem qBQ{E:List Arc}{c:Nat->Int}(f:∀e,e∈E->c e.a=c e.b){l:List Nat}(h:xX E i l J):∀t d,l=t::d->c i=c t:=by
 induction h with
 |nil=>intro t d h;cases h;rfl
 |snoc e m g s j=>intro t d h;cases h;exact(j _ _ rfl).trans (s▸f e g)
theorem zKG{n:Ty.El zJ}(f:qE n j g)(h:0<=kG g I i J):Con g i J:=by
 have E:=yC f;have t:=zGw f.s I;intro c u;unfold kG at h;split at h
 .rename_i m;obtain⟨_,z⟩:=(zHf (n:=(z8 g).length) (es:=zDv g I) (by omega) (by omega) m.1).2;rcases z J m.2.2 with⟨p,_⟩|⟨k,_,⟨l,p⟩,_⟩
  .omega
  .refine qBQ (fun e A=>?_) p J l rfl;obtain⟨G,v,rfl⟩:=aO.1 A;obtain⟨a,num,B,x,b,d,C,y,D,rfl⟩:=(zSs f).1 (aV.1 v).1;exact u a b ⟨I,num,B,x,d,C,y,D⟩
 .omega
def psC(v:Ty.El zH)(r:Nat)(p:Ty.El zD):Prop:= ∃q a,(z8 v)[q]?=Sa a/\Con v r q/\
 ((∃(i:Nat) (x:Ty.El zZ),(vZ a)[i]?=Sa x/\upB v (q:Int) (i:Int)=Sb/\p=kD (qJ x) (jW x))\/∃g,g∈zAf a/\p=g.2.1)
theorem psC.psL{v:Ty.El zH}{r:Nat}{p:Ty.El zD}(h:psC v r p):p∈psL v:=by
 obtain⟨q,d,c,_,⟨i,x,a,_,rfl⟩|⟨g,a,rfl⟩⟩:=h
 .exact qF3 c a
 .exact qF2 c a
theorem psC.of(h:psC g J a0)(k:Con g i J):psC g i a0:=by obtain⟨a,b,c,e,f⟩:=h;exact⟨a,b,c,k.trans e,f⟩
theorem psC.rng{v:Ty.El vP}(c:(z8 g)[i]?=Sa C)(d:v∈zAf C):psC g i v.2.1:=⟨i,C,c,.refl g i,.inr ⟨v,d,rfl⟩⟩
def PC(v:Ty.El zH)(r:Nat)(hi:Int)(p:Ty.El zD)(c:Int):Prop:=psC v r p/\1<=c/\c<=hi
theorem zPZ(e:qE l j g)(h:zNi (PC g i I) a1):a1.length<=224:=by
 have:=zK1 (m:=psL g) h.once (fun p a=>by
  obtain⟨x,c,rfl⟩:=aO.1 a
  exact(h.all x c).1.psL)
 grind[An,Nat.le_trans,qF4]
variable {a3:Int}
theorem zYw(f:qE l j g)(h:qFs g I i a0 a3):PC g i 117506040 a0 a3:=by obtain⟨q,num,d,x,a,e,v,n,rfl,k,rfl⟩:=h;have m:=zEo f I i q;have t:=qEr f a e (zNq a e v).2.1;exact⟨⟨q,d,a,zKG f k,.inl ⟨num,x,e,(zNq a e v).2.2,rfl⟩⟩,by omega,by omega⟩
theorem qFF(d:qE l j g)(v:(z8 g)[i]?=Sa C)(h:qGJ g I i C a0 a3):PC g i 117506040 a0 a3:=by
 obtain⟨q,n,a⟩:=h;have f:=zYw d n;rcases a with⟨_,rfl⟩|⟨x,a,rfl⟩
 .exact f
 .exact⟨psC.rng v (List.mem_of_find?_eq_some a),f.2⟩
abbrev zMt(y:Ty.El zC):List (Ty.El zP):=y.2.2.2.2.2.2.2.2.2.2.2.1
abbrev zVG(y:Ty.El zC):Bool:=y.2.2.2.2.2.2.2.2.2.2.2.2.1
abbrev zDZ(y:Ty.El zC):Int:=y.2.2.2.2.1
structure zDW(v:Ty.El zH)(r:Nat)(ro:Ty.El zG)(hi:Int)(y:Ty.El zC):Prop where
 proto:y.2.1=(3:Int)
 adm:y.2.2.2.1=zN9 ro
 inner:y.2.2.2.2.2.1=(0:Int)
 tag:y.2.2.2.2.2.2.1=(0:Int)
 pref:y.2.2.2.2.2.2.2.1=(0:Int)
 path:y.2.2.2.2.2.2.2.2.1=[]
 frm:y.2.2.2.2.2.2.2.2.2.1=(0:Int)
 nxt:y.2.2.2.2.2.2.2.2.2.2.1=(0:Int)
 on:zQ2 ro=Sb
 pre:psC v r y.1
 att:zYM v r y.1=Sc
 hops:zDH v r (zMt y)
 kind:(zVG y=Sb/\y.2.2.1=(1:Int)/\zDZ y=0/\zMt y=[])\/(zVG y=Sc/\(y.2.2.1=(1:Int)\/y.2.2.1=(2:Int))/\1<=zDZ y/\zDZ y<=hi/\zMt y≠[])
variable {a2:Ty.El zC}
theorem zDW.mono(h:zDW g i C I a2)(d:I<=a3):zDW g i C a3 a2:=
 { h with kind:=h.kind.imp id (fun k=>⟨k.1,k.2.1,k.2.2.1,dz k.2.2.2.1 d,k.2.2.2.2⟩) }
theorem zZO(c:(z8 g)[i]?=Sa C)(h:zBt g I i=Sb):zQ2 C=true:=by obtain⟨num,e,x,d,f,v,_⟩:=zXX.1 h;rw[c]at d;cases d;exact(zNq c f v).1
theorem qE3(h:0<=kG g I i J):i< (z8 g).length/\zBt g I i=Sb/\J< (z8 g).length:=by
 grind[kG]
theorem qDh(f:qE l j g)(k:(z8 g)[i]?=Sa C)(n:(vZ C)[J]?=Sa a5)(h:upB g (i:Int) (J:Int)=Sb):jW a5≠0/\qJ a5≠0:=by
 obtain⟨t,⟨_,_,v,p,q,u,m,_⟩,_⟩:=zWh f h;have c:l.1[i]?=Sa v:=by simpa using q
 have d:l.1[i]?=Sa C:=by rw[<-f.net];exact k
 rw[d]at c;cases c;have e:(vZ C)[J]?=Sa p:=by simp_all
 rw[n]at e;cases e;exact⟨m,(((zHv f).rt C (qBa f (ae k))).ifs J a5 n).addr m⟩
theorem qBF(f:qE l j g)(e:(z8 g)[i]?=Sa C)(a:(vZ C)[J]?=Sa a5)(h:upB g (i:Int) (J:Int)=Sb):zYM g i (kD (qJ a5) (jW a5))=true:=by unfold zYM;rw[e];simp only;rw[bC];refine⟨J,aS.2 (aa.1 a).1,?_⟩;rw[a];simp only;rw[h,yY.2 rfl];simpa using (qDh f e a h).1
theorem zZo(A:qE l j g)(hr:(z8 g)[i]?=Sa C):
  Wp (vO (zAE g,(i:Int),())) (fun n=>(∀y,y∈n->zDW g i C 117506040 y)/\n.length<=4096):=by
 have Q:=(aa.1 hr).1;have ay:=zBL A;have a0:=zDr g;unfold vO;refine zB ?_;simp only[af];refine uO (xs:=(v6 g).zipIdx.map (zJH g)) (by omega) (fun k (v:List (Ty.El zC))=>(∀y,y∈v->zDW g i C 117506040 y)/\v.length<=64*k) ⟨(fun y h=>by cases h),by simp⟩ ?_ (fun v hg=>zA ⟨hg.1,by omega⟩);rintro a h v p ⟨hg,a1⟩;have a2:=(aa.1 p).1;obtain⟨e,S,hH,W⟩:=zE0 p;refine zB (zK (zM p) ?_);rw[W];refine zB ((zIB A (zAE g) _ e i).mono ?_);rintro cs ⟨hc,a3⟩;refine uO (xs:=cs) (by omega) (fun k (O:List (Ty.El zC))=>(∀y,y∈O->zDW g i C 117506040 y)/\O.length<=64*a+k) ⟨hg,by omega⟩ ?_ (fun O D=>⟨D.1,by omega⟩);rintro d c O I ⟨D,ax⟩;have a4:=(aa.1 I).1;have J:=hc.is c (ae I);have K:=zYw A J;refine zB (zK (zM I) ?_);refine zB (zK (zEv A Q c.1) ?_);refine zF (fun E=>zA ⟨D,(show O.length<=64*a+(d+1) by omega)⟩) (fun E=>?_);refine zB (zK (zCr hr 1 c) ?_);have a5:=zQC A e;refine zB ?_;simp only[af]
 refine uO (xs:=zCo g e) (by omega) (fun k (s:List (Ty.El zC)×Ty.El zC)=>s.1=O/\∃f,s.2=(c.1,(3:Int),(1:Int),zN9 C,c.2.1,(0:Int),(0:Int),(0:Int),[],(0:Int),(0:Int),f,Sc,())/\zDH g i f/\
  ((∃z,z∈(zCo g e).take k/\z.2.1=c.1/\z.1≠(i:Int)/\0<=kG g e i z.1.toNat/\kG g e i z.1.toNat+z.2.2.1=c.2.1)->f≠[])) ?_ ?_ ?_
 .exact⟨rfl,[],rfl,⟨List.Pairwise.nil,(fun h p=>by cases p)⟩,(fun⟨z,Y,_⟩=>by simp at Y)⟩
 .rintro k z ⟨g1,y⟩ Y ⟨Z,f,e2,P,F⟩;simp only at Z e2;subst Z e2;obtain⟨q,r,qo,x,H,L,h5,h6,ab⟩:=zEZ.1 (ae Y);have hq:z.1=(q:Int):=by rw[ab]
  have an:=(aa.1 H).1;have ao:z.2.2.1=vQ x:=by rw[ab]
  have hb:=zEo A e i q;have ap:=qEr A H L (zNq H L h5).2.1;refine zB (zK (zM Y) ?_);simp only;have hd:zV (Sa (16*(a+1)+(z8 g).length,zHl g e),(i:Int),z.1,())=Sa (kG g e i q):=by rw[hq];exact yK A _ e i q
  refine zB (zK hd ?_)
  have M:∀(ad:¬(z.2.1=c.1/\z.1≠(i:Int)/\0<=kG g e i z.1.toNat/\kG g e i z.1.toNat+z.2.2.1=c.2.1)),(∃z,z∈(zCo g e).take (k+1)/\z.2.1=c.1/\z.1≠(i:Int)/\0<=kG g e i z.1.toNat/\kG g e i z.1.toNat+z.2.2.1=c.2.1)->f≠[]:=by
   rintro ad ⟨z',h1,h2⟩;rcases(kZ Y).1 h1 with h1|rfl
   .exact F ⟨z',h1,h2⟩
   .exact absurd h2 ad
  have hw:Ac .i64 (kG g e i q+z.2.2.1)=kG g e i q+z.2.2.1:=by rw[ao];exact zI (by omega) (by omega)
  rw[hw];refine zB ((show Wp _ (fun s:Bool×List (Ty.El zC)=>s.2=g1/\(s.1=Sb↔(z.2.1=c.1/\z.1≠(i:Int)/\0<=kG g e i q/\kG g e i q+z.2.2.1=c.2.1)))from ?_).mono ?_)
  .refine zF (fun G=>?_) (fun G=>zA ⟨rfl,(fun h=>by cases h),fun h=>?_⟩)
   .have G:z.2.1=c.1:=yY.1 G;refine zF (fun B=>?_) (fun B=>zA ⟨rfl,(fun h=>by cases h),fun h=>?_⟩)
    .have B:z.1≠(i:Int):=by intro p;rw[p]at B;have B:(!((i:Int)==(i:Int)))=true:=B;simp at B
     refine zO (fun k3=>zA ⟨rfl,fun k4=>?_,fun h=>?_⟩) (fun k3=>zA ⟨rfl,(fun h=>by cases h),fun h=>absurd h.2.2.1 k3⟩)
     .exact⟨G,B,k3,of_decide_eq_true k4⟩
     .exact decide_eq_true h.2.2.2
    .have B:(!(z.1==(i:Int)))=false:=B
     have:z.1=(i:Int):=by
      have B:(decide (z.1=(i:Int)))=true:=by simpa using B
      exact of_decide_eq_true B
     exact absurd this h.2.1
   .have G:zB3 z.2.1 c.1=false:=G;rw[yY.2 h.1]at G;cases G
  .rintro⟨s1,s2⟩ ⟨rfl,hs⟩;simp only at hs;refine zF (fun m=>?_) (fun m=>?_)
   .have m:s1=true:=m;obtain⟨G,B,k3,k4⟩:=hs.1 m;have N:q≠i:=fun p=>B (by rw[hq,p]);have ht:=zGY A S Q an;rw[hH.symm.trans W]at ht;rw[hq];refine zB (ht.mono ?_);rintro tw ag;have al:=ag.ok A;refine zB ((zMm f tw (ai (zAa A P) (by omega)) (ai (zAa A al) (by omega))).mono ?_);rintro u hu;refine zA ⟨rfl,u,rfl,zWU hu P al,fun _ av=>?_⟩;have hn:=zKV A ag N k3;obtain⟨t,ts,rfl⟩:=ca hn;have:=(hu.2.2 t).2 (dt _ (by simp));rw[av]at this;cases this
   .have m:s1=false:=m;refine zA ⟨rfl,f,rfl,P,M (fun p=>?_)⟩;rw[hq,aF]at p;rw[<-hq]at p;rw[hs.2 p]at m;cases m
 .rintro⟨g1,y⟩ ⟨Z,f,e2,P,F⟩;simp only at Z e2;subst Z e2;rw[bD]at F
  have hn:f≠[]:=by
   obtain⟨q,r,qo,x,H,L,h5,h6,h7,h8,h9⟩:=J;refine F ⟨_,zEZ.2 ⟨q,r,qo,x,H,L,h5,h6,rfl⟩,h7,fun p=>?_,?_,?_⟩
   .have N:q=i:=by have p:((q:Nat):Int)=(i:Int):=p;omega
    subst N;rw[<-h7,qBF A H L (zNq H L h5).2.2]at E;cases E
   .exact h8
   .exact h9.symm
  refine zB (xZ (by simp;omega) (zA ⟨?_,by simp;omega⟩));intro y hy;rcases aU.1 hy with hy|hy
  .exact D y hy
  .rw[aK.1 hy];obtain⟨q,r,qo,x,H,L,h5,h6,h7,h8,h9⟩:=J;exact⟨rfl,rfl,rfl,rfl,rfl,rfl,rfl,rfl,zZO hr (qE3 h8).2.1,K.1,E,P,.inr ⟨rfl,.inl rfl,K.2.1,K.2.2,hn⟩⟩
theorem zVC(x:Ty.El zN)(g:Ty.El vP):qW (x,g,())=Sa (zWr g.2.1 x.1):=by refine jS ?_;unfold qW;exact zB (zK (zEf _ _) (zA rfl))
theorem zZq(l:List (Ty.El zN))(g:Ty.El vP)(a:l.length<0x4000000000000000):jM (l,(g,()),())=Sa (decide (zHy (fun x:Ty.El zN=>zWr g.2.1 x.1) l>=0)):=by
 refine jS ?_;unfold jM;refine zB ?_;unfold wG;refine zFA (p:=fun x:Ty.El zN=>zWr g.2.1 x.1) a ?_ (zA rfl)
 grind[zM,zVC,qW,zWr]
theorem zZp(l:List (Ty.El zC))(g:Ty.El vP)(a:l.length<0x4000000000000000):wP (l,(g,()),())=Sa (decide (zHy (fun y:Ty.El zC=>zB3 y.1 g.2.1) l>=0)):=by
 refine jS ?_;unfold wP;refine zB ?_;unfold uD;refine zFA (p:=fun y:Ty.El zC=>zB3 y.1 g.2.1) a ?_ (zA rfl);intro i x c;rw[zM c,af];show Ae (jQ (x,g,())) _=_;have:jQ (x,g,())=Sa (zB3 x.1 g.2.1):=rfl
 grind
theorem zTk(h:zOJ g i=Sb):zBt g 0 i=true:=by simp_all[zOJ]
theorem zTA(m:qE l j g)(d:(z8 g)[i]?=Sa C)(e:List (Ty.El zC))(F:e.length<=1048576):
  Wp (wI (zAE g,(i:Int),e,())) (fun n=>(∀y,y∈n->zDW g i C 117506040 y/\Ty.bare zC y=Sb)/\n.length<=20):=by
 have z:=(aa.1 d).1;have G:=qBb m d;unfold wI;refine zB (zK (zJY m i) ?_);refine zF (fun u=>zA ⟨(fun y h=>by cases h),by simp⟩) (fun u=>?_);have u:zOJ g i=true:=by simpa using u
 have A:=zZO d (zTk u);refine zB ?_;simp only[af];refine zB (zK (show idx (zTD g).1.1.1 (i:Int)=Sa C from zM d) ?_);refine uO (xs:=zAf C) (by omega) (fun k (v:List (Ty.El zC))=>(∀y,y∈v->zDW g i C 117506040 y/\Ty.bare zC y=Sb)/\v.length<=k) ⟨(fun y h=>by cases h),by simp⟩ ?_ (fun v x=>zA ⟨x.1,by omega⟩);rintro k r v B ⟨x,H⟩;have I:=(aa.1 B).1;have c:Wp (Sa v) (fun p=>(∀y,y∈p->zDW g i C 117506040 y/\Ty.bare zC y=Sb)/\p.length<=k+1):=zA ⟨x,by omega⟩;refine zB (zK (zM B) ?_);refine zB (zK (zUp m r.1) ?_);by_cases E:r.1∈v6 g
 .obtain⟨id,J,_⟩:=zKL E;rw[J];simp only[Aj,cond_false];refine zB (zB (zK (zEv m z r.2.1) (zA ?_)));refine zF (fun _=>c) (fun f=>?_);refine zB (zB ((zIB m (zAE g) id r.1 i).mono ?_));rintro K ⟨O,L⟩;refine zB (zK (zZq K r (by omega)) ?_)
  have q:Wp (Ae (qF (zAE g,(i:Int),(1:Int),(r.2.1,(0:Int),()),())) fun(a:Ty.El zD×Int×Int×Int×Int×Int×Int×Int×List Int×Int×Int×List (Ty.El zP)×Bool×Unit)=>
    Ae (app (136:Nat) v [(a.1,a.2.1,a.2.2.1,a.2.2.2.1,a.2.2.2.2.1,a.2.2.2.2.2.1,a.2.2.2.2.2.2.1,a.2.2.2.2.2.2.2.1,a.2.2.2.2.2.2.2.2.1,a.2.2.2.2.2.2.2.2.2.1,a.2.2.2.2.2.2.2.2.2.2.1,a.2.2.2.2.2.2.2.2.2.2.2.1,Sb,())]) fun(D:List (Ty.El zC))=>Sa D)
    (fun p=>(∀y,y∈p->zDW g i C 117506040 y/\Ty.bare zC y=Sb)/\p.length<=k+1):=by
   refine zB (zK (zCr d 1 _) ?_);refine zB (xZ (by simp;omega) (zA ⟨fun y t=>?_,by simp only[aN,bK];omega⟩));rcases aU.1 t with t|t
   .exact x y t
   .rw[aK.1 t];exact⟨⟨rfl,rfl,rfl,rfl,rfl,rfl,rfl,rfl,A,psC.rng d (ae B),f,⟨List.Pairwise.nil,(fun h M=>by cases M)⟩,.inl ⟨rfl,rfl,rfl,rfl⟩⟩,rfl⟩
  refine zF (fun _=>?_) (fun _=>zA ?_)
  .refine zB (zK (zZp e r (by omega)) (zA ?_));refine zF (fun _=>q) (fun _=>c)
  .exact c
 .rw[zPX E];simp only[Option.isNone_none,cond_true];exact zB (zA c)
theorem zVD(e:qE l j g)(r:Nat)(p:Ty.El zD):Wp (wV (zAE g,(r:Int),p,())) (fun _=>True):=by have d:=zBL e;have k:=zDr g;unfold wV;simp only[af];refine zAK (xs:=(v6 g).zipIdx.map (zJH g)) (by omega) (fun _=>True) trivial ?_ (fun _=>zA trivial);intro i h f _;obtain⟨a,v,t,c⟩:=zE0 f;refine zB (zK (zM f) ?_);rw[c];refine zB ((zIB e (zAE g) _ a r).mono ?_);rintro n ⟨u,m⟩;refine zB (zK (zO4 n p (by omega)) ?_);exact zF (fun _=>zA (e2r (e2r trivial))) (fun _=>zA (e2l ⟨rfl,trivial⟩))
noncomputable def zHz(v:Ty.El zH)(r b:Nat)(num:Int):Bool:=zBt v num r&&(zBt v num b&&(decide (0<=kG v num r b)&&(num==0|| !zBt v 0 r)))
theorem zNC(e:qE l j g)(id:Nat)(num:Int){r b:Nat}(f:r<8)(n:b<8):jX (zAE g,(r:Int),(b:Int),Sa (id,zHl g num),())=Sa (zHz g r b num):=by
 refine jS ?_;unfold jX zHz;refine zB ?_;simp only[af];refine zB (zK (zZW (zBt g num) f) ?_)
 cases zBt g num r with
 |false=>exact zA (zA rfl)
 |true=>
  simp only[cond_true,bV];refine zB (zK (zZW (zBt g num) n) ?_)
  cases zBt g num b with
  |false=>exact zA (zA rfl)
  |true=>
   simp only[cond_true,bV];refine zB (zK (yK e id num r b) ?_);refine zO (fun c=>?_) (fun c=>zA (zA ?_))
   .have c:0<=kG g num r b:=c;rw[decide_eq_true c,bV];refine zF (fun a=>zA (zA ?_)) (fun a=>?_)
    .have a:(num==0)=true:=a;rw[a];rfl
    .have a:(num==0)=false:=a;rw[a,bU];exact zB (zK (qA4 e r 0) (zA (zA rfl)))
   grind
theorem zHU{n:Ty.El zJ}(f:qE n j g){u:ElS [(.pt qL),tI]->Option (RTy.El (.o zC))}{bo:Ty.El zG}(E:(z8 g)[i]?=Sa bo)(S:I∈v6 g)(W:117506040<=a3)(Y:I≠0->Wp (u (zAE g,(i:Int),())) (fun l=>(∀y,y∈l->zDW g i bo a3 y)/\l.length<=1048576)):
  Wp (jR u (zAE g,(i:Int),zJu g I,())) (zNi (PC g i a3)):=by
 have Z:=(aa.1 E).1;have h8:=yC f;have ab:=zBL f;have ad:=zDr g;unfold jR;simp only[af];refine zB ?_;refine uO (xs:=(v6 g).zipIdx.map (zJH g)) (by omega) (fun _ (v:List (Ty.El zN))=>zNi (PC g i a3) v) zYV ?_ ?_
 .intro b h v N k;obtain⟨z,hz,hH,A⟩:=zE0 N;refine zB (zK (zM N) ?_);refine zB ((show Wp _ (fun s:Bool×List (Ty.El zN)=>s.2=v)from ?_).mono ?_)
  .refine zF (fun _=>zA rfl) (fun _=>?_);rw[A,af];exact zB (zK (zZW (zBt g z) (by omega)) (zA rfl))
  .rintro⟨s1,s2⟩ rfl;refine zF (fun _=>zA k) (fun _=>?_);rw[A];refine zB ((zVy f _ z E).mono ?_);rintro B ⟨F,ag⟩;refine zF5 (n:=B.length) (c:=fun _=>(B.length:Int)) (by omega) (fun _ (v:List (Ty.El zN))=>zNi (PC g i a3) v) k (fun _ _ _=>rfl) ?_ (fun v k=>zA (e2r k));intro d O G a;have e:B[d]?=Sa B[d]:=by simp[G]
   generalize B[d]=x at e;have H:=F.all x (ae e);have m:=qFF f E H;have num:=zPZ f a;refine zB (zK (zM e) ?_);obtain⟨p,c,⟨⟩⟩:=x;refine zB ((a.add (p:=p) (c:=c) ⟨m.1,m.2.1,dz m.2.2 W⟩ (by omega)).mono (fun J r=>zA (e2l ⟨rfl,r.1⟩)))
 .intro v k;obtain⟨id,hid,_⟩:=zKL S;rw[hid,af];refine zF (fun _=>zA k) (fun K=>?_);have K:I≠0:=ne_of_beq_false (show(I==0)=Sc from K);refine zB (zB ((Y K).mono ?_));rintro ls ⟨hl,al⟩;refine zF5 (n:=ls.length) (c:=fun _=>(ls.length:Int)) (by omega) (fun _ (s:List (Ty.El zC)×List (Ty.El zN))=>s.1=ls/\zNi (PC g i a3) s.2) ⟨rfl,k⟩ (fun _ _ _=>rfl) ?_ (fun s F=>zA (e2r (zA F.2)));rintro d ⟨C,O⟩ G ⟨P,a⟩;simp only at P a;subst P;have e:C[d]?=Sa C[d]:=by simp[G]
  generalize C[d]=x at e;have D:=hl x (ae e);have num:=zPZ f a;have L:atN C (Ab (d:Int))=Sa x:=by rw[aF];exact e
  refine zB (zB (zK (zM e) (zB (zK L ?_))));refine zB ((show Wp _ (fun s:Bool×List (Ty.El zN)×List (Ty.El zC)=>s.2=(O,C)/\(s.1=Sb->x.2.2.1=(2:Int)))from ?_).mono ?_)
  .refine zF (fun t=>?_) (fun t=>zA ⟨rfl,(fun h=>by cases h)⟩);have t:x.2.2.1=(2:Int):=of_decide_eq_true (show decide (x.2.2.1=(2:Int))=Sb from t);exact zB ((zVD f i x.1).mono (fun q _=>zA ⟨rfl,fun _=>t⟩))
  .rintro⟨s1,s2⟩ ⟨e2,M⟩;cases e2;refine zF (fun t=>?_) (fun _=>zA (zA (e2l ⟨rfl,rfl,a⟩)));have an:=M t
   have Q:1<=zDZ x/\zDZ x<=a3:=by
    rcases D.kind with⟨_,k2,_⟩|⟨_,_,k3,k4,_⟩
    .grind
    omega
   exact zB ((a.add (p:=x.1) (c:=zDZ x) ⟨D.pre,Q.1,Q.2⟩ (by omega)).mono (fun J r=>zA (zA (e2l ⟨rfl,rfl,r.1⟩))))
theorem zVe:∀{l:List (Int×Int)},zWu l=0->∀p,p∈l->p.1=p.2
 |[],_,p,hp=>by cases hp
 |(a,b)::r,h,p,hp=>by
  unfold zWu at h;split at h
  .omega
  .split at h
   .omega
   .rcases bg.1 hp with rfl|hp
    .show a=b;omega
    .exact zVe h p hp
theorem qDT(a:a2.2.1=(3:Int)):zFu a2=(a2.2.2.1,a2.2.2.2.2.1,a2.2.2.2.2.2.1,a2.2.2.2.2.2.2.1,(0:Int),(0:Int),(0:Int)):=by
 grind[zFu]
theorem zUA{b:Ty.El zC}(a:a2.2.1=(3:Int))(c:b.2.1=(3:Int))(h:zCK a2 b=0):a2.2.2.1=b.2.2.1/\a2.2.2.2.2.1=b.2.2.2.2.1/\a2.2.2.2.2.2.1=b.2.2.2.2.2.1/\a2.2.2.2.2.2.2.1=b.2.2.2.2.2.2.1:=by unfold zCK at h;rw[qDT a,qDT c]at h;have:=zVe h;simp_all
theorem zUB(b:Ty.El zC):zCK b b=0:=by unfold zCK;simp[zWu]
theorem zCq(x y:Ty.El zC)(a:x.2.1=(3:Int))(f:y.2.1=(3:Int)):zAO (x,y,())=Sa (zCK x y):=by
 refine jS ?_;have c:(x.2.1==(1:Int))=false:=by rw[a];rfl
 have d:(x.2.1==(2:Int))=false:=by rw[a];rfl
 have e:(x.2.1==(3:Int))=true:=by rw[a];rfl
 unfold zAO;dsimp only;rw[c,d,e];simp only[cond_false,cond_true,af];refine zB (zK (zCs _ _) (zB (zK (zCs _ _) (zB (zK (zCs _ _) (zB (zK (zCs _ _) (zB (zK (zQb _ (by simp)) (zA ?_))))))))));have:=zVO [(x.2.2.1,y.2.2.1),(x.2.2.2.2.1,y.2.2.2.2.1),(x.2.2.2.2.2.1,y.2.2.2.2.2.1),(x.2.2.2.2.2.2.1,y.2.2.2.2.2.2.1)];refine this.trans ?_
 grind[qDT,zCK,zWu]
variable {a9:List (Ty.El zC)}
theorem zXV(a:a2∈zBs a9):∃b,b∈a9/\a2=qA7 b (zCz a9 b.1 b):=by
 obtain⟨q,_,h⟩:=zIM.1 a;unfold mrg at h
 cases c:zFl a9 q with
 |none=>grind
 |some b=>
  grind[zYK,Option.some.inj]
theorem qCg(h:∀x,x∈a9->zDW g i C I x):∀z,z∈zBs a9->zDW g i C I z:=by
 intro z q;obtain⟨b,m,rfl⟩:=zXV q;have a:=h b m;have e:=zAb a9 b.1 b;refine⟨a.proto,a.adm,a.inner,a.tag,a.pref,a.path,a.frm,a.nxt,a.on,a.pre,a.att,⟨e,fun x f=>?_⟩,?_⟩
 .obtain⟨y,d,_,_,c⟩:=(xA a9 b.1 b x).1 f;exact(h y d).hops.ok x c
 .rcases a.kind with⟨v,r,j,n⟩|⟨v,r,j,n,u⟩
  .refine .inl ⟨v,r,j,br.2 (fun x f=>?_)⟩;obtain⟨y,d,_,A,c⟩:=(xA a9 b.1 b x).1 f;obtain⟨_,B,_⟩:=zUA (h y d).proto a.proto A;rcases(h y d).kind with⟨_,_,_,k⟩|⟨_,_,D,_⟩
   all_goals grind
  .refine .inr ⟨v,r,j,n,fun p=>?_⟩;obtain⟨t,E,F⟩:=ca u;have:t∈zCz a9 b.1 b:=(xA a9 b.1 b t).2 ⟨b,m,rfl,zUB b,by grind⟩;have p:zCz a9 b.1 b=[]:=p
   grind
theorem qGg(a:qE l j g)(h:zDW g i C I a2):RtS a2:=
 ⟨by rw[show Aa a2.2.2.2.2.2.2.2.2.1=0 by rw[h.path];rfl];omega,ai (zAa a h.hops) (by omega)⟩
theorem zHi(l:List (Ty.El zP))(h:l.length<=1048576):uU (l,())=Sa l:=by refine jS ?_;unfold uU;exact zB (xZ (by grind) (zA rfl))
theorem zNB{n:Ty.El zJ}(f:qE n j g){G:ElS [(.pt qL),tI,(.pt qN)]->Option (RTy.El (.p (.sl zN)))}(W:(z8 g)[i]?=Sa C){hi:Int}(h1:117506040<=hi)(h2:hi<=4294967296)(hA:∀(b:Nat) (num:Int),b< (z8 g).length->zOJ g b=Sb->num∈v6 g->zHz g i b num=Sb->Wp (G (zAE g,(b:Int),zJu g num,())) (zNi (PC g b hi))):
  Wp (wU G (zAE g,(i:Int),())) (fun l=>(∀y,y∈l->zDW g i C (hi+117440505) y)/\l.length<=114688):=by
 have H:=(aa.1 W).1;have h8:=yC f;have ao:=zBL f;have ap:=zDr g;unfold wU;simp only[af];refine zB ?_;refine zNk (n:=(z8 g).length) (c:=fun _=>(((z8 g).length:Nat):Int)) (by omega) (fun k (v:List (Ty.El zC))=>(∀y,y∈v->zDW g i C (hi+117440505) y)/\v.length<=k*14336) ⟨(fun y h=>by cases h),by simp⟩ (fun _ _ _=>rfl) ?_ ?_
 .rintro b v hb ⟨u,Y⟩;have D:(∀y,y∈v->zDW g i C (hi+117440505) y)/\v.length<=(b+1)*14336:=⟨u,by omega⟩
  refine zB ((show Wp _ (fun s:Bool×List (Ty.El zC)=>s.2=v/\(s.1=Sc->b≠i/\zOJ g b=Sb))from ?_).mono ?_)
  .refine zF (fun _=>zA ⟨rfl,(fun h=>by cases h)⟩) (fun r=>?_)
   have r:b≠i:=fun F=>by
    grind
   refine zO (fun S=>zA ⟨rfl,(fun h=>by cases h)⟩) (fun _=>?_);refine zB (zK (zJY f b) (zA ⟨rfl,fun F=>⟨r,by simpa using F⟩⟩))
  .rintro⟨s1,s2⟩ ⟨e,hs⟩;simp only at e;subst e;refine zF (fun _=>zA D) (fun Z=>?_);obtain⟨r,ab⟩:=hs Z;refine uO (xs:=(v6 g).zipIdx.map (zJH g)) (by omega) (fun k (v:List (Ty.El zC))=>(∀y,y∈v->zDW g i C (hi+117440505) y)/\v.length<=b*14336+k*224) ⟨u,by omega⟩ ?_ (fun v u=>⟨u.1,by omega⟩);rintro k h g' F ⟨I,an⟩;have av:=(aa.1 F).1;obtain⟨num,x,hH,J⟩:=zE0 F;have d:(∀y,y∈g'->zDW g i C (hi+117440505) y)/\g'.length<=b*14336+(k+1)*224:=⟨I,by omega⟩
   refine zB (zK (zM F) ?_);have K:=zNC f (16*(k+1)+(z8 g).length) num (show i<8 by omega) (show b<8 by omega);rw[<-J]at K;refine zB (zK K ?_);refine zF (fun _=>zA d) (fun E=>?_);have E:zHz g i b num=true:=by simpa using E
   have a:0<=kG g num i b/\zBt g num i=true:=by unfold zHz at E;rw[am,am,am]at E;exact⟨of_decide_eq_true E.2.2.1,E.1⟩
   have ad:=zEo f num i b;have z:=hA b num hb ab x E;rw[<-hH]at z;refine zB (z.mono ?_);rintro cs L;have ax:=zPZ f L;refine uO (xs:=cs) (by omega) (fun m (q:List (Ty.El zC))=>(∀y,y∈q->zDW g i C (hi+117440505) y)/\q.length<=b*14336+k*224+m) ⟨I,by omega⟩ ?_ (fun v u=>⟨u.1,by omega⟩);rintro m c q S ⟨A,ag⟩;have ay:=(aa.1 S).1;have M:=L.all c (ae S);refine zB (zK (zM S) ?_);refine zB (zK (zEv f H c.1) ?_);refine zF (fun _=>zA ⟨A,(show q.length<=b*14336+k*224+(m+1) by omega)⟩) (fun al=>?_);have N:=yK f (16*(k+1)+(z8 g).length) num i b;rw[<-J]at N;refine zB (zK N ?_);have B:=M.2;have hw:Ac .i64 (c.2.1+kG g num i b)=c.2.1+kG g num i b:=zI (by omega) (by omega);rw[hw];refine zB (zK (zCr W 2 _) ?_);have ht:=zGY f x H hb;rw[<-hH]at ht;refine zB (ht.mono ?_);rintro tw O;have P:=O.ok f;refine zB (zK (zHi tw (ai (zAa f P) (by omega))) ?_);refine zB (xZ (by simp;omega) (zA ⟨fun y Q=>?_,by simp;omega⟩));rcases aU.1 Q with Q|Q
   .exact A y Q
   .rw[aK.1 Q];refine⟨rfl,rfl,rfl,rfl,rfl,rfl,rfl,rfl,zZO W a.2,M.1.of (zKG f a.1),al,P,.inr ⟨rfl,.inr rfl,?_,?_,zKV f O r a.1⟩⟩
    .exact(fun(t e:Int) (h:1<=t) (h':0<=e)=>(by omega:(1:Int)<=t+e)) _ _ B.1 a.1
    .exact(fun(t e:Int) (h:t<=hi) (h':e<=117440505)=>(by omega:t+e<=hi+117440505)) _ _ B.2 ad.2
 .rintro v ⟨u,Y⟩;refine zA ⟨u,?_⟩;omega
theorem zJe(d:qE l j g){e:ElS [(.pt qL),tI]->Option (RTy.El (.p (.sl zC)))}(h:(z8 g)[i]?=Sa C)(D:117506040<=I)(hi:Wp (e (zAE g,(i:Int),())) (fun n=>(∀y,y∈n->zDW g i C I y)/\n.length<=114688)):
  Wp (j7 e (zAE g,(i:Int),())) (fun n=>(∀y,y∈n->zDW g i C I y)/\n.length<=120000):=by
 unfold j7;refine zB ((zZo d h).mono ?_);rintro r ⟨J,k⟩;refine zB ((zTA d h r (by omega)).mono ?_);rintro f ⟨E,m⟩;have q:RV.plain (RTy.res (RTy.o zC) f)=true:=by show(zC.flat||f.all (Ty.bare zC))=Sb;rw[bN];right;rw[au];exact fun y c=>(E y c).2
 rw[q,cond_true];have F:Aa r<=4096:=k;have G:Aa f<=20:=m;refine zB (xZ (by omega) ?_);refine zB (hi.mono ?_);rintro t ⟨u,A⟩;have H:Aa t<=114688:=A;refine zB (xZ (by rw[aN];omega) ?_)
 have a:∀y,y∈r++f++t->zDW g i C I y:=by
  intro y c;rcases aU.1 c with c|c
  .rcases aU.1 c with c|c
   .exact(J y c).mono D
   .exact(E y c).1.mono D
  .exact u y c
 have v:(r++f++t).length<=120000:=by rw[aN,aN];omega
 refine zB ((zEe _ (by omega) (fun x B=>qGg d (a x B)) (fun x y B c=>zCq x y (a x B).proto (a y c).proto)).mono ?_);rintro z rfl;exact zA ⟨qCg a,ai (zMK _) v⟩
theorem zSY(h:zHz g i J I=Sb)(a:zBt g 0 i=Sb):I=0:=by simp_all[zHz]
theorem zRR(c:qE l j g)(f:(z8 g)[i]?=Sa C)(v:zBt g 0 i=Sb)(k:Nat):
  Wp (j5 (k+1) (zAE g,(i:Int),())) (fun n=>(∀y,y∈n->zDW g i C 234946545 y)/\n.length<=120000):=by
 refine zJe c f (by omega) (zNB (hi:=117506040) c f (by omega) (by omega) (fun b h r d a m=>?_));have p:=zSY m v;exact zHU c (bo:=(z8 g)[b]) (by simp[r]) a (by omega) (fun q=>absurd p q)
theorem zQN(e:qE l j g)(h:(z8 g)[i]?=Sa C)(k:Nat):
  Wp (j5 (k+2) (zAE g,(i:Int),())) (fun n=>(∀y,y∈n->zDW g i C 352387050 y)/\n.length<=120000):=by
 refine zJe e h (by omega) (zNB (hi:=234946545) e h (by omega) (by omega) (fun b v d f a q=>?_));have c:(z8 g)[b]?=Sa (z8 g)[b]:=by simp[d]
 exact zHU e c a (by omega) (fun _=>(zRR e c (zTk f) k).mono (fun n m=>⟨m.1,by omega⟩))
theorem zTy(c:qE l j g)(e:(z8 g)[i]?=Sa C):
  Wp (qG (zAE g,(i:Int),())) (fun n=>(∀y,y∈n->zDW g i C 352387050 y)/\n.length<=120000):=zQN c e 2
def zFn(v:Ty.El zH)(r q:Nat)(hi:Int)(p:Ty.El wD):Prop:=
 (p.1=(-1:Int)/\p.2.1=[])\/((0:Int)<=p.1/\p.1<=hi/\(zDH v r p.2.1/\Con v r q)/\p.2.1≠[])
theorem zLO(v:qE l j g){p:Ty.El wD}(n:zFn g i J I p)(B:0<=a3)(C:a3<=I)(f:zDH g i P)(e:P≠[])(k:Con g i J):
  Wp (kI p (a3,P,())) (fun z=>zFn g i J I z.1):=by
 have d:P.length<=1048576:=ai (zAa v f) (by omega);have a:∀x:Ty.El wD,atN [x] (0:Nat)=Sa x:=fun _=>rfl;have m:zFn g i J I ((a3,P,()):Ty.El wD):=.inr ⟨B,C,⟨f,k⟩,e⟩;unfold kI;refine zB (zK (a p) ?_);refine zO (fun D=>?_) (fun D=>?_)
 .grind[zB,zK,zHi,zA]
 .obtain⟨E,F,⟨y,_⟩,H⟩:(0:Int)<=p.1/\p.1<=I/\(zDH g i p.2.1/\Con g i J)/\p.2.1≠[]:=by
   rcases n with⟨h,_⟩|h;all_goals grind
  refine zB (zK (a p) ?_);refine zO (fun _=>?_) (fun _=>?_)
  .grind[zB,zK,zHi,zA]
  .refine zB (zK (a p) ?_);refine zF (fun _=>?_) (fun _=>zA n);refine zB (zK (a p) ?_);refine zB ((zMm p.2.1 P (ai (zAa v y) (by omega)) d).mono ?_);rintro u A;refine zB (zK (a p) (zA (.inr ⟨E,F,⟨zWU A y f,k⟩,fun G=>?_⟩)));obtain⟨t,r,rfl⟩:=ca e;have:=(A.2.2 t).2 (dt _ (by simp))
   grind
def zLg(v:Ty.El zH)(r q:Nat)(hi:Int)(z:Int×List (Ty.El zP)×Bool×Unit):Prop:=
 z.2.2.1=Sb->r≠q/\0<=z.1/\z.1<=hi/\(zDH v r z.2.1/\Con v r q)/\z.2.1≠[]
theorem zNA(c:qE l j g){B:Ty.El wD->ElA [.d (.pt qL),.d tI,.d tI]->Option (Ty.El wD×RTy.El (.tu []))}(F:i< (z8 g).length)(G:J< (z8 g).length)(M:117440505<=I)(t:i≠J->∀p,zFn g i J I p->Wp (B p (zAE g,(i:Int),(J:Int),())) (fun z=>zFn g i J I z.1)):
  Wp (wT B (zAE g,(i:Int),(J:Int),())) (zLg g i J I):=by
 have N:=yC c;have H:=zBL c;have hi:=zDr g;have a:zLg g i J I ((0:Int),[],Sc,()):=fun h=>by cases h
 unfold wT;simp only[af];refine zB ((show Wp _ (fun b:Bool=>b=Sc->i≠J)from ?_).mono ?_)
 .refine zF (fun _=>zA (fun h=>by cases h)) (fun e=>?_)
  have e:i≠J:=fun v=>by
   grind
  simp_all[zF,zA]
 .intro b q;refine zF (fun _=>zA a) (fun u=>?_);have e:=q u;refine zB ?_;refine uO (xs:=(v6 g).zipIdx.map (zJH g)) (by omega) (fun _ (p:Ty.El wD)=>zFn g i J I p) (.inl ⟨rfl,rfl⟩) ?_ ?_
  .intro r h p v d;obtain⟨f,k,K,x⟩:=zE0 v;refine zB (zK (zM v) ?_);have C:=yK c (16*(r+1)+(z8 g).length) f i J;rw[<-x]at C;refine zB (zK C ?_);have L:=zEo c f i J;refine zO (fun n=>?_) (fun _=>zA d);have n:0<=kG g f i J:=n;have D:=zGY c k F G;rw[<-K]at D;refine zB (D.mono ?_);rintro P m;exact zB ((zLO c d n (by omega) (m.ok c) (zKV c m (fun v=>e v.symm) n) (zKG c n)).mono (fun z y=>zA y))
  .intro p d;refine zB ((show Wp _ (fun E:Ty.El wD=>zFn g i J I E)from ?_).mono ?_)
   .exact zO (fun _=>zB ((t e p d).mono (fun z y=>zA y))) (fun _=>zA d)
   .intro E A;refine zO (fun _=>zA a) (fun Q=>zA (fun _=>?_));rcases A with⟨h,_⟩|⟨S,W,Y,Z⟩
    all_goals grind
theorem zHS{n:Ty.El zJ}(a:qE n j g){q:ElS [(.pt qL),tI,(.pt qN),tI]->Option (RTy.El (.p tI))}(N:i< (z8 g).length){hi:Int}(h1:0<=hi)(h2:hi<=4294967296)(O:∀(b:Nat) (num:Int),b< (z8 g).length->zOJ g b=Sb->num∈v6 g->zHz g i b num=Sb->Wp (q (zAE g,(b:Int),zJu g num,(J:Int),())) (fun e:Int=>e<=hi/\(0<=e->Con g b J))){p:Ty.El wD}(P:zFn g i J (hi+117440505) p):
  Wp (jP q p (zAE g,(i:Int),(J:Int),())) (fun z=>zFn g i J (hi+117440505) z.1):=by
 have h8:=yC a;have Q:=zBL a;have S:=zDr g;unfold jP;simp only[af];refine zF5 (n:=(z8 g).length) (c:=fun _=>(((z8 g).length:Nat):Int)) (by omega) (fun _ (p:Ty.El wD)=>zFn g i J (hi+117440505) p) P (fun _ _ _=>rfl) ?_ (fun v m=>zA (e2r m));intro b v K m;refine zB ((show Wp _ (fun E:Ty.El wD=>zFn g i J (hi+117440505) E)from ?_).mono (fun E W=>zA (e2l ⟨rfl,W⟩)));refine zB ((show Wp _ (fun s:Bool×Ty.El wD=>s.2=v/\(s.1=Sc->b≠i/\zOJ g b=Sb))from ?_).mono ?_)
 .refine zF (fun _=>zA ⟨rfl,(fun h=>by cases h)⟩) (fun f=>?_)
  have f:b≠i:=fun t=>by
   grind
  exact zB (zK (zJY a b) (zA ⟨rfl,fun t=>⟨f,by simpa using t⟩⟩))
 .rintro⟨s1,s2⟩ ⟨e,Y⟩;simp only at e;subst e;refine zF (fun _=>zA m) (fun F=>?_);obtain⟨f,G⟩:=Y F;refine uO (xs:=(v6 g).zipIdx.map (zJH g)) (by omega) (fun _ (v:Ty.El wD)=>zFn g i J (hi+117440505) v) m ?_ (fun v m=>m);rintro k h E t l;obtain⟨num,r,L,u⟩:=zE0 t;refine zB (zK (zM t) ?_);have y:=zNC a (16*(k+1)+(z8 g).length) num (show i<8 by omega) (show b<8 by omega);rw[<-u]at y;refine zB (zK y ?_);refine zF (fun _=>zA l) (fun D=>?_);have D:zHz g i b num=true:=by simpa using D
  have d:0<=kG g num i b:=by unfold zHz at D;simp_all
  have Z:=zEo a num i b;have A:=O b num K G r D;rw[<-L]at A;refine zB (A.mono ?_);intro (e:Int) ⟨ab,H⟩;refine zO (fun I=>?_) (fun _=>zA l);have I:(0:Int)<=e:=I;have B:=yK a (16*(k+1)+(z8 g).length) num i b;rw[<-u]at B;refine zB (zK B ?_);rw[zI (x:=kG g num i b+e) (by omega) (by omega)];have M:=zGY a r N K;rw[<-L]at M;refine zB (M.mono ?_);rintro tw C;exact zB ((zLO a l (by omega) (by omega) (C.ok a) (zKV a C f d) ((zKG a d).trans (H I))).mono (fun z hz=>zA hz))
theorem zLP(f:qE l j g){a:ElS [(.pt qL),tI,tI]->Option (RTy.El (.tu [tI,(.sl zP),.bool]))}(y:I∈v6 g)(E:117440505<=a3)(A:I≠0->Wp (a (zAE g,(i:Int),(J:Int),())) (zLg g i J a3)):
  Wp (wH a (zAE g,(i:Int),zJu g I,(J:Int),())) (fun e:Int=>e<=a3/\(0<=e->Con g i J)):=by
 have F:=yC f;have B:=zBL f;have C:=zDr g;obtain⟨id,hid,_⟩:=zKL y;unfold wH;simp only[af];refine zB ?_;refine uO (xs:=(v6 g).zipIdx.map (zJH g)) (by omega) (fun _ (s:Int)=>s<=a3/\(0<=s->Con g i J)) ⟨by omega,fun h=>absurd h (by omega)⟩ ?_ ?_
 .intro b h s t d;obtain⟨z,k,H,n⟩:=zE0 t;refine zB (zK (zM t) ?_);have u:=yK f (16*(b+1)+(z8 g).length) z i J;rw[<-n]at u;refine zB (zK u ?_);have D:=zEo f z i J;refine zB ((show Wp _ (fun c:Bool=>c=Sb->0<=kG g z i J)from ?_).mono ?_)
  .refine zF (fun _=>?_) (fun _=>zA (fun h=>by cases h));refine zO (fun x=>?_) (fun _=>zA (fun h=>by cases h));exact zO (fun _=>zA (fun _=>x)) (fun _=>zA (fun _=>x))
  .intro c m;exact zF (fun h=>zA ⟨by omega,fun _=>zKG f (m h)⟩) (fun _=>zA d)
 .intro s d;rw[hid];simp only[af];refine zB ((show Wp _ (fun c:Bool=>c=Sc->I≠0)from ?_).mono ?_)
  .refine zO (fun _=>zA (fun h=>by cases h)) (fun _=>?_);refine zF (fun _=>zA (fun h=>by cases h)) (fun p=>?_);have p:I≠0:=ne_of_beq_false (show(I==0)=Sc from p);exact zB (zK (yK f id I i J) (zA (fun _=>p)))
  .intro c m;refine zF (fun _=>zA d) (fun r=>?_);refine zB ((A (m r)).mono ?_);intro z k;exact zF (fun v=>zA ⟨(k v).2.2.1,fun _=>(k v).2.2.2.1.2⟩) (fun _=>zA ⟨by omega,fun h=>absurd h (by omega)⟩)
theorem zXc(c:qE l j g)(e:i< (z8 g).length)(f:J< (z8 g).length)(v:zBt g 0 i=Sb)(k:Nat):
  Wp (wR (k+1) (zAE g,(i:Int),(J:Int),())) (zLg g i J 234881010):=by
 refine zNA c e f (by omega) (fun _ p h=>?_);refine zHS (hi:=117440505) c e (by omega) (by omega) (fun b r u d a n=>?_) h;exact zLP c a (by omega) (fun m=>absurd (zSY n v) m)
theorem zVB(c:qE l j g)(f:i< (z8 g).length)(d:J< (z8 g).length)(k:Nat):
  Wp (wR (k+2) (zAE g,(i:Int),(J:Int),())) (zLg g i J 352321515):=by
 refine zNA c f d (by omega) (fun _ p h=>?_);refine zHS (hi:=234881010) c f (by omega) (by omega) (fun b v n e a m=>?_) h;exact zLP c a (by omega) (fun _=>zXc c n d (zTk e) k)
theorem zZn(a:qE l j g)(c:i< (z8 g).length)(e:J< (z8 g).length):
  Wp (qM (zAE g,(i:Int),(J:Int),())) (zLg g i J 352321515):=zVB a c e 2
structure qFp(ro:Ty.El zG):Prop where
 adm:zQ2 ro=Sb->(1:Int)<=zN9 ro/\zN9 ro<=255
 off:zQ2 ro=Sc->zAf ro=[]
 rng:∀x,x∈zAf ro->zC2 x.2.1=Sb
theorem zUa(a:Ty.El zG)(k:SmR a):Wp (yV (a,())) (fun e=>e=(0:Int)->qFp a):=by
 have B:(zAf a).length<=20:=k.i7;unfold yV;dsimp only
 cases d:zQ2 a with
 |false=>
  have d:a.2.2.2.2.2.2.2.2.1.1=false:=d;refine tt (by rw[d];rfl) ?_;have C:∀m:zAf a=[],qFp a:=fun m=>⟨(fun h=>by grind),(fun _=>m),(fun x g=>by grind)⟩
  refine zB (zF (fun _=>zA (zF (fun _=>zA (fun h=>by cases h)) (fun h=>by cases h))) (fun _=>zO (fun _=>zA (zF (fun _=>zA (fun h=>by cases h)) (fun h=>by cases h))) (fun p=>zA (zF (fun _=>zA (fun h=>by cases h)) (fun _=>zA (fun _=>?_))))));simp_all
 |true=>
  have j:a.2.2.2.2.2.2.2.2.1.1=true:=d;refine ff (by rw[j];rfl) ?_;refine zB (zK (vI _ _ _) (zF (fun _=>zA (fun h=>by cases h)) (fun q=>?_)))
  have q:(1:Int)<=zN9 a/\zN9 a<=255:=by
   grind
  refine zO (fun _=>zA (fun h=>by cases h)) (fun _=>?_);refine zAK (xs:=zAf a) (by omega) (fun i=>∀x,x∈(zAf a).take i->zC2 x.2.1=Sb) (by simp) ?_ ?_
  .intro i x g l;have E:=(aa.1 g).1;refine jU (zB (zB (zK (zM g) (zB (zK (vI _ _ _) ?_)))));refine zF (fun _=>zA (zF (fun _=>zA (fun h=>by cases h)) (fun h=>by cases h))) (fun _=>?_);refine zB (zK (zM g) (zB (zK (zCj _) (zA ?_))));refine zF (fun _=>zA (fun h=>by cases h)) (fun r=>?_);have r:zC2 x.2.1=true:=by simpa using r
   refine zAl (n:=(i:Int)) (fun s t p=>?_) (fun s t p=>zA (e2r (e2l (zA (e2l ⟨rfl,fun y u=>?_⟩)))))
   .have z:(zAf a)[s.toNat]?=Sa ((zAf a)[s.toNat]'(by omega)):=by simp
    have A:s=((s.toNat:Nat):Int):=(bi t).symm
    have f:idx (zAf a) s=Sa ((zAf a)[s.toNat]'(by omega)):=by
     grind[zM]
    refine zB ((show Wp _ (fun _:Bool=>True)from ?_).mono (fun c _=>zF (fun _=>zA (e2r (e2r (fun h=>by cases h)))) (fun _=>zA (e2l (zI (by omega) (by omega))))));refine zB (zK f (zB (zK (zM g) (zF (fun _=>?_) (fun _=>zA trivial)))));exact zB (zK f (zB (zK (zM g) (zB (zK (zGa _ _) (zA trivial))))))
   .rcases(kZ g).1 u with u|rfl;all_goals grind
  .intro l;rw[bD]at l;refine zB ((uW _ _ _ _ _ k k.i8).mono (fun e _=>zA (fun _=>⟨fun _=>q,(fun h=>by grind),l⟩)))
theorem qEm(c:qE l j g)(h:C∈z8 g):qFp C:=by
 obtain⟨e,f,n⟩:=zUa C (c.s.sm C h);rw[((zHv c).rt C (qBa c h)).ls]at f
 grind
theorem qCa(c:qE l j g)(h:a0∈psL g):zC2 a0=true:=by
 obtain⟨f,a,h⟩:=bR.1 h;rcases aU.1 h with h|h
 .obtain⟨x,_,rfl⟩:=aO.1 h;exact zZN _ _
 .obtain⟨x,e,rfl⟩:=aO.1 h;exact(qEm c a).rng x e
theorem qCp{l:List (Ty.El zP)}(n:l.length<=1048576)(d:l.Pairwise hlt)(j:∀h,h∈l->(0:Int)<=h.1/\h.2.1≠(0:Int)):yW (l,Sc,())=Sa true:=by
 have k:=aT.1 d;refine jS ?_;unfold yW;dsimp only;refine zHm (xs:=l) (P:=fun _=>True) (by omega) ?_ (fun _=>zA rfl);intro i x a;have q:=(aa.1 a).1;obtain⟨m,r⟩:=j x (ae a)
 have e:(!(x.2.1==(0:Int))==Sc)=false:=by
  grind
 refine zB ((show Wp _ (fun s:Bool=>s=Sc)from ?_).mono (fun s d=>zF (fun h=>by grind) (fun _=>zA (e2l ⟨rfl,trivial⟩))));refine zB (zK (zM a) (zO (fun h=>absurd m (Int.not_le.2 h)) (fun _=>zO (fun f=>?_) (fun _=>zB (zK (zM a) (zA e))))));have f:(i:Int)>0:=f;have t:l[i-1]?=Sa (l[i-1]'(by omega)):=by simp
 have u:Ac .i64 ((i:Int) - (1:Int))=((i-1:Nat):Int):=by grind[zI]
 have g:qCv (l[i-1]'(by omega)) x=true:=by
  grind[List.getElem?_eq_some_iff,zSE]
 have c:idx l (Ac .i64 ((i:Int) - (1:Int)))=Sa (l[i-1]'(by omega)):=by grind[zM]
 refine zB (zK c (zB (zK (zM a) (zB (zK (zMp _ _) (zF (fun h=>?_) (fun _=>zB (zK (zM a) (zA e)))))))))
 grind
structure LsR(v:Ty.El zH)(r:Nat)(ro:Ty.El zG)(y:Ty.El zC):Prop where
 proto:y.2.1=(3:Int)
 adm:y.2.2.2.1=zN9 ro
 pref:y.2.2.2.2.2.2.2.1=(0:Int)
 path:y.2.2.2.2.2.2.2.2.1=[]
 frm:y.2.2.2.2.2.2.2.2.2.1=(0:Int)
 nxt:y.2.2.2.2.2.2.2.2.2.2.1=(0:Int)
 on:zQ2 ro=Sb
 pre:zC2 y.1=Sb
 att:zYM v r y.1=Sc
 hops:zDH v r (zMt y)
 tag:(0:Int)<=y.2.2.2.2.2.2.1/\y.2.2.2.2.2.2.1<=(65535:Int)
 met:(0:Int)<=zDZ y/\zDZ y<=1073741824
 inner:(0:Int)<=y.2.2.2.2.2.1/\y.2.2.2.2.2.1<=(1073741824:Int)
 cls:(1:Int)<=y.2.2.1/\y.2.2.1<=4
 inn4:y.2.2.1≠(4:Int)->y.2.2.2.2.2.1=(0:Int)
 kind:(zVG y=Sb/\y.2.2.1=(1:Int)/\zDZ y=0/\y.2.2.2.2.2.2.1=(0:Int)/\zMt y=[])\/(zVG y=Sc/\(y.2.2.1=(1:Int)->1<=zDZ y)/\zMt y≠[])
theorem zDW.ls(r:qE l j g)(h:zDW g i C I a2)(d:I<=1073741824):LsR g i C a2:=by
 refine⟨h.proto,h.adm,h.pref,h.path,h.frm,h.nxt,h.on,qCa r h.pre.psL,h.att,h.hops,?_,?_,?_,?_,fun _=>h.inner,?_⟩
 .rw[h.tag];decide
 .rcases h.kind with⟨_,_,k,_⟩|⟨_,_,a,c,_⟩
  all_goals omega
 .rw[h.inner];decide
 .rcases h.kind with⟨_,k,_⟩|⟨_,k|k,_⟩
  all_goals grind
 .rcases h.kind with⟨f,v,a,c⟩|⟨f,v,a,c,n⟩
  .exact .inl ⟨f,v,a,h.tag,c⟩
  grind
theorem qEu(c:qE l j g)(e:qGL g i a6):(0:Int)<=a6.1/\a6.2.1≠(0:Int):=by obtain⟨f,v,d,x,q,n,k,y,a,rfl⟩:=e;exact⟨dL v,(qDh c a.hq a.hy (zNq a.hq a.hy a.ty).2.2).2⟩
theorem bd{hi:Int}(h:a3<=I/\I<=hi):(!(decide (a3<=I)&&decide (I<=hi)))=false:=by
 grind
theorem qG4(f:qE l j g)(A:(z8 g)[i]?=Sa C)(h:LsR g i C a2):zEC (a2,())=Sa true:=by
 have c:=(qEm f (ae A)).adm h.on;have e:(1:Int)<=a2.2.2.2.1/\a2.2.2.2.1<=255:=by rw[h.adm];exact c
 have v:zAI (a2,Sb,Sc,Sc,())=Sa true:=by refine jS ?_;unfold zAI;dsimp only;exact zB (tt rfl (ff rfl (tt (by rw[h.pref];rfl) (tt (by rw[h.path];rfl) (tt (by rw[h.frm];rfl) (ff rfl (zA (zA (by rw[h.nxt];rfl)))))))))
 have d:xS (a2,())=Sa true:=by
  refine jS ?_;unfold xS;dsimp only;refine zB ?_;refine zB (zK (xM _ _ _) (ff (bd h.cls) ?_));refine zB (zK (xM _ _ _) (ff (bd e) ?_));refine zB (zK (xM _ _ _) (ff (bd h.met) ?_));refine zB (zK v (zA (ff rfl ?_)));refine zB ?_;refine zB (zK (xM _ _ _) (ff (bd h.inner) ?_))
  have a:Wp (bif a2.2.2.2.2.2.2.2.2.2.2.2.2.1 then Ae (bif a2.2.2.1==(1:Int)then bif a2.2.2.2.2.1==(0:Int)then bif a2.2.2.2.2.2.2.1==(0:Int)then Sa (((Aa a2.2.2.2.2.2.2.2.2.2.2.2.1:Nat):Int)==(0:Int))else Sa Sc else Sa Sc else Sa Sc) (fun(k:Bool)=>Sa k)
    else Ae (bif decide (((Aa a2.2.2.2.2.2.2.2.2.2.2.2.1:Nat):Int)>(0:Int))then Ae (yW (a2.2.2.2.2.2.2.2.2.2.2.2.1,Sc,())) fun(n:Bool)=>Sa n else Sa Sc) (fun(m:Bool)=>Sa m)) (fun b=>b=Sb):=by
   rcases h.kind with⟨t,B,q,E,F⟩|⟨t,B,q⟩
   .simp_all[zA]
   .refine ff t (zB (tt ?_ (zB (zK (qCp (ai (zAa f h.hops) (by omega)) h.hops.so (fun x D=>qEu f (h.hops.ok x D))) (zA (zA rfl))))))
    grind[decide_eq_true,List.length_pos_iff]
  refine zF (fun G=>zA (ff ?_ a)) (fun _=>zA (ff rfl a));have p:a2.2.2.1≠(4:Int):=fun H=>by grind
  rw[h.inn4 p];rfl
 refine jS ?_;unfold zEC;dsimp only;refine zB ?_;refine zB (zK (zCj _) (ff (by rw[h.pre];rfl) ?_));refine zB (zK (xM _ _ _) (ff (bd h.tag) (zA ?_)));refine ff (by rw[h.path];rfl) ?_;refine zHm (P:=fun _=>True) (by rw[h.path];decide) ?_ (fun _=>?_)
 .intro r z u;rw[h.path]at u;simp at u
 .exact ff (by rw[h.proto];rfl) (ff (by rw[h.proto];rfl) (tt (by rw[h.proto];rfl) (zB (zK d (zA rfl)))))
theorem qEl(h:∀x,x∈a9->LsR g i C x):∀z,z∈zBs a9->LsR g i C z:=by
 intro z p;obtain⟨b,m,rfl⟩:=zXV p;have a:=h b m;have e:=zAb a9 b.1 b;refine⟨a.proto,a.adm,a.pref,a.path,a.frm,a.nxt,a.on,a.pre,a.att,⟨e,fun x f=>?_⟩,a.tag,a.met,a.inner,a.cls,a.inn4,?_⟩
 .obtain⟨y,d,_,_,c⟩:=(xA a9 b.1 b x).1 f;exact(h y d).hops.ok x c
 .rcases a.kind with⟨v,r,q,j,B⟩|⟨v,r,u⟩
  .refine .inl ⟨v,r,q,j,br.2 (fun x f=>?_)⟩;obtain⟨y,d,_,A,c⟩:=(xA a9 b.1 b x).1 f;obtain⟨k,D,_⟩:=zUA (h y d).proto a.proto A;rcases(h y d).kind with⟨_,_,_,_,E⟩|⟨_,F,_⟩
   all_goals grind
  .refine .inr ⟨v,r,fun n=>?_⟩;obtain⟨t,G,H⟩:=ca u;have:t∈zCz a9 b.1 b:=(xA a9 b.1 b t).2 ⟨b,m,rfl,zUB b,by grind⟩;have n:zCz a9 b.1 b=[]:=n
   grind
structure zY3(x:Ty.El zC):Prop where
 pre:zC2 x.1=Sb
 cls:x.2.2.1=(3:Int)\/x.2.2.1=(4:Int)
 met:(0:Int)<=zDZ x/\zDZ x<=16777215
 tag:(0:Int)<=x.2.2.2.2.2.2.1/\x.2.2.2.2.2.2.1<=(65535:Int)
theorem zWw(v:Ty.El zH)(q:zFz v)(ext:List (List (Ty.El zC))):Wp (zDo (v,ext,())) (fun b=>b=Sb->ext.length=(z8 v).length/\∀l,l∈ext->l.length<=12/\∀x,x∈l->zY3 x):=by
 have r:(z8 v).length<=9:=q.rs;unfold zDo;dsimp only;refine zF (fun _=>zA (fun h=>by cases h)) (fun t=>?_)
 have t:ext.length=(z8 v).length:=by
  grind
 refine zAK (xs:=ext) (by omega) (fun i=>∀l,l∈ext.take i->l.length<=12/\∀x,x∈l->zY3 x) (by simp) ?_ ?_
 .intro i l e G;have A:=(aa.1 e).1;refine jU (zB (zK (zM e) ?_));refine zO (fun _=>zA (fun h=>by cases h)) (fun f=>?_);have f:l.length<=12:=by omega
  simp only[zM e,af];refine zJO (xs:=l) (by omega) (fun k=>∀x,x∈l.take k->zY3 x) (by simp) ?_ ?_
  .intro k x j m;simp only[zM j,af];refine zB ((show Wp _ (fun b:Bool=>b=Sc->zY3 x)from ?_).mono ?_)
   .refine zB (zK (zCj _) (zF (fun _=>zA (fun h=>by cases h)) (fun a=>?_)));have a:zC2 x.1=true:=by simpa using a
    have c:∀n:(x.2.2.1=(3:Int)\/x.2.2.1=(4:Int)),Wp (bif decide (x.2.2.2.2.1< (0:Int))then Sa Sb else bif decide (x.2.2.2.2.1>(16777215:Int))then Sa Sb else bif decide (x.2.2.2.2.2.2.1< (0:Int))then Sa Sb else Sa (decide (x.2.2.2.2.2.2.1>(65535:Int)))) (fun b:Bool=>b=Sc->zY3 x):=by intro n;refine zO (fun _=>zA (fun h=>by cases h)) (fun B=>zO (fun _=>zA (fun h=>by cases h)) (fun C=>zO (fun _=>zA (fun h=>by cases h)) (fun D=>zA (fun g=>?_))));have g:=of_decide_eq_false g;exact⟨a,n,⟨dA.1 B,dA.1 C⟩,⟨dA.1 D,dA.1 g⟩⟩
    refine zF (fun E=>zF (fun _=>zA (fun h=>by cases h)) (fun H=>c (.inr ?_))) (fun E=>c (.inl ?_));all_goals grind
   .intro b I;refine zF (fun _=>zA (e2r ⟨(fun u h=>by cases h),?_⟩)) (fun F=>zA (e2l ⟨rfl,fun y p=>?_⟩))
    .grind[vB]
    .rcases(kZ j).1 p with p|rfl;all_goals grind
  .intro m;rw[bD]at m;refine zA (e2l ⟨rfl,fun J d=>?_⟩);rcases(kZ e).1 d with d|rfl;all_goals grind
 grind[List.take_length,zA]
theorem zTz(t:qE l j g)(u:(z8 g)[i]?=Sa C)(a:zQ2 C=Sb){x:Ty.El zC}(e:zY3 x)(y:0<=I)(v:I<=352321515)(k:zDH g i P)(f:P≠[]):
  Wp (vW (zAE g,(i:Int),x,I,P,())) (fun z=>z.2.1=Sb->LsR g i C z.1):=by
 have m:=(aa.1 u).1;have A:=e.met;unfold vW;refine zB (zK (zEv t m x.1) ?_);refine zF (fun _=>zA (fun h=>by cases h)) (fun d=>?_);simp;refine zB (zK (show idx (zTD g).1.1.1 (i:Int)=Sa C from zM u) ?_);refine zB (zK (zHi P (ai (zAa t k) (by omega))) ?_);refine jU ?_;have p:(0:Int)<=0/\(0:Int)<=1073741824:=by decide
 refine zF (fun q=>zA (e2l (zA (fun _=>?_)))) (fun q=>zF (fun n=>zA (e2l (zA (fun _=>?_)))) (fun n=>zA (e2r (fun h=>by cases h))))
 .have q:x.2.2.1=(3:Int):=of_decide_eq_true (show decide (x.2.2.1=(3:Int))=Sb from q);have B:Ac .i64 (x.2.2.2.2.1+I)=zDZ x+I:=zI (x:=zDZ x+I) (by omega) (by omega);rw[B]
  exact⟨rfl,rfl,rfl,rfl,rfl,rfl,a,e.pre,d,k,e.tag,(⟨by omega,by omega⟩:(0:Int)<=zDZ x+I/\zDZ x+I<=1073741824),p,(⟨by grind,by grind⟩),fun _=>rfl,
   .inr ⟨rfl,(fun h=>by grind),f⟩⟩
 .have n:x.2.2.1=(4:Int):=of_decide_eq_true (show decide (x.2.2.1=(4:Int))=Sb from n)
  exact⟨rfl,rfl,rfl,rfl,rfl,rfl,a,e.pre,d,k,e.tag,(⟨A.1,by omega⟩:(0:Int)<=zDZ x/\zDZ x<=1073741824),(⟨y,by omega⟩:(0:Int)<=I/\I<=1073741824),(⟨by grind,by grind⟩),(fun h=>absurd n h),
   .inr ⟨rfl,(fun h=>by grind),f⟩⟩
theorem qCr(e:(z8 g)[i]?=Sa C)(f:zDH g i P)(a:P≠[]):zQ2 C=true:=by obtain⟨t,k,rfl⟩:=ca a;obtain⟨v,r,h,x,q,j,m,y,c,_⟩:=f.ok t (by simp);have:=c.hr;rw[e]at this;cases this;exact(zNq e c.hx c.tx).1
theorem zXf{n:Ty.El zJ}(p:qE n j g)(F:(z8 g)[i]?=Sa C){ext:List (List (Ty.El zC))}(al:ext.length=(z8 g).length)(H:∀l,l∈ext->l.length<=12/\∀x,x∈l->zY3 x):
  Wp (zBM (g,ext,(i:Int),())) (fun t=>(∀z,z∈t->LsR g i C z)/\t.Pairwise rlt/\t.length<=1048576):=by
 have I:=(aa.1 F).1;have h8:=yC p;have J:Aa g.1.1=(z8 g).length:=rfl;unfold zBM zUl;refine zJN ?_;unfold zCx;dsimp only;refine zB ?_;rw[show decide ((i:Int)< (0:Int))=Sc from decide_eq_false (by omega),show decide ((i:Int)>=((Aa g.1.1:Nat):Int))=Sc from decide_eq_false (by rw[J];omega)];simp only[cond_false];refine zA ?_;refine ff rfl ?_;have K:uH Sc (g,())=Sa (Sb,zAE g):=by show(zFf g).map _=_;rw[zXd p (by omega)];rfl
 refine zB (zK K ?_);obtain⟨li,L,M,an⟩:=zTy p F;have N:j6 Sb (zAE g,(i:Int),())=Sa (Sb,li):=by show(qG _).map _=_;rw[L];rfl
 refine zB (zK N ?_);refine zB ?_;refine zNk (n:=(z8 g).length) (c:=fun _=>(if((Aa g.1.1:Nat):Int)< ((Aa ext:Nat):Int)then((Aa g.1.1:Nat):Int)else((Aa ext:Nat):Int))) (by omega) (fun k (v:List (Ty.El zC)×Bool)=>v.2=Sb/\(∀z,z∈v.1->LsR g i C z)/\v.1.length<=120000+12*k) ⟨rfl,fun z r=>(M z r).ls p (by omega),by omega⟩ (fun _ _ _=>by omega) ?_ ?_
 .rintro q ⟨v,b⟩ hq ⟨d,e,u⟩;simp only at d e u;subst d;have m:ext[q]?=Sa (ext[q]'(by omega)):=by simp
  generalize (ext[q]'(by omega))=l at m;obtain⟨ag,O⟩:=H l (ae m);have a:∀b:Bool,b=Sb->Wp (Sa (v,b)) (fun f:List (Ty.El zC)×Bool=>f.2=Sb/\(∀z,z∈f.1->LsR g i C z)/\f.1.length<=120000+12*(q+1)):=fun b d=>zA ⟨d,e,by grind⟩;refine zB (zK (zM m) (zF (fun _=>a Sb rfl) (fun _=>?_)));obtain⟨z,r,P⟩:=zZn p I hq;have Q:wS Sb (zAE g,(i:Int),(q:Int),())=Sa (Sb,z):=by show(qM _).map _=_;rw[r];rfl
  refine zB (zK Q (zF (fun _=>a Sb rfl) (fun A=>?_)));have A:z.2.2.1=true:=by simpa using A
  obtain⟨_,z0,z1,⟨z2,_⟩,z3⟩:=P A;have S:=qCr F z2 z3;refine zB (zK (zM m) ?_);refine uO (xs:=l) (by omega) (fun k (f:List (Ty.El zC)×Bool)=>f.2=Sb/\(∀z,z∈f.1->LsR g i C z)/\f.1.length<=120000+12*q+k) ⟨rfl,e,by omega⟩ ?_ (fun f h=>⟨h.1,h.2.1,by omega⟩);rintro k x ⟨f,b⟩ W ⟨d,B,D⟩;simp only at d B D;subst d;have ao:=(aa.1 W).1;obtain⟨y,Y,Z⟩:=zTz p F S (O x (ae W)) z0 z1 z2 z3;have ab:zA0 Sb (zAE g,(i:Int),x,z.1,z.2.1,())=Sa (Sb,y):=by show(vW _).map _=_;rw[Y];rfl
  refine zB (zK (zM W) (zB (zK ab (zF (fun ad=>?_) (fun _=>zA ⟨rfl,B,by show f.length<=_;omega⟩)))));refine zB (xZ (by simp;omega) (zA ⟨rfl,fun z r=>?_,by simp;omega⟩));rcases aU.1 r with r|r
  .exact B z r
  .rw[aK.1 r];exact Z ad
 .rintro⟨v,b⟩ ⟨d,e,u⟩;simp only at d e u;have E:∀x,x∈v->RtS x:=fun x G=>⟨by rw[show Aa x.2.2.2.2.2.2.2.2.1=0 by rw[(e x G).path];rfl];omega,ai (zAa p (e x G).hops) (by omega)⟩
  refine zB ((zEe v (by omega) E (fun x y G Y=>zCq x y (e x G).proto (e y Y).proto)).mono ?_);rintro z rfl;exact zA ⟨qEl e,zHw v,ai (zMK v) (by omega)⟩
theorem qCs(k:qE l j g)(m:(z8 g)[i]?=Sa C)(p:qGL g i a6):
  ∃(e:Ty.El zR) (x y:Ty.El zZ),zED (g,(i:Int),a6.1,a6.2.1,())=Sa (e,Sb,())/\zGh (g,e,())=Sa y/\xLS y=Sb/\idx (vZ C) a6.1=Sa x/\wL x=wL y:=by
 obtain⟨t,v,u,x,q,n,f,y,a,rfl⟩:=p;have:=a.hr;rw[m]at this;cases this;have c:=a.nb;unfold zVU at c;rw[qEh k]at c;have d:zTo g (((q:Int),(n:Int),()):Ty.El zR)=Sa (qJ y):=by unfold zTo;simp;rw[show g.1.1[q]?=Sa f from a.hq];simp only;rw[show f.2.2.1[n]?=Sa y from a.hy]
 refine⟨((q:Int),(n:Int),()),x,y,jS (zO3 l j g k i v (qJ y) _ c d),jS (zLN g _ f y (dL q) (dL n) ?_ ?_),(zNq a.hq a.hy a.ty).2.1,zM a.hx,a.ax.trans a.ay.symm⟩
 .show g.1.1[Ab (q:Int)]?=Sa f;rw[aF];exact a.hq
 .show f.2.2.1[Ab (n:Int)]?=Sa y;rw[aF];exact a.hy
theorem qF8(e:qE l j g)(f:(z8 g)[i]?=Sa C)(v:(vZ C)[J]?=Sa a5)(h:zYM g i a0=Sc)(a:upB g (i:Int) (J:Int)=Sb):kD (qJ a5) (jW a5)≠a0:=by intro r;subst r;rw[qBF e f v a]at h;cases h
theorem zPp(n:Ty.El zJ)(d:List Int)(ext:List (List (Ty.El zC))):Wp (zBN (n,d,ext,())) (fun b=>b=Sb):=by
 unfold zBN;dsimp only;refine zB ((zRK n d).mono ?_);rintro⟨v,ok,⟨⟩⟩ a;simp only at a;refine zB ((show Wp _ (fun s:Bool=>s=Sc->qE n d v/\ext.length=(z8 v).length/\∀l,l∈ext->l.length<=12/\∀x,x∈l->zY3 x)from ?_).mono ?_)
 .refine zF (fun _=>zA (fun h=>by cases h)) (fun f=>?_);have f:ok=true:=by simpa using f
  have z:=a f;refine zB ((zWw v z.s ext).mono (fun b A=>zA (fun h=>?_)))
  grind
 .intro s m;refine zF (fun _=>zA rfl) (fun B=>?_);obtain⟨a,C,D⟩:=m B;have S:=yC a;have E:n.1=z8 v:=by unfold z8;rw[a.net]
  rw[E];refine zAK (xs:=z8 v) (by omega) (fun _=>True) trivial ?_ (fun _=>zB (zA (zA rfl)));intro r u g _;have G:(vZ u).length<=20:=(a.s.sm u (ae g)).i1;refine jU (zB ((zXf a g C D).mono ?_));rintro t ⟨H,I,p⟩;refine zB ((zZc p (fun x j=>qG4 a g (H x j)) (fun x j=>(H x j).proto) I).mono ?_);rintro b rfl;refine ff rfl ?_;have K:Aa t<=1048576:=p;refine zJO (xs:=t) (by omega) (fun _=>True) trivial ?_ (fun _=>zA (e2l ⟨rfl,trivial⟩));intro i x j _;have c:=H x (ae j);have M:=zAa a c.hops;simp only[zM j,zM g,af];refine jU ?_;refine ff ?_ ?_
  .have:x.2.2.2.1=zN9 u:=c.adm
   grind
  refine jU ?_;refine(zJO (xs:=zMt x) (by omega) (fun _=>True) trivial ?_ ?_:Wp _ (vB _ _))
  .intro k h q _;simp only[zM q,af];obtain⟨e,N,y,O,L,W,P,Y⟩:=qCs a g (c.hops.ok h (ae q));refine zB (zK O ?_);refine zB ((show Wp _ (fun s:Bool=>s=Sc)from ?_).mono (fun s m=>ff m (zA (e2l ⟨rfl,trivial⟩))));refine ff rfl (zB (zK L ?_));refine ff (by grind) ?_;refine zB (zK P (zB (zK L (zA ?_))))
   grind
  .intro _;show Wp _ _;refine zJO (xs:=vZ u) (by omega) (fun _=>True) trivial ?_ ?_
   .intro k N q _;simp only[zM q,af];refine zB ((show Wp _ (fun s:Bool=>s=Sc)from ?_).mono (fun s m=>ff m (zA (e2l ⟨rfl,trivial⟩))));refine zB ((zLM v r k a.s).mono (fun b A=>?_));refine zF (fun J=>?_) (fun _=>zA rfl);rw[J]at A;refine zB (zK (uB _ _) (zA ?_));have Q:=qF8 a g q c.att A.symm
    grind
   .intro _;show Wp _ _;exact zA (e2l ⟨rfl,trivial⟩)
theorem zKN:∀x:ElS [zJ,.sl tI,.sl (.sl zC)],qBx 1048576 [zJ,.sl tI,.sl (.sl zC)] x->zBN x=Sa true:=by
 grind[jS,zPp]
end Go.Ve
