/- law16 -/
import Derived.Test.YtgiopebfjmfmhaaGreatLp23
import Derived.Test.YtgiopebfjmfmhaaGreatLp21
import Derived.Test.YtgiopebfjmfmhaaGreatLp13
import Derived.Test.YtgiopebfjmfmhaaGreatLp18
set_option linter.unusedVariables false
open Option renaming some->Sa
open Bool renaming true->Sb,false->Sc
open Int renaming toNat->Aa
open List renaming length->Ab,range->Ac,length_filterMap_le->Af,replicate->Ag,pairwise_iff_getElem->Ah,set_getElem_self->Ai,nodup_nil->Aj,nodup_append->Al,range_succ->Am,zipIdx_map->An,length_map->Ao
open Go.IntKind renaming wrap->Ad
open Option renaming bind->Ae,isNone_some->Ak
set_option maxRecDepth 1000000
set_option maxHeartbeats 4000000
namespace Go.Ve
open Go Go.Proofs
theorem zUK{α β:Type}{f:α->Option β}{P:α->β->Prop}:∀(xs:List α),(∀x,x∈xs->Wp (f x) (P x))->Wp (zCn f xs) (fun a=>a.length=xs.length/\∀(i:Nat) x y,xs[i]?=Sa x->a[i]?=Sa y->P x y)
 |[],_=>zA ⟨rfl,fun i x y h=>by simp at h⟩
 |x::r,h=>by obtain⟨y,g,j⟩:=h x (by simp);obtain⟨a,c,d,k⟩:=zUK r (fun z e=>h z (aw _ e));refine⟨y::a,?_,by simp[d],?_⟩;all_goals grind[zCn]
variable {g i:Nat}
theorem yK.cost{E:List Arc}{M:Nat}(hE:∀e,e∈E->e.c<=M){l:List Nat}(h:yK E g l i):i+M<=l.length*M:=by
 induction h with
 |nil=>simp
 |snoc e a d f s=>
  grind[List.length_cons,Nat.succ_mul]
theorem yK.first{E:List Arc}{l:List Nat}{c:Nat}(h:yK E g (i::l) c):(i=g/\l=[]/\c=0)\/∃e f d,e∈E/\e.a=g/\yK E e.b (i::f) d/\c=e.c+d:=by
 generalize j:i::l=m at h
 induction h generalizing i l with
 |nil=>grind
 | @snoc y u x e z s t k=>
  obtain⟨rfl,rfl⟩:=bZ j;right;rcases k rfl with⟨rfl,rfl,rfl⟩|⟨n,f,d,p,q,r,A⟩
  .exact⟨e,[],0,s,t,.nil,by omega⟩
  .exact⟨n,y::f,d+e.c,p,q,.snoc e r s t,by omega⟩
theorem yK.cons{E:List Arc}{e:Arc}(c:e∈E){l:List Nat}(h:yK E e.b (g::l) i):∃d,yK E e.a (g::d) (e.c+i):=by
 generalize f:g::l=m at h
 induction h generalizing g l with
 |nil=>
  obtain⟨rfl,rfl⟩:=bZ f;have:=yK.snoc (E:=E) (s:=e.a) (l:=[]) e .nil c rfl
  grind
 | @snoc y q r j u k n p=>obtain⟨rfl,rfl⟩:=bZ f;obtain⟨d,t⟩:=p rfl;exact⟨y::d,by rw[<-bx];exact .snoc j t k n⟩
noncomputable def zGn(n:Nat)(es:List (Ty.El qD))(s:Nat):List Int:=(jH ((n:Int),es,(s:Int),())).getD []
theorem zG1{n:Nat}{es:List (Ty.El qD)}(a:n<=64)(c:es.length<=1048576)(e:g<n):jH ((n:Int),es,(g:Int),())=Sa (zGn n es g)/\Dst (zIP n es) n g (zGn n es g):=by
 obtain⟨d,f,s⟩:=zLY n es g a c e;unfold zGn
 grind
variable {P:List (Ty.El qD)}
theorem zUt(a:g<=64)(c:P.length<=1048576)(d:i<g):zHq (g:Int) P (i:Int)=Sa (zGn g P i):=by obtain⟨e,f⟩:=zG1 a c d;unfold zHq;rw[e,af,if_pos (by rw[aB];exact f.1)]
variable {C:List Int}
theorem Dst.bnd(c:i<g)(h:Dst (zIP g P) g i C){t:Nat}(f:t<g): -1<=C.getD t 0/\C.getD t 0+16777215<=(g:Int)*16777215:=by
 rcases h.2 t f with⟨n,_⟩|⟨k,n,⟨l,es⟩,j⟩
 .omega
 .obtain⟨q,r,a,u,m⟩:=es.short;have x:=j _ _ a;have y:=zVa g _ (a.lt (fun e p=>(qAY e p).2) c) m;have z:=a.cost (M:=16777215) qEB;omega
theorem zN7{α:Type}(eq:α->α->Bool):∀l:List α,(kP eq l).length<=l.length
 |[]=>ai _
 |[_]=>ai _
 |x::y::r=>by
  have:=zN7 eq (y::r);simp only[kP]
  grind
def zV2(l:List (Ty.El zQ))(xs:List (Ty.El zQ)):Prop:=l.Pairwise hlt/\l.length<=xs.length/\∀h,h∈l↔h∈xs
theorem zQR(xs:List (Ty.El zQ))(c:xs.length<1099511627776):Wp (Ae (jG xs ((),())) fun y=>jB y.1 ()) (fun l=>zV2 l xs):=by
 obtain⟨a,d,e⟩:=zRl xs;have f:jG xs ((),())=Sa (if xs=[]then[]else srt zNN xs,()):=by unfold jG;rw[if_pos c]
 refine zB (zM f ?_);unfold jB;rw[if_pos (by rw[e];exact c)];refine zA ⟨zE4 zJ2 zGX (fun _ _ a d=>zZi a d) _ a,?_,fun h=>?_⟩;all_goals grind[Nat.le_trans,zN7,Nat.le_of_eq,zDq,zJ2]
def zKt(n:Nat)(es:List (Ty.El qD))(r i:Nat)(h:Ty.El zQ):Prop:=
 i≠r/\∃e,e∈es/\zHU n e=Sb/\eA e=(r:Int)/\0<=(zGn n es (eB e).toNat).getD i 0/\eC e+(zGn n es (eB e).toNat).getD i 0=(zGn n es r).getD i 0/\e.2.2.2.1=h
theorem zSX(n:Nat)(es:List (Ty.El qD))(r:Nat)(m:n<=64)(A:es.length<=1048576)(hr:r<n):
  Wp (zCY ((n:Int),es,(r:Int),())) (fun p=>p.length=n/\∀i l,p[i]?=Sa l->l.Pairwise hlt/\l.length<=es.length/\∀h,h∈l↔zKt n es r i h):=by
 unfold zCY;refine zB (zM (zJy n m) ?_);have d:¬((n:Int)<=0\/1048576<es.length):=by omega
 rw[if_neg d];refine zB (zM (zUt m A hr) ?_);refine zB ((zUK (P:=fun e (y:Ty.El qD×Option (List Int))=>y.1=e/\y.2=if zHU n e=Sb/\eA e=(r:Int)then Sa (zGn n es (eB e).toNat)else none) es ?_).mono ?_)
 .intro e K;refine zB (zM (zIU e n) ?_);refine zH (fun h=>?_) (fun h=>?_)
  .obtain⟨q,t⟩:=(am _ _).mp h;have t:eA e=(r:Int):=of_decide_eq_true t;obtain⟨L,M,B,N,O,Q⟩:=zEE q;rw[if_pos ⟨q,t⟩];have hB:e.2.1=(((eB e).toNat:Nat):Int):=(bl B).symm;refine zIb (zM (x:=zGn n es (eB e).toNat) ?_ ⟨rfl,rfl⟩)
   grind[zUt]
  .refine zA ⟨rfl,?_⟩;rw[if_neg];simp_all[eA]
 .rintro c ⟨ab,S⟩;rw[aB]
  have W:∀i,i<n->∀h,h∈zDh (r:Int) (zGn n es r) c i↔zKt n es r i h:=by
   intro i g h;unfold zDh;rw[br];constructor
   .rintro⟨y,D,a⟩;obtain⟨j,E,rfl⟩:=aC D;have f:j<es.length:=by omega
    obtain⟨u,Y⟩:=S j es[j] c[j] (by simp[f]) (by simp[E]);rw[Y]at a;by_cases z:zHU n es[j]=Sb/\eA es[j]=(r:Int)
    .obtain⟨L,M,B,N,O,Q⟩:=zEE z.1;rw[if_pos z]at a;simp only at a;have F:=((zG1 m A (show(eB es[j]).toNat<n by omega)).2).bnd (by omega) g;have Z:Ad .i64 (eC es[j]+(zGn n es (eB es[j]).toNat).getD i 0)=eC es[j]+(zGn n es (eB es[j]).toNat).getD i 0:=zJ (by omega) (by omega);have k:c[j].1.2.2.1=eC es[j]:=by rw[u];rfl
     rw[k,Z]at a;generalize hC:(decide ((i:Int)≠(r:Int))&&(decide ((zGn n es (eB es[j]).toNat).getD i 0>=0)&&(eC es[j]+(zGn n es (eB es[j]).toNat).getD i 0==(zGn n es r).getD i 0)))=C at a
     cases C with
     |false=>cases a
     |true=>rw[am,am]at hC;obtain⟨G,H,I⟩:=hC;have G:=of_decide_eq_true G;have H:=of_decide_eq_true H;have I:=eq_of_beq I;have a:Sa c[j].1.2.2.2.1=Sa h:=a;rw[u]at a;exact⟨fun h=>G (by rw[h]),es[j],aZ _,z.1,z.2,H,I,aX a⟩
    grind
   .rintro⟨ad,e,K,q,t,h0,p,rfl⟩;obtain⟨j,E,rfl⟩:=aC K;have f:j<c.length:=by omega
    obtain⟨u,Y⟩:=S j es[j] c[j] (by simp[E]) (by simp[f]);refine⟨c[j],aZ _,?_⟩;obtain⟨L,M,B,N,O,Q⟩:=zEE q;have F:=((zG1 m A (show(eB es[j]).toNat<n by omega)).2).bnd (by omega) g;have Z:Ad .i64 (eC es[j]+(zGn n es (eB es[j]).toNat).getD i 0)=eC es[j]+(zGn n es (eB es[j]).toNat).getD i 0:=zJ (by omega) (by omega);have k:c[j].1.2.2.1=eC es[j]:=by rw[u];rfl
    grind
  refine(zUK (P:=fun i l=>zV2 l (zDh (r:Int) (zGn n es r) c i)) (Ac n) ?_).mono ?_
  .intro i g;refine zQR _ ?_
   grind[Af,zDh,zGn]
  .rintro p ⟨h1,h2⟩;rw[b9]at h1;refine⟨h1,fun i l g=>?_⟩
   have J:i<n:=by
    grind
   obtain⟨k1,k2,k3⟩:=h2 i i l (bj J) g
   grind[Af,zDh,zGn]
theorem qBW{r:Nat}(j:g<=64)(m:P.length<=1048576)(x:i<g)(hi:r<g)(d:r≠i)(I:0<=(zGn g P i).getD r 0):∃h,zKt g P i r h:=by
 have y:=(zG1 j m x).2;rcases y.2 r hi with⟨z,_⟩|⟨k,z,⟨l,A⟩,J⟩
 .omega
 .rcases A.first with⟨h,_⟩|⟨a,K,L,p,M,q,N⟩
  .omega
  .obtain⟨e,B,rfl⟩:=aO.1 p;obtain⟨f,t⟩:=aU.1 B;obtain⟨O,es,Q,S,W,Y⟩:=zEE t;have C:(zGq e).b=(eB e).toNat:=rfl;have Z:(zGq e).a=(eA e).toNat:=rfl;have hc:((zGq e).c:Int)=eC e:=bl (by omega);have n:=(zG1 j m (show(eB e).toNat<g by omega)).2;refine⟨e.2.2.2.1,d,e,f,t,by omega,?_⟩;rw[C]at q;rcases n.2 r hi with⟨D,u⟩|⟨E,D,⟨F,u⟩,G⟩
   .grind
   .have H:=G _ _ q;obtain⟨l3,q4⟩:=yK.cons p (show yK (zIP g P) (zGq e).b (r::F) E from u)
    grind
def qBB(a:Ty.El zG):Bool:=a.2.2.2.2.2.2.2.2.1.1
abbrev qDH(a:Ty.El zG):Int:=a.2.2.2.2.2.2.2.2.1.2.1
abbrev zAP(a:Ty.El zG):List (Ty.El vK):=a.2.2.2.2.2.2.2.2.1.2.2.1
abbrev xLS(x:Ty.El z6):Bool:=x.2.2.2.2.2.1
def tpB(v:Ty.El zF)(r i:Nat):Bool:=match(zV v)[r]? with
 |some a=>match(wH a)[i]? with
  |some x=>qBB a&&(xLS x&&upB v (r:Int) (i:Int))
  |none=>Sc
 |none=>Sc
variable {I:Ty.El z6}{j:Ty.El zF}{l:Ty.El zG}
theorem qCI(c:(zV j)[g]?=Sa l)(d:(wH l)[i]?=Sa I):tpB j g i=(qBB l&&(xLS I&&upB j (g:Int) (i:Int))):=by simp_all[tpB]
theorem zHE(c:(zV j)[g]?=Sa l)(d:(wH l)[i]?=Sa I):vI (j,(g:Int),(i:Int),())=Sa (I,Sb,()):=by refine vB ?_;unfold vI;have e:=(aa.1 c).1;have f:=(aa.1 d).1;have r:decide ((g:Int)< (0:Int))=false:=decide_eq_false (by omega);have h:decide ((g:Int)>=((Ab j.1.1:Nat):Int))=false:=decide_eq_false (by grind);have v:decide ((i:Int)< (0:Int))=false:=decide_eq_false (by omega);have k:decide ((i:Int)>=((Ab l.2.2.1:Nat):Int))=false:=decide_eq_false (by grind);refine zB ?_;simp only[r,h,v,cond_false];refine zB (zM (zO c) (zA ?_));simp only[k,cond_false];exact zB (zM (zO c) (zB (zM (zO d) (zA rfl))))
theorem zFW(e:zGt j)(c:(zV j)[g]?=Sa l)(d:(wH l)[i]?=Sa I)(area:Int):
  wC (j,(g:Int),(i:Int),area,())=Sa (tpB j g i&&(w7 I==area)):=by
 refine vB ?_;unfold wC;refine zB (zM (zHE c d) ?_);rw[qCI c d];refine zB ?_;simp only[cond_true];refine zB (zM (zO c) ?_);unfold qBB
 cases h:l.2.2.2.2.2.2.2.2.1.1 with
 |false=>simp_all[zA]
 |true=>
  cases f:xLS I with
  |false=>simp_all[zA]
  |true=>
   simp only[cond_true];rw[show I.2.2.2.2.2.1=Sb from f];simp only[cond_true]
   cases v:(w7 I==area)with
   |false=>simp_all[zA]
   |true=>simp only[cond_true];refine zB ((zIl j g i e).mono (fun b r=>zA (zA ?_)));rw[r];simp
abbrev zTl(v:Ty.El zF)(r i:Nat):List (Ty.El zS):=zHQ v (r:Int) (i:Int) (fun e=>e.1 !=(r:Int)||e.2.1 !=(i:Int))
def zJ9(v:Ty.El zF)(r i:Nat)(x:Ty.El z6)(area:Int)(e:Ty.El zS):Option (Ty.El qD):=
 match(zV v)[Aa e.1]? with
 |some q=>match(wH q)[Aa e.2.1]? with
  |some y=>if(tpB v (Aa e.1) (Aa e.2.1)&&(w7 y==area))=Sb then Sa ((r:Int),e.1,vP x,((i:Int),qJ y,()),())else none
  |none=>none
 |none=>none
def zHm(v:Ty.El zF)(r:Nat)(a:Ty.El zG)(area:Int)(i:Nat):List (Ty.El qD):=
 match(wH a)[i]? with
 |some x=>if(tpB v r i&&(w7 x==area))=Sb then(zTl v r i).filterMap (zJ9 v r i x area)else[]
 |none=>[]
def zJ8(v:Ty.El zF)(area:Int)(r:Nat):List (Ty.El qD):=
 match(zV v)[r]? with
 |some a=>(Ac (wH a).length).flatMap (zHm v r a area)
 |none=>[]
def zDm(v:Ty.El zF)(area:Int):List (Ty.El qD):=(Ac (zV v).length).flatMap (zJ8 v area)
variable {J:Ty.El zI}
theorem zY8(c:qG J C j){e:Ty.El zS}(h:e∈zTl j g i):
  (0:Int)<=e.1/\(0:Int)<=e.2.1/\∃q y,(zV j)[Aa e.1]?=Sa q/\(wH q)[Aa e.2.1]?=Sa y:=by
 have a:upB j (g:Int) (i:Int)=true:=by
  unfold zTl zHQ at h
  grind
 obtain⟨f,_,d⟩:=zZI c a;have:zJc J f.1 f.2.1 e:=by simp_all[zTl,zHQ]
 obtain⟨n,k,q,y,l,m,_⟩:=this;refine⟨n,k,q,y,?_,m⟩;show j.1.1[Aa e.1]?=Sa q;rw[c.net];exact l
theorem zGh{α:Type}{f:Nat->List α}{m:Nat}(h:∀i,(f i).length<=m):∀k,((Ac k).flatMap f).length<=k*m
 |0=>by simp
 |k+1=>by
  have:=zGh h k
  grind[Am,List.length_append,Nat.succ_mul]
theorem zSt(c:zGt j)(r:Nat)(a:Ty.El zG)(area:Int)(i:Nat):(zHm j r a area i).length<=360:=by
 unfold zHm;split
 .split;all_goals grind[Nat.le_trans,Af,zNC]
 .simp
theorem zSs(c:zGt j)(area:Int)(r:Nat):(zJ8 j area r).length<=7200:=by
 unfold zJ8;split
 .rename_i a d;have e:=(c.sm a (ae d)).i1;have g:=zGh (f:=zHm j r a area) (m:=360) (fun i=>zSt c r a area i) (wH a).length
  grind
 .simp
theorem zGk(a:zGt j)(area:Int):(zDm j area).length<=64800:=by have d:=zGh (f:=zJ8 j area) (m:=7200) (fun i=>zSs a area i) (zV j).length;have c:=a.rs;have:(zV j).length*7200<=9*7200:=aq _ c;unfold zDm;omega
theorem zOV{α:Type}(f:Nat->List α)(k:Nat):(Ac (k+1)).flatMap f=(Ac k).flatMap f++f k:=by rw[dG,List.flatMap_append];simp
theorem zSb{α β:Type}(f:α->Option β){xs:List α}{x:α}(h:xs[g]?=Sa x):(xs.take (g+1)).filterMap f=(xs.take g).filterMap f++(f x).toList:=by
 grind[List.take_add_one,Option.toList_some]
theorem zJA(L:qG J C j)(area:Int):jD (j,area,())=Sa (zDm j area):=by
 have l:=L.s;refine vB ?_;unfold jD;have W:=l.rs;refine zB (kZ (xs:=j.1.1) (by omega) (fun k (g:List (Ty.El qD))=>g=(Ac k).flatMap (zJ8 j area)) rfl ?_ (fun g B=>zA B));intro r p g d B
 have Y:g.length<=9*7200:=by
  rw[B];refine aj (zGh (fun i=>zSs l area i) r) (aq _ ?_)
  grind
 refine zB (zM (zO d) ?_);have D:(wH p).length<=20:=(l.sm p (ae d)).i1;have N:p.2.2.1.length<=20:=D;refine kZ (xs:=p.2.2.1) (by omega) (fun k (z:List (Ty.El qD))=>z=g++(Ac k).flatMap (zHm j r p area)) (by simp) ?_ (fun z t=>?_)
 .intro i x z E t;have O:z.length<=9*7200+7200:=by rw[t,aN];have h1:=zGh (f:=zHm j r p area) (m:=360) (fun i=>zSt l r p area i) i;have h2:=(aa.1 E).1;omega
  refine zB (zM (zO E) ?_);refine zB (zM (zFW l d E area) ?_);rw[zOV,<-cz,<-t];have F:zHm j r p area i=if(tpB j r i&&(w7 x==area))=Sb then(zTl j r i).filterMap (zJ9 j r i x area)else[]:=by simp_all[zHm]
  rw[F]
  cases Z:(tpB j r i&&(w7 x==area))with
  |false=>exact zA (by simp)
  |true=>
   simp only[bI,cond_false,if_true];refine zB ((zKU j r i l).mono (fun u a=>?_));have ab:u.length<=360:=by rw[a];exact zNC l _ _ _
   have a:u=zTl j r i:=a;rw[<-a];refine kZ (xs:=u) (by omega) (fun k (h:List (Ty.El qD))=>h=z++(u.take k).filterMap (zJ9 j r i x area)) (by simp) ?_ (fun h c=>by simp_all);intro v e h G c;have H:h.length<=9*7200+7200+360:=by rw[c,aN];have:=bM (zJ9 j r i x area) (u.take v);have:=List.length_take_le' v u;omega
   obtain⟨a0,a1,q,y,I,n⟩:=zY8 L (a▸ae G);have P:e.1=((Aa e.1:Nat):Int):=(bl a0).symm;have Q:e.2.1=((Aa e.2.1:Nat):Int):=(bl a1).symm;refine zB (zM (zO G) ?_);have S:=zFW l I n area;rw[<-P,<-Q]at S;refine zB (zM S ?_);rw[zSb _ G,<-cz,<-c];have K:zJ9 j r i x area e=if(tpB j (Aa e.1) (Aa e.2.1)&&(w7 y==area))=Sb then Sa ((r:Int),e.1,vP x,((i:Int),qJ y,()),())else none:=by unfold zJ9;rw[I];simp only;rw[n]
   rw[K]
   cases ad:(tpB j (Aa e.1) (Aa e.2.1)&&(w7 y==area))with
   |false=>exact zA (by simp)
   |true=>simp only[bI,cond_false,if_true];have A:=zHE I n;rw[<-P,<-Q]at A;refine zB (zM A ?_);refine zB (zAb (by simp;omega) (zA ?_));rfl
 simp_all[zOV,zJ8,zV]
structure zV3(v:Ty.El zF)(area:Int)(r i:Nat)(ro:Ty.El zG)(x:Ty.El z6)(q j:Nat)(qo:Ty.El zG)(y:Ty.El z6):Prop where
 hr:(zV v)[r]?=Sa ro
 hx:(wH ro)[i]?=Sa x
 tx:tpB v r i=Sb
 ax:w7 x=area
 nb:(((q:Int),(j:Int),()):Ty.El zS)∈zTl v r i
 hq:(zV v)[q]?=Sa qo
 hy:(wH qo)[j]?=Sa y
 ty:tpB v q j=Sb
 ay:w7 y=area
theorem zRU(u:qG J C j){area:Int}{e:Ty.El qD}:
  e∈zDm j area↔ ∃r i g x q d k y,zV3 j area r i g x q d k y/\e=((r:Int),(q:Int),vP x,((i:Int),qJ y,()),()):=by
 unfold zDm;rw[bV];constructor
 .rintro⟨r,_,a⟩;unfold zJ8 at a;split at a
  .rename_i g z;obtain⟨i,_,a⟩:=bV.1 a;unfold zHm at a;split at a
   .rename_i x A;split at a
    .rename_i l;obtain⟨f,m,a⟩:=br.1 a;obtain⟨B,n,k,y,p,t⟩:=zY8 u m;unfold zJ9 at a;rw[p]at a;simp only at a;rw[t]at a;simp only at a;split at a
     .rename_i c;rw[am,beq_iff_eq]at l c;have D:((Aa f.1:Nat):Int)=f.1:=bl B;have E:((Aa f.2.1:Nat):Int)=f.2.1:=bl n;refine⟨r,i,g,x,Aa f.1,Aa f.2.1,k,y,⟨z,A,l.1,l.2,?_,p,t,c.1,c.2⟩,?_⟩;all_goals grind
     .cases a
    .cases a
   .cases a
  .cases a
 .rintro⟨r,i,g,x,q,d,k,y,h,rfl⟩;refine⟨r,aV.2 (aa.1 h.hr).1,?_⟩;unfold zJ8;rw[h.hr];refine bV.2 ⟨i,aV.2 (aa.1 h.hx).1,?_⟩;unfold zHm;rw[h.hx];simp only;rw[if_pos (by rw[h.tx,h.ax];simp)];refine br.2 ⟨_,h.nb,?_⟩;unfold zJ9;simp only[aB];rw[h.hq];simp only;rw[h.hy];simp only;rw[if_pos (by rw[h.ty,h.ay];simp)]
theorem zTG(c:(zV j)[g]?=Sa l)(d:(wH l)[i]?=Sa I)(h:tpB j g i=Sb):qBB l=Sb/\xLS I=Sb/\upB j (g:Int) (i:Int)=true:=by simp_all[qCI]
theorem qDM(c:qG J C j)(e:(zV j)[g]?=Sa l)(f:(wH l)[i]?=Sa I)(h:xLS I=Sb):(0<=w7 I/\w7 I<=255)/\1<=vP I/\vP I<=65535:=by
 have n:l∈J.1:=by have:=ae e;unfold zV at this;rw[c.net]at this;exact this
 exact(((zMi c).rt l n).ifs i I f).ls h
end Go.Ve
namespace Go.Ve
noncomputable section
open Go Go.Proofs
abbrev PT:=Nat×Int×(Int×Int×Int×Int)
def qBr(a:Nat->Bool)(r:Nat)(xs:List (Ty.El z6))(i:Nat):Option PT:=match xs[i]? with
 |some x=>if a i then Sa (r,w7 x,((r:Int),(kX (qJ x) (jR x)).1,(kX (qJ x) (jR x)).2.1,vP x))else none
 |none=>none
def zS6(a:Nat->Bool)(r:Nat)(xs:List (Ty.El z6))(k:Nat):List PT:=(Ac k).filterMap (qBr a r xs)
def qDl(c:Nat->Nat->Bool)(a:List (List (Ty.El z6)))(k:Nat):List PT:=(Ac k).flatMap fun r=>zS6 (c r) r (a.getD r []) (a.getD r []).length
theorem zTZ{α:Type}{l:List α}(h:l.Nodup){i j:Nat}(hi:i<l.length)(a:j<l.length)(c:l[i]=l[j]):i=j:=by
 grind[Nat.lt_trichotomy,Ah,hlt,absurd]
structure zTz(P:List PT)(S:List AR):Prop where
 nd:(S.map AR.num).Nodup
 pt:∀a,a∈S->a.parts=(P.filter (fun p=>p.2.1==a.num)).map (fun p=>p.2.2)
 mem:∀a,a∈S->∀r,a.mem r=Sb↔ ∃p,p∈P/\p.2.1=a.num/\p.1=r
 num:∀z:Int,z∈S.map AR.num↔ ∃p,p∈P/\p.2.1=z
theorem qC0:zTz [] []:=⟨Aj,(fun a h=>by cases h),(fun a h=>by cases h),(fun z=>by simp)⟩
theorem qF2{S:List AR}{num:Int}:(zPo S num=none/\num ∉ S.map AR.num)\/∃j a,zPo S num=Sa j/\S[j]?=Sa a/\a.num=num:=by
 unfold zPo
 cases h:S.findIdx? (fun a=>a.num==num)with
 |none=>
  grind
 |some j=>
  right;obtain⟨c,d,_⟩:=bg.1 h
  grind
theorem zTz.add{P:List PT}{S:List AR}(h:zTz P S)(r:Nat)(num:Int)(pt:Int×Int×Int×Int):zTz (P++[(r,num,pt)]) (xA S r num pt):=by
 unfold xA;have c:∀(z:Int) (g:Nat),(∃p,p∈P++[(r,num,pt)]/\p.2.1=z/\p.1=g)↔(∃p,p∈P/\p.2.1=z/\p.1=g)\/(num=z/\r=g):=by simp_all
 have d:∀z:Int,(∃p,p∈P++[(r,num,pt)]/\p.2.1=z)↔(∃p,p∈P/\p.2.1=z)\/num=z:=by simp_all
 have l:∀z:Int,(P++[(r,num,pt)]).filter (fun p=>p.2.1==z)=P.filter (fun p=>p.2.1==z)++(if num=z then[(r,num,pt)]else[]):=by
  grind
 rcases qF2 (S:=S) (num:=num)with⟨C,n⟩|⟨j,a,C,n,q⟩
 .rw[C];simp only;refine⟨?_,fun a ha=>?_,fun a ha g=>?_,fun z=>?_⟩
  .rw[bw,Al];refine⟨h.nd,by simp,fun x hx y hy H=>n ?_⟩;rw[H,show y=num from by simpa using hy]at hx;exact hx
  .rw[l];rcases a7.1 ha with ha|ha
   .have t:num≠a.num:=fun f=>n (f▸aO.2 ⟨a,ha,rfl⟩);rw[if_neg t,cw];exact h.pt a ha
   .rw[aM.1 ha];simp only[if_true]
    grind[num,List.filter_eq_nil_iff]
  .rw[c];rcases a7.1 ha with ha|ha
   .have t:num≠a.num:=fun f=>n (f▸aO.2 ⟨a,ha,rfl⟩);rw[h.mem a ha g]
    grind
   .rw[aM.1 ha];simp only;constructor
    .grind
    .rintro(⟨p,hp,u,_⟩|⟨_,u⟩)
     .grind[num,absurd]
     grind
  .rw[bw,a7,d,h.num]
   grind
 .rw[C];simp only;rw[n];simp only;obtain⟨hj,rfl⟩:=aa.1 n
  have e:(S.set j ⟨S[j].num,S[j].parts++[pt],fun k=>if k=r then Sb else S[j].mem k⟩).map AR.num=S.map AR.num:=by
   rw[dj]
   have:(S.map AR.num).set j S[j].num=S.map AR.num:=by
    have:S[j].num=(S.map AR.num)[j]'(by simpa using hj):=by simp
    rw[this,Ai]
   exact this
  have A:∀a,a∈S.set j ⟨S[j].num,S[j].parts++[pt],fun k=>if k=r then Sb else S[j].mem k⟩->(a∈S/\a.num≠num)\/a=⟨S[j].num,S[j].parts++[pt],fun k=>if k=r then Sb else S[j].mem k⟩:=by
   intro a ha;obtain⟨i,F,rfl⟩:=aC ha;rw[cb]at F;rw[cB];by_cases B:j=i
   .grind
   .rw[if_neg B];refine .inl ⟨aZ _,fun I=>B ?_⟩;have D:(S.map AR.num)[i]?=Sa num:=by simp[F,I]
    have E:(S.map AR.num)[j]?=Sa num:=by simp[hj,q]
    obtain⟨i1,D⟩:=aa.1 D;obtain⟨J,E⟩:=aa.1 E;exact zTZ h.nd J i1 (E.trans D.symm)
  have m:S[j]∈S:=aZ _;refine⟨by rw[e];exact h.nd,fun a ha=>?_,fun a ha g=>?_,fun z=>?_⟩
  .rw[l];rcases A a ha with⟨u,G⟩|rfl
   .rw[if_neg (fun f=>G f.symm),cw];exact h.pt a u
   .simp only;rw[q,if_pos rfl,bw,h.pt _ m,q];rfl
  .rw[c];rcases A a ha with⟨u,G⟩|rfl
   .rw[h.mem a u g]
    grind
   .simp only;rw[<-h.mem _ m g,q]
    grind
  .rw[e,h.num,d];refine⟨.inl,fun f=>f.elim id (fun f=>?_)⟩;subst f;rw[<-q];exact(h.num _).1 (aO.2 ⟨_,m,rfl⟩)
theorem zRs{P:List PT}{S:List AR}(h:zTz P S)(c:Nat->Bool)(e:Int->Int->Int×Int)(d:∀a l,e a l=((kX a l).1,(kX a l).2.1))(r:Nat)(xs:List (Ty.El z6)):∀k,zTz (P++zS6 c r xs k) (wJ c e r S xs k)
 |0=>by grind[zS6,wJ]
 |k+1=>by
  have f:=zRs h c e d r xs k
  have g:zS6 c r xs (k+1)=zS6 c r xs k++(qBr c r xs k).toList:=by
   grind[Am,zS6,qBr]
  rw[g,<-cz];simp only[wJ,qBr]
  cases xs[k]? with
  |none=>simpa using f
  |some x=>
   simp only
   cases c k with
   |false=>simpa using f
   |true=>simp only[if_true,cm];rw[d];exact f.add r (w7 x) _
theorem zRr(d:Nat->Nat->Bool)(e:Int->Int->Int×Int)(c:∀a l,e a l=((kX a l).1,(kX a l).2.1))(f:List (List (Ty.El z6))):∀k,zTz (qDl d f k) (qV d e f k)
 |0=>qC0
 |k+1=>by have g:=zRr d e c f k;unfold qDl;rw[zOV];exact zRs g (d k) e c k _ _
theorem qDA(a l:Int):zNB a l=((kX a l).1,(kX a l).2.1):=by unfold zNB;rw[xI]
def zF5(v:Ty.El zF):List PT:=qDl (tpB v) ((zV v).map wH) (zV v).length
def vY(v:Ty.El zF):List Int:=(zCr (qV (tpB v) (fun a l=>((kX a l).1,(kX a l).2.1)) ((zV v).map wH) (zV v).length)).map AR.num
def zBl(v:Ty.El zF)(num:Int)(r:Nat):Bool:=(zF5 v).any fun p=>p.2.1==num&&p.1==r
def kD(v:Ty.El zF)(num:Int)(r q:Nat):Int:=if r< (zV v).length/\zBl v num r=Sb/\q< (zV v).length then(zGn (zV v).length (zDm v num) r).getD q 0 else-1
def zCf(v:Ty.El zF)(num:Int):List (Ty.El zJv):=((zF5 v).filter (fun p=>p.2.1==num)).map (fun p=>((p.2.2.1,(p.2.2.2.1,p.2.2.2.2.1,()),p.2.2.2.2.2,()):Ty.El zJv))
def zG6(v:Ty.El zF)(num:Int):Ty.El qN:=(num,zCf v num,zDm v num,b8 (zBl v num),i88 (kD v num),())
theorem zOA(v:Ty.El zF):zTz (zF5 v) (qV (tpB v) (fun a l=>((kX a l).1,(kX a l).2.1)) ((zV v).map wH) (zV v).length):=zRr _ _ (fun _ _=>rfl) _ _
variable {g:Ty.El zF}
theorem zTY{z:Int}:z∈vY g↔ ∃p,p∈zF5 g/\p.2.1=z:=by rw[<-(zOA g).num z];unfold vY;exact((cR _ _).map _).mem_iff
theorem zXd(v:Ty.El zF):(vY v).Pairwise (· < ·):=by
 have d:(vY v).Nodup:=((cR _ _).map AR.num).nodup_iff.2 (zOA v).nd;have e:(vY v).Pairwise (fun a b=>a<=b):=by unfold vY;rw[List.pairwise_map];refine(dp (le:=fun a b:AR=>decide (a.num<=b.num)) (fun a b c d e=>?_) (fun a b=>?_) _).imp (fun h=>?_);all_goals grind
 exact(List.pairwise_and_iff.2 ⟨e,d⟩).imp (fun {a b} h=>by omega)
theorem zF4{p:PT}:p∈zF5 g↔ ∃(r i:Nat) (d:Ty.El zG) (x:Ty.El z6),(zV g)[r]?=Sa d/\(wH d)[i]?=Sa x/\tpB g r i=Sb/\p=(r,w7 x,((r:Int),(kX (qJ x) (jR x)).1,(kX (qJ x) (jR x)).2.1,vP x)):=by
 unfold zF5 qDl zS6;rw[bV];constructor
 .rintro⟨r,c,a⟩;have c:=aV.1 c;obtain⟨i,k,a⟩:=br.1 a;have e:(zV g)[r]?=Sa (zV g)[r]:=by simp[c]
  have f:((zV g).map wH).getD r []=wH (zV g)[r]:=by simp_all
  unfold qBr at a;rw[f]at a;split at a
  .rename_i x v;split at a
   .rename_i j;exact⟨r,i,_,x,e,v,j,(aX a).symm⟩
   .cases a
  .cases a
 .rintro⟨r,i,d,x,c,v,j,rfl⟩;have h:=(aa.1 c).1;have f:((zV g).map wH).getD r []=wH d:=by simp_all
  refine⟨r,aV.2 h,br.2 ⟨i,?_,?_⟩⟩
  .rw[f];exact aV.2 (aa.1 v).1
  simp_all[qBr]
theorem zXk{num:Int}{r:Nat}:zBl g num r=Sb↔ ∃(i:Nat) (a:Ty.El zG) (x:Ty.El z6),(zV g)[r]?=Sa a/\(wH a)[i]?=Sa x/\tpB g r i=Sb/\w7 x=num:=by
 unfold zBl;rw[bq];constructor
 .rintro⟨p,j,h⟩;rw[am,beq_iff_eq,beq_iff_eq]at h;obtain⟨k,i,a,x,c,d,e,rfl⟩:=zF4.1 j;obtain⟨f,v⟩:=h;simp only at f v;subst v;exact⟨i,a,x,c,d,e,f⟩
 .rintro⟨i,a,x,c,d,e,f⟩;refine⟨_,zF4.2 ⟨r,i,a,x,c,d,e,rfl⟩,?_⟩
  grind
variable {i:List Int}{j:Ty.El zI}
theorem zYH(m:qG j i g):Wp (zPw g (zV g).length) (fun v=>∀r d c,(zV g)[r]?=Sa c->d< (wH c).length->(v.getD r []).getD d Sc=tpB g r d):=by
 unfold zPw;refine(zJW (R:=fun r l=>∀c,(zV g)[r]?=Sa c->∀d,d< (wH c).length->l.getD d Sc=tpB g r d) ?_).mono ?_
 .intro r h;have h:=aV.1 h;have e:(zV g)[r]?=Sa (zV g)[r]:=by simp[h]
  have p:(zV g).getD r default=(zV g)[r]:=by simp_all
  rw[p];refine(zJW (R:=fun d b=>b=tpB g r d) ?_).mono ?_
  .intro d f;have f:=aV.1 f;have k:(wH (zV g)[r])[d]?=Sa (wH (zV g)[r])[d]:=by simp[f]
   rw[k];exact zM (zFW m.s e k _) (by simp)
  .rintro l ⟨q,t⟩ c a d f;rw[e]at a;cases a;rw[b9]at q;have n:d<l.length:=by omega
   have:=t d d l[d] (bj f) (by simp[n]);simp_all
 grind
theorem zPE(e c:Nat->Bool)(f d:Int->Int->Int×Int)(r:Nat)(S:List AR)(xs:List (Ty.El z6))(g:∀a l,f a l=d a l):∀k,(∀i,i<xs.length->e i=c i)->wJ e f r S xs k=wJ c d r S xs k
 |0,_=>rfl
 |k+1,h=>by
  simp only[wJ];rw[zPE e c f d r S xs g k h]
  cases j:xs[k]? with
  |none=>rfl
  |some x=>simp only;rw[h k (aa.1 j).1,g]
theorem zPD(g d:Nat->Nat->Bool)(e c:Int->Int->Int×Int)(f:List (List (Ty.El z6)))(m:∀a l,e a l=c a l):∀k,(∀r i,r<k->i< (f.getD r []).length->g r i=d r i)->qV g e f k=qV d c f k
 |0,_=>rfl
 |k+1,h=>by simp only[qV];rw[zPD g d e c f m k (fun r i n j=>h r i (by omega) j)];exact zPE _ _ e c k _ _ m _ (fun i j=>h k i (by omega) j)
theorem zYM(n:qG j i g):Wp (zPw g (zV g).length) (fun c=>∃S,zSK g (zV g).length c=S/\S.map AR.num=vY g/\zTz (zF5 g) S):=by
 refine(zYH n).mono (fun c h=>⟨_,rfl,?_⟩)
 have:zSK g (zV g).length c=zCr (qV (tpB g) (fun a l=>((kX a l).1,(kX a l).2.1)) ((zV g).map wH) (zV g).length):=by
  unfold zSK;congr 1;refine zPD _ _ _ _ _ qDA _ (fun r d k m=>?_)
  grind
 rw[this];refine⟨rfl,?_⟩;have e:=zOA g;have f:(zCr (qV (tpB g) (fun a l=>((kX a l).1,(kX a l).2.1)) ((zV g).map wH) (zV g).length)).Perm _:=cR _ _;exact⟨(f.map AR.num).nodup_iff.2 e.nd,fun a v=>e.pt a (f.mem_iff.1 v),fun a v=>e.mem a (f.mem_iff.1 v),fun z=>by rw[<-e.num z];grind⟩
def zJn(v:Ty.El zF)(p:Int×Nat):Option (Nat×Ty.El qN):=some (16*(p.2+1)+(zV v).length,zG6 v p.1)
def zU1(v:Ty.El zF):Ty.El qL:=(v,(((zV v).length:Nat):Int),(vY v).zipIdx.map (zJn v),())
theorem zWz(c:qG j i g){S:List AR}(h:zTz (zF5 g) S){a:AR}(d:a∈S):zDv g (zV g).length a=Sa (zG6 g a.num):=by
 refine vB ?_;have k:(zV g).length<=9:=c.s.rs;unfold zDv;refine zB (zM (zJA c a.num) ?_);have m:=zGk c.s a.num;have n:∀r,a.mem r=zBl g a.num r:=by intro r;rw[df,h.mem a d r];simp_all[zBl]
 refine zB ((zJW (R:=fun r l=>a.mem r=Sb->l=zGn (zV g).length (zDm g a.num) r) ?_).mono ?_)
 .intro r e;have e:=aV.1 e;by_cases t:a.mem r=Sb
  .rw[if_pos t];obtain⟨f,v⟩:=zG1 (es:=zDm g a.num) (show(zV g).length<=64 by omega) (by omega) e;refine zB (zM f ?_);rw[if_pos v.1];exact zA (fun _=>rfl)
  simp_all[zA]
 .rintro u ⟨x,A⟩;rw[b9]at x;refine zA ?_;unfold zG6;have f:a.parts.map (fun p=>((p.1,(p.2.1,p.2.2.1,()),p.2.2.2,()):Ty.El zJv))=zCf g a.num:=by rw[h.pt a d];simp_all[zCf]
  have v:b8 a.mem=b8 (zBl g a.num):=by
   grind[b8]
  have y:(fun r q=>if r< (zV g).length/\a.mem r=Sb/\q< (zV g).length then(u.getD r []).getD q 0 else-1)=kD g a.num:=by
   funext r q;unfold kD
   grind
  rw[f,v,y]
theorem qAG{α β:Type}{f:α->Option β}{g:α->β}:∀(xs:List α),(∀x,x∈xs->f x=Sa (g x))->zCn f xs=Sa (xs.map g)
 |[],_=>rfl
 |x::r,h=>by simp only[zCn];rw[h x (by simp),qAG r (fun z a=>h z (aw _ a))];rfl
theorem zPB{v:Ty.El zF}(e:qG j i v)(t:0< (zV v).length):zD8 v=Sa ((zV v).length,zU1 v):=by
 refine vB ?_;have c:=zMi e;have d:(zV v).length<=8:=by have:=c.len;unfold zV;rw[e.net];exact this
 unfold zD8;simp only;rw[if_neg (by omega),if_neg ?_]
 .refine zB ((zYM e).mono ?_);rintro n ⟨S,k,l,m⟩;rw[k];refine zB (zM (qAG (g:=fun a:AR=>zG6 v a.num) S (fun a p=>zWz e m p)) (zA ?_));unfold zU1;rw[<-l,An,An,dD,dD];rfl
 .rw[bq];rintro⟨r,f,h⟩;have q:r∈j.1:=by unfold zV at f;rw[e.net]at f;exact f
  have:=(c.rt r q).ifl
  grind
end
end Go.Ve
namespace Go.Ve
open Go Go.Proofs
noncomputable abbrev zAD(v:Ty.El zF):Option (Nat×Ty.El qL):=some ((zV v).length,zU1 v)
theorem zZh{α:Type}(f:Nat->α){r:Nat}(h:r<8):idx [f 0,f 1,f 2,f 3,f 4,f 5,f 6,f 7] (r:Int)=Sa (f r):=by
 refine zO ?_
 match r,h with
 |0,_=>rfl
 |1,_=>rfl
 |2,_=>rfl
 |3,_=>rfl
 |4,_=>rfl
 |5,_=>rfl
 |6,_=>rfl
 |7,_=>rfl
 |n+8,h=>omega
variable {i:List Int}{g:Ty.El zF}{l:Ty.El zI}
theorem uM(a:qG l i g):(zV g).length<=8:=by have:=(zMi a).len;unfold zV;rw[a.net];exact this
theorem yI(e:qG l i g)(id:Nat)(num:Int)(r q:Nat):
  zW (Sa (id,zG6 g num),(r:Int),(q:Int),())=Sa (kD g num r q):=by
 refine vB ?_;have d:=uM e;unfold zW;have f:∀h:8<=r\/8<=q,kD g num r q= -1:=fun h=>by unfold kD;omega
 by_cases n:8<=r
 .have a:decide ((r:Int)>=(8:Int))=true:=decide_eq_true (by omega);simp_all[zA]
 .have a:decide ((r:Int)>=(8:Int))=false:=decide_eq_false (by omega);simp only[a,cond_false,af];by_cases j:8<=q
  .have c:decide ((q:Int)>=(8:Int))=true:=decide_eq_true (by omega);simp_all[zA]
  .have c:decide ((q:Int)>=(8:Int))=false:=decide_eq_false (by omega);simp only[c,cond_false];refine zB (zM (zZh (fun r=>i8 (kD g num r)) (by omega)) ?_);refine zB (zM (zZh (fun q=>kD g num r q) (by omega)) ?_);exact zA rfl
noncomputable def zI9(v:Ty.El zF)(num:Int):Option (Nat×Ty.El qN):=match(vY v).findIdx? (· ==num)with
 |some j=>zJn v (num,j)
 |none=>none
variable {j:Nat}{a9:Option (Nat×Ty.El qN)}
theorem qAM(a:((vY g).zipIdx.map (zJn g))[j]?=Sa a9):∃z,(vY g)[j]?=Sa z/\a9=zJn g (z,j)/\(vY g).findIdx? (· ==z)=Sa j:=by
 rw[aA,List.getElem?_zipIdx]at a
 cases c:(vY g)[j]? with
 |none=>grind
 |some z=>
  rw[c]at a;refine⟨z,rfl,by grind,?_⟩;obtain⟨d,rfl⟩:=aa.1 c
  grind[List.findIdx?_eq_some_iff_getElem,Ah,zXd]
theorem zEN(a:((vY g).zipIdx.map (zJn g))[j]?=Sa a9):∃z,z∈vY g/\a9=zI9 g z/\a9=Sa (16*(j+1)+(zV g).length,zG6 g z):=by
 obtain⟨z,c,d,e⟩:=qAM a;refine⟨z,ae c,?_,d⟩
 grind[zI9]
theorem zDi(v:Ty.El zF):((vY v).zipIdx.map (zJn v)).length=(vY v).length:=by simp
variable {I:Int}
theorem zKo(h:I∈vY g):∃id,zI9 g I=Sa (id,zG6 g I)/\id%16=(zV g).length%16:=by
 unfold zI9
 cases a:(vY g).findIdx? (· ==I)with
 |none=>
  grind
 |some j=>exact⟨_,rfl,by simp only;omega⟩
theorem zPn(h:I ∉ vY g):zI9 g I=none:=by
 grind[List.findIdx?_eq_some_iff_getElem,List.getElem_mem,zI9,vY,absurd]
variable {C:Ty.El zG}
theorem qC3(c:qG l i g)(h:C∈zV g):C∈l.1:=by unfold zV at h;rw[c.net]at h;exact h
theorem zRG(a:qG l i g):(zF5 g).length<=64:=by
 unfold zF5 qDl
 have c:∀r,(zS6 (tpB g r) r (((zV g).map wH).getD r []) (((zV g).map wH).getD r []).length).length<=8:=by
  intro r;unfold zS6;refine aj (bM _ _) ?_;rw[b9];by_cases h:r< (zV g).length
  .have e:((zV g).map wH).getD r []=wH (zV g)[r]:=by simp_all
   rw[e];have d:(zV g)[r]∈l.1:=qC3 a (aZ _);exact((zMi a).rt _ d).ifl
  grind
 have n:=zGh (f:=fun r=>zS6 (tpB g r) r (((zV g).map wH).getD r []) (((zV g).map wH).getD r []).length) (m:=8) c (zV g).length;have j:=uM a;omega
theorem zKD{α:Type}[DecidableEq α]:∀{l m:List α},l.Nodup->(∀x,x∈l->x∈m)->l.length<=m.length
 |[],_,_,_=>aW _
 |x::r,m,h,a=>by
  have c:=a x (by simp)
  have:=zKD (l:=r) (m:=m.erase x) (List.nodup_cons.1 h).2 (fun y d=>by
   grind)
  grind
theorem zBG(a:qG l i g):(vY g).length<=64:=by
 refine aj (zKD (m:=(zF5 g).map (fun p=>p.2.1)) ((zXd g).imp (fun h=>by omega)) (fun z c=>?_)) (by rw[aK];exact zRG a)
 grind[zTY]
theorem zTJ(p:qG l i g)(num:Int):wY (zAD g,num,())=Sa (zI9 g num):=by
 refine vB ?_;unfold wY;have D:=zBG p;have q:=zDi g;dsimp only;rw[af];refine zA1 (xs:=(vY g).zipIdx.map (zJn g)) (by omega) (fun d=>∀j h,j<d->((vY g).zipIdx.map (zJn g))[j]?=Sa h->∀id z,h=Sa (id,z)->z.1≠num) (fun j h e=>by omega) ?_ ?_
 .intro d h f e;obtain⟨z,F,r,m⟩:=zEN f;refine zB (zM (zO f) ?_);refine zB (zM m ?_);refine zH (fun c=>zA ?_) (fun c=>zA ?_)
  .have c:z=num:=eq_of_beq (show(z==num)=Sb from c);subst c;exact r
  .have v:z≠num:=ne_of_beq_false (show(z==num)=Sc from c);clear c;refine⟨rfl,fun j t u k id x a=>?_⟩;by_cases n:j=d
   .subst n;rw[f]at k;cases k;rw[m]at a;cases a;exact v
   .exact e j t (by omega) k id x a
 .intro e;refine zA (zPn (fun y=>?_)).symm;obtain⟨j,A,B⟩:=aC y
  have C:((vY g).zipIdx.map (zJn g))[j]?=Sa (zJn g (num,j)):=by
   grind
  exact e j _ (by omega) C _ _ rfl rfl
theorem zVk(h:zBl g I j=Sb):j< (zV g).length/\I∈vY g:=by obtain⟨i,c,x,a,d,e,f⟩:=zXk.1 h;exact⟨(aa.1 a).1,zTY.2 ⟨_,zF4.2 ⟨j,i,c,x,a,d,e,rfl⟩,f⟩⟩
theorem qAp(f:qG l i g)(r:Nat)(num:Int):vU (zAD g,(r:Int),num,())=Sa (zBl g num r):=by
 refine vB ?_;have n:=uM f;unfold vU;refine zB (zM (zTJ f num) ?_);have c:zBl g num r≠Sb->zBl g num r=false:=fun h=>by simpa using h
 by_cases e:num∈vY g
 .obtain⟨id,d,_⟩:=zKo e;rw[d];refine zB ?_;simp only[Ak,Bool.not_false,cond_true,af];refine zP (fun a=>?_) (fun a=>?_)
  .have a:(r:Int)< (((zV g).length:Nat):Int):=a;refine zB (zM (zZh (zBl g num) (by omega)) ?_);exact zA (zA rfl)
  .have a:¬(r:Int)< (((zV g).length:Nat):Int):=a;exact zA (zA (c (fun h=>a (by have:=(zVk h).1;omega))).symm)
 .rw[zPn e];refine zB ?_;simp;exact zA (zA (c (fun h=>e (zVk h).2)).symm)
def zOe(v:Ty.El zF)(r:Nat):Bool:=zBl v 0 r&&(vY v).any fun z=>z !=0&&zBl v z r
theorem zJB(c:qG l i g)(r:Nat):jI (zAD g,(r:Int),())=Sa (zOe g r):=by
 refine vB ?_;have A:=uM c;have B:=zBG c;have n:=zDi g;unfold jI zOe;refine zB (zM (qAp c r 0) ?_)
 cases m:zBl g 0 r with
 |false=>exact zA rfl
 |true=>
  have C:=(zVk m).1;simp only[bI,cond_false,bR];rw[af];refine zA1 (xs:=(vY g).zipIdx.map (zJn g)) (by omega) (fun d=>∀j z,j<d->(vY g)[j]?=Sa z->(z !=0&&zBl g z r)=Sc) (fun j z f=>by omega) ?_ ?_
  .intro d h v f;obtain⟨z,E,e,F⟩:=qAM v;have e:h=Sa (16*(d+1)+(zV g).length,zG6 g z):=e;subst e;refine zB (zM (zO v) ?_)
   have k:∀b:Bool,b=(z !=0&&zBl g z r)->Wp (bif b then Sa (Sum.inr (Sum.inr Sb))else Sa (Sum.inl (Ad .i64 ((d:Int)+(1:Int)))):Option (Int ⊕ (Unit ⊕ Bool)))
     (vH (fun p=>p=Ad .i64 ((d:Int)+1)/\∀j z,j<d+1->(vY g)[j]?=Sa z->(z !=0&&zBl g z r)=Sc) (vH (fun _=>False) (fun b=>b=(vY g).any fun z=>z !=0&&zBl g z r))):=by
    intro b G
    cases q:b with
    |true=>
     refine zA ?_;show Sb=_
     grind
    |false=>
     refine zA ⟨rfl,fun j H t u=>?_⟩
     grind
   refine zB ?_;rw[af];refine zH (fun a=>?_) (fun a=>?_)
   .have a:(z !=0)=true:=a;rw[af];refine zB (zM (zZh (zBl g z) (by omega)) (zA ?_));simp_all
   .have a:(z !=0)=false:=a
    grind[zA]
  .intro f;refine zA ?_;rw[eq_comm,List.any_eq_false];intro z x;obtain⟨j,y,rfl⟩:=aC x;simp_all
def qCp(v:Ty.El zF)(r:Nat)(p:Ty.El zD):Bool:=match(zV v)[r]? with
 |some a=>(Ac (wH a).length).any fun i=>match(wH a)[i]? with
  |some x=>jR x !=0&&(zBW (kX (qJ x) (jR x)) p&&upB v (r:Int) (i:Int))
  |none=>Sc
 |none=>Sc
theorem zHc(D:qG l i g)(E:j< (zV g).length)(p:Ty.El zD):qO (zAD g,(j:Int),p,())=Sa (qCp g j p):=by
 refine vB ?_;have A:=D.s;have h:(zV g)[j]?=Sa (zV g)[j]:=by simp[E]
 generalize (zV g)[j]=a at h;have q:(wH a).length<=20:=(A.sm a (ae h)).i1;unfold qO;dsimp only;rw[af];have n:∀(K:Unit->Option Bool) (f:Ty.El zG->Option (Unit ⊕ Bool)),wL (Ae (idx (zU1 g).1.1.1 (j:Int)) f) K=wL (f a) K:=by simp_all[idx,zU1]
 refine(show Wp _ _ from ?_);erw[n]
 have t:qCp g j p=(Ac (wH a).length).any fun d=>match(wH a)[d]? with
  |some x=>jR x !=0&&(zBW (kX (qJ x) (jR x)) p&&upB g (j:Int) (d:Int))
  |none=>false:=by
  simp_all[qCp]
 rw[t];have B:a.2.2.1.length<=20:=q;refine zA1 (xs:=a.2.2.1) (by omega) (fun k=>∀r x,r<k->(wH a)[r]?=Sa x->(jR x !=0&&(zBW (kX (qJ x) (jR x)) p&&upB g (j:Int) (r:Int)))=Sc) (fun r x u=>by omega) ?_ ?_
 .intro d x C u;have m:(wH a)[d]?=Sa x:=C;refine zB (zM (zO C) ?_)
  have c:∀b:Bool,b=(jR x !=0&&(zBW (kX (qJ x) (jR x)) p&&upB g (j:Int) (d:Int)))->Wp (bif b then Sa (Sum.inr (Sum.inr Sb))else Sa (Sum.inl (Ad .i64 ((d:Int)+(1:Int)))):Option (Int ⊕ (Unit ⊕ Bool)))
    (vH (fun F=>F=Ad .i64 ((d:Int)+1)/\∀r x,r<d+1->(wH a)[r]?=Sa x->(jR x !=0&&(zBW (kX (qJ x) (jR x)) p&&upB g (j:Int) (r:Int)))=Sc) (vH (fun _=>False) (fun b=>b=(Ac (wH a).length).any fun d=>match(wH a)[d]? with
     |some x=>jR x !=0&&(zBW (kX (qJ x) (jR x)) p&&upB g (j:Int) (d:Int))
     |none=>Sc))):=by
   intro b n
   cases y:b with
   |true=>
    refine zA ?_;show Sb=_;rw[eq_comm,bq];refine⟨d,aV.2 (aa.1 m).1,?_⟩;rw[m,<-y];exact n.symm
   |false=>
    refine zA ⟨rfl,fun r G H z=>?_⟩;by_cases I:r=d
    .grind
    .exact u r G (by omega) z
  refine zB ?_;refine zH (fun e=>?_) (fun e=>?_)
  .have e:(jR x !=0)=true:=e;refine zB (zM (xI _ _) ?_);refine zH (fun v=>?_) (fun v=>?_)
   .have v:zBW (kX (qJ x) (jR x)) p=true:=v;rw[af];refine zB ((zIl g j d A).mono (fun b n=>zA (c b ?_)));rw[e,v,n];rfl
   .have v:zBW (kX (qJ x) (jR x)) p=false:=v;exact zA (c Sc (by rw[e,v];rfl))
  .have e:(jR x !=0)=false:=e;exact zA (c Sc (by rw[e];rfl))
 .intro u;refine zA ?_;simp_all
theorem zCi(e:(zV g)[j]?=Sa C)(d:Int)(c:Ty.El zL):
  qE (zAD g,(j:Int),d,c,())=Sa (c.1,(3:Int),d,qDH C,c.2.1,(0:Int),(0:Int),(0:Int),[],(0:Int),(0:Int),[],Sc,()):=by
 refine vB ?_;unfold qE;dsimp only;rw[af];exact zB (zM (show idx (zU1 g).1.1.1 (j:Int)=Sa C from zO e) (zA rfl))
theorem zOy(l:List (Ty.El zL))(p:Ty.El zD)(a:l.length<0x4000000000000000):vE (l,p,())=Sa (zHi (fun x:Ty.El zL=>zBW x.1 p) l):=by
 refine vB ?_;unfold vE;refine zB ?_;unfold vM;refine zFm a ?_ (zA rfl);intro i x c;rw[zO c,af];show Ae (u4 (x,p,())) _=_;have:u4 (x,p,())=Sa (zBW x.1 p):=rfl
 grind
def zOl(l:List (Ty.El zL)):Prop:=(l.map (fun x=>x.1)).Nodup
variable {P:List (Ty.El zL)}
theorem qAD(h:zOl P){i j:Nat}{x y:Ty.El zL}(a:P[i]?=Sa x)(c:P[j]?=Sa y)(d:x.1=y.1):i=j:=by obtain⟨e,rfl⟩:=aa.1 a;obtain⟨f,rfl⟩:=aa.1 c;exact zTZ h (i:=i) (j:=j) (by simpa using e) (by simpa using f) (by simpa using d)
structure qA1(l l':List (Ty.El zL))(p:Ty.El zD)(c:Int):Prop where
 once:zOl l'
 len:l'.length<=l.length+1
 at_:∀x,x∈l'↔(x∈l/\x.1≠p)\/(x.1=p/\x.2.1=c)
variable {a1:Ty.El zD}
theorem qAz(h:zOl P)(e:∀x,x∈P->zBW x.1 a1=Sc)(c:Int):qA1 P (P++[(a1,c,())]) a1 c:=by
 have d:∀x,x∈P->x.1≠a1:=fun x f g=>by
  grind[uT]
 refine⟨?_,by simp,fun x=>?_⟩
 .unfold zOl;rw[bw,Al];refine⟨h,by simp,fun a i b j=>?_⟩
  grind
 grind
theorem qAy(h:zOl P){i:Nat}{y:Ty.El zL}(g:P[i]?=Sa y)(n:zBW y.1 a1=Sb)(c:Int):qA1 P (P.set i (y.1,c,())) a1 c:=by
 have d:y.1=a1:=uT.1 n;obtain⟨r,rfl⟩:=aa.1 g
 have k:(P.set i (P[i].1,c,())).map (fun x=>x.1)=P.map (fun x=>x.1):=by
  grind[List.map_set,Ai]
 refine⟨by grind[zOl],by simp,fun x=>?_⟩;constructor
 .intro e;obtain⟨j,f,rfl⟩:=aC e;rw[cb]at f;rw[cB];by_cases a:i=j
  .grind
  .rw[if_neg a];refine .inl ⟨aZ _,fun m=>a ?_⟩;exact qAD h g (ah f) (d.trans m.symm)
 .rintro(⟨e,q⟩|⟨t,u⟩)
  .obtain⟨j,f,rfl⟩:=aC e;have a:i≠j:=fun m=>by grind
   refine ae (i:=j) ?_
   grind
  grind[List.mem_of_getElem?,List.getElem?_set_self]
theorem zLp(l:List (Ty.El zL))(p:Ty.El zD)(c:Int)(h:zOl l)(t:l.length<=1073741824):
  Wp (jC l ((p,c,()),())) (fun k=>∃m,qA1 l k p m/\m<=c/\(m=c\/((p,m,()):Ty.El zL)∈l)/\∀e,((p,e,()):Ty.El zL)∈l->m<=e):=by
 unfold jC;refine zB (zM (zOy l p (by omega)) ?_);rcases zGi (fun x:Ty.El zL=>zBW x.1 p) l with⟨d,a⟩|⟨i,y,d,a,j,u⟩
 .rw[d];simp;refine zAb (by grind) ⟨c,qAz h a c,cX _,.inl rfl,fun e f=>?_⟩;have:=a _ f;rw[uT.2 rfl]at this;cases this
 .rw[d];have n:decide (((i:Nat):Int)< (0:Int))=false:=decide_eq_false (by omega);simp only[n,cond_false];refine zB (zM (zO a) ?_);rw[aB];have q:y.1=p:=uT.1 j
  have g:∀e,((p,e,()):Ty.El zL)∈l->e=y.2.1:=fun e f=>by
   grind[List.getElem?_of_mem,qAD]
  have r:((p,y.2.1,()):Ty.El zL)∈l:=by
   grind
  refine zA ⟨_,qAy h a j _,?_,?_,fun e f=>?_⟩;all_goals grind
structure zIS(C:Ty.El zD->Int->Prop)(l:List (Ty.El zL)):Prop where
 once:zOl l
 is:∀x,x∈l->C x.1 x.2.1
 le:∀p c,C p c->∃m,((p,m,()):Ty.El zL)∈l/\m<=c
theorem zZc:zIS (fun _ _=>False) []:=⟨Aj,(fun x h=>by cases h),(fun _ _ h=>False.elim h)⟩
variable {a4:Ty.El zD->Int->Prop}
theorem zIS.iff{D:Ty.El zD->Int->Prop}(h:zIS a4 P)(a:∀p c,a4 p c↔D p c):zIS D P:=⟨h.once,fun x hx=>(a _ _).1 (h.is x hx),fun p c hd=>h.le p c ((a p c).2 hd)⟩
theorem zIS.add(h:zIS a4 P)(p:Ty.El zD)(c:Int)(k:P.length<=1073741824):
  Wp (jC P ((p,c,()),())) (fun g=>zIS (fun q e=>a4 q e\/(q=p/\e=c)) g/\g.length<=P.length+1):=by
 refine(zLp P p c h.once k).mono ?_;rintro g ⟨m,a,n,i,r⟩;refine⟨⟨a.once,fun x hx=>?_,?_⟩,a.len⟩
 .rcases(a.at_ x).1 hx with⟨d,_⟩|⟨d,j⟩
  .exact .inl (h.is x d)
  .rcases i with rfl|i
   .grind
   .left;have:=h.is _ i
    grind
 .rintro q e (hq|⟨rfl,rfl⟩)
  .obtain⟨t,d,j⟩:=h.le q e hq;by_cases f:q=p
   .subst f;exact⟨m,(a.at_ _).2 (.inr ⟨rfl,rfl⟩),cg (r _ d) j⟩
   .exact⟨t,(a.at_ _).2 (.inl ⟨d,f⟩),j⟩
  .exact⟨m,(a.at_ _).2 (.inr ⟨rfl,rfl⟩),n⟩
def qEM(v:Ty.El zF)(num:Int)(r:Nat)(p:Ty.El zD)(c:Int):Prop:=
 ∃(q i:Nat) (a:Ty.El zG) (x:Ty.El z6),(zV v)[q]?=Sa a/\(wH a)[i]?=Sa x/\tpB v q i=Sb/\w7 x=num/\kX (qJ x) (jR x)=p/\0<=kD v num r q/\c=kD v num r q+vP x
theorem zEe(a:qG l i g)(num:Int)(r q:Nat): -1<=kD g num r q/\kD g num r q<=117440505:=by
 have e:=uM a;unfold kD;split
 .rename_i h;have c:=zGk a.s num;have:=((zG1 (es:=zDm g num) (show(zV g).length<=64 by omega) (by omega) h.1).2).bnd h.1 h.2.2;omega
 .omega
theorem zEM{z:Ty.El zJv}:z∈zCf g I↔ ∃(q i:Nat) (a:Ty.El zG) (x:Ty.El z6),(zV g)[q]?=Sa a/\(wH a)[i]?=Sa x/\tpB g q i=Sb/\w7 x=I/\z=((q:Int),kX (qJ x) (jR x),vP x,()):=by
 unfold zCf;rw[aO];constructor
 .rintro⟨p,f,rfl⟩;obtain⟨v,h⟩:=aU.1 f;obtain⟨q,i,a,x,c,d,e,rfl⟩:=zF4.1 v;exact⟨q,i,a,x,c,d,e,by simpa using h,rfl⟩
 .rintro⟨q,i,a,x,c,d,e,j,rfl⟩;exact⟨_,aU.2 ⟨zF4.2 ⟨q,i,a,x,c,d,e,rfl⟩,by simpa using j⟩,rfl⟩
theorem zP3(a:qG l i g)(num:Int):(zCf g num).length<=64:=by
 grind[Ao,Nat.le_trans,List.length_filter_le,zRG,zCf]
theorem yH{α:Type}{xs:List α}{x:α}(h:xs[j]?=Sa x){y:α}:y∈xs.take (j+1)↔y∈xs.take j\/y=x:=by rw[bS,h,cm,a7,aM]
theorem zIm(G:qG l i g)(a:Option (Nat×Ty.El qL))(id:Nat)(num:Int)(r:Nat):
  Wp (jA (a,Sa (id,zG6 g num),(r:Int),())) (fun n=>zIS (qEM g num r) n/\n.length<=64):=by
 unfold jA;have N:=zP3 G num;refine zB ?_;rw[af];refine kZ (xs:=zCf g num) (by omega) (fun k (v:List (Ty.El zL))=>zIS (fun p c=>∃z,z∈(zCf g num).take k/\z.2.1=p/\0<=kD g num r z.1.toNat/\c=kD g num r z.1.toNat+z.2.2.1) v/\v.length<=k) ?_ ?_ ?_
 .exact⟨zZc.iff (fun p c=>by simp),ai _⟩
 .rintro d z v m ⟨C,J⟩;have P:=(aa.1 m).1;obtain⟨q,j,H,x,A,B,D,I,E⟩:=zEM.1 (ae m);refine zB (zM (zO m) ?_);have F:z.1=(q:Int):=by rw[E]
  have M:zW (Sa (id,zG6 g num),(r:Int),z.1,())=Sa (kD g num r q):=by rw[F];exact yI G id num r q
  refine zB (zM M ?_);have Q:=zEe G num r q;have S:=qDM G A B (zTG A B D).2.1;have u:z.2.2.1=vP x:=by rw[E]
  refine zP (fun K=>?_) (fun K=>?_)
  .refine zB ((C.add z.2.1 _ (by omega)).mono (fun W L=>zA ?_));refine⟨L.1.iff (fun p c=>?_),by omega⟩;rw[u,zJ (by omega) (by omega)];constructor
   .rintro(⟨y,e,f⟩|⟨rfl,rfl⟩)
    .exact⟨y,(yH m).2 (.inl e),f⟩
    .refine⟨z,(yH m).2 (.inr rfl),rfl,?_,?_⟩
     .rw[F];exact K
     .rw[F,u];rfl
   .rintro⟨y,e,f,h,t⟩;rcases(yH m).1 e with e|rfl
    .exact .inl ⟨y,e,f,h,t⟩
    .refine .inr ⟨f.symm,?_⟩;rw[t,F,u];rfl
  .refine zA ⟨C.iff (fun p c=>?_),(show v.length<=d+1 by omega)⟩;constructor
   .rintro⟨y,e,f⟩;exact⟨y,(yH m).2 (.inl e),f⟩
   .rintro⟨y,e,f,h,t⟩;rcases(yH m).1 e with e|rfl
    .exact⟨y,e,f,h,t⟩
    .rw[F]at h;exact absurd h K
 .rintro v ⟨C,J⟩;rw[bU]at C;refine zA ⟨C.iff (fun p c=>?_),by omega⟩;constructor
  .rintro⟨z,e,f,h,t⟩;obtain⟨q,j,H,x,A,B,D,I,rfl⟩:=zEM.1 e;exact⟨q,j,H,x,A,B,D,I,f,h,t⟩
  .rintro⟨q,j,H,x,A,B,D,I,f,h,t⟩;exact⟨_,zEM.2 ⟨q,j,H,x,A,B,D,I,rfl⟩,f,h,t⟩
def qHt(v:Ty.El zF)(r:Nat)(h:Ty.El zQ):Prop:=
 ∃a i c x q j d y,zV3 v a r i c x q j d y/\h=((i:Int),qJ y,())
structure zGw(v:Ty.El zF)(r:Nat)(l:List (Ty.El zQ)):Prop where
 so:l.Pairwise hlt
 ok:∀h,h∈l->qHt v r h
variable {J:Nat}
theorem zTp(f:qG l i g){m:Int}{d:Nat}{h:Ty.El zQ}(v:zKt j (zDm g I) J d h):qHt g J h:=by
 obtain⟨_,e,n,_,a,_,_,rfl⟩:=v;obtain⟨c,p,t,x,q,num,u,y,z,rfl⟩:=(zRU f).1 n;have:c=J:=by have a:((c:Nat):Int)=(J:Int):=a;omega
 subst this;exact⟨I,p,t,x,q,num,u,y,z,rfl⟩
def zKI(v:Ty.El zF)(r:Nat):List (Ty.El zQ):=(Ac 20).flatMap fun i=>(zTl v r i).filterMap fun e=>(qHr v e).map fun a=>((i:Int),a,())
variable {a0:List (Ty.El zQ)}
theorem qBM(h:a0.Pairwise hlt):a0.Nodup:=h.imp (fun {a b} c e=>by subst e;exact zGX.asym _ _ c c)
theorem zEa(c:qG l i g)(h:zGw g j a0):a0.length<=7200:=by
 have d:(zKI g j).length<=20*360:=by unfold zKI;refine zGh (m:=360) (fun n=>?_) 20;exact aj (bM _ _) (zNC c.s _ _ _)
 refine aj (zKD (m:=zKI g j) (qBM h.so) (fun x k=>?_)) d;obtain⟨p,n,e,u,q,v,f,y,a,rfl⟩:=h.ok x k;unfold zKI;have z:=(aa.1 a.hx).1;have t:(wH e).length<=20:=(c.s.sm e (ae a.hr)).i1;refine bV.2 ⟨n,aV.2 (by omega),br.2 ⟨_,a.nb,?_⟩⟩;unfold qHr;simp only[aB];rw[show g.1.1[q]?=Sa f from a.hq];simp only;rw[show f.2.2.1[v]?=Sa y from a.hy];rfl
structure zV0(v:Ty.El zF)(num:Int)(r q:Nat)(l:List (Ty.El zQ)):Prop where
 so:l.Pairwise hlt
 mem:∀h,h∈l↔zKt (zV v).length (zDm v num) r q h
theorem zV0.ok(a:qG l i g)(h:zV0 g I j J a0):zGw g j a0:=
 ⟨h.so,fun x hx=>zTp (m:=0) a ((h.mem x).1 hx)⟩
theorem zGO(e:qG l i g)(f:I∈vY g)(v:j< (zV g).length)(p:J< (zV g).length):
  Wp (qC (zAD g,zI9 g I,(j:Int),(J:Int),())) (zV0 g I j J):=by
 have t:=uM e;have h:=zGk e.s I;obtain⟨id,d,u⟩:=zKo f;unfold qC;rw[d];simp only[af];have num:(decide ((zU1 g).2.1=((id%16:Nat):Int))&&(decide ((0:Int)<=(j:Int))&&decide ((j:Int)< (8:Int))))=true:=by simp only[am,decide_eq_true_eq];refine⟨?_,by omega,by omega⟩;show(((zV g).length:Nat):Int)=_;omega
 rw[num,cond_true];refine zB ((zSX (zV g).length (zDm g I) j (by omega) (by omega) v).mono ?_);rintro c ⟨x,k⟩;have hlt:decide ((J:Int)>=((Ab c:Nat):Int))=false:=decide_eq_false (by omega);rw[hlt,cond_false];have a:c[J]?=Sa (c[J]'(by omega)):=by simp
 refine zM (zO a) ?_;obtain⟨n,_,m⟩:=k J _ a;exact⟨n,m⟩
theorem zKx(e:qG l i g)(h:zV0 g I j J a0)(a:J≠j)(c:0<=kD g I j J):a0≠[]:=by
 have v:=uM e;have d:=zGk e.s I;unfold kD at c;split at c
 .rename_i f;obtain⟨x,n⟩:=qBW (by omega) (by omega) f.1 f.2.2 a c;intro k;have:=(h.mem x).2 n
  grind
 .omega
theorem zLX(a b:List (Ty.El zQ))(g:a.length<=1048576)(h:b.length<=1048576):Wp (xE (a,b,())) (fun l=>zV2 l (a++b)):=by
 unfold xE;have i:(a++b)=([a,b]:List (List (Ty.El zQ))).flatten:=by simp
 have d:(a++b).length=a.length+b.length:=aN;refine zB (zM (x:=a++b) ?_ ?_)
 .unfold zC1
  grind
 .have c:(Nat.beq (Ab (a++b)) (Ab (a++b))&&Nat.beq (Ab (a++b)) (Ab (a++b)))=true:=by simp
  rw[c,cond_true];obtain⟨l,e,f⟩:=zQR (a++b) (by omega);refine⟨l,?_,f⟩;rw[<-e];show Ae (jG (a++b) ((),())) _=_
  grind
theorem zWg{b l:List (Ty.El zQ)}(h:zV2 l (a0++b))(d:zGw g j a0)(e:zGw g j b):zGw g j l:=
 ⟨h.1,fun x c=>by
  rcases a7.1 ((h.2.2 x).1 c)with c|c
  .exact d.ok x c
  .exact e.ok x c⟩
structure zMQ(G:Ty.El zD->Int->Prop)(l:List (Ty.El zL)):Prop where
 once:zOl l
 all:∀x,x∈l->G x.1 x.2.1
theorem zYi:zMQ a4 []:=⟨Aj,(fun x h=>by cases h)⟩
theorem zMQ.put{a:List (Ty.El zL)}(h:zMQ a4 P)(hp:qA1 P a a1 I)(e:a4 a1 I):zMQ a4 a:=
 ⟨hp.once,fun x hx=>by
  rcases(hp.at_ x).1 hx with⟨d,_⟩|⟨d,f⟩
  .exact h.all x d
  grind⟩
theorem zMQ.add(h:zMQ a4 P){p:Ty.El zD}{c:Int}(f:a4 p c)(g:P.length<=1073741824):
  Wp (jC P ((p,c,()),())) (fun a=>zMQ a4 a/\a.length<=P.length+1):=by
 refine(zLp P p c h.once g).mono ?_;rintro a ⟨m,e,i,d,j⟩;refine⟨h.put e ?_,e.len⟩;rcases d with rfl|d
 .exact f
 .exact h.all _ d
def zVL(p q:Ty.El zD):Bool:=decide (p.2.1<=q.2.1)&&zI7 p q.1
def zLu(a:Ty.El zG)(num:Int)(p:Ty.El zD):Option (Ty.El vK):=(zAP a).find? fun x=>x.1==num&&zVL x.2.1 p
theorem zU7(c:qG l i g)(e:(zV g)[j]?=Sa C):(zAP C).length<=20:=(c.s.sm C (ae e)).i7
theorem zS0{n:Ty.El zI}(t:qG n i g)(id:Nat)(num:Int){b:Nat}(q:(zV g)[b]?=Sa C)(p:Ty.El zD):
  wG (zAD g,Sa (id,zG6 g num),(b:Int),p,())=Sa (match zLu C num p with
   |some x=>(x.2.1,Sb,())
   |none=>(((0:Int),(0:Int),()),Sc,())):=by
 refine vB ?_;have A:=zU7 t q;unfold wG;simp only[af];have l:idx (zU1 g).1.1.1 (b:Int)=Sa C:=zO q;refine wU ?_;refine zB (zM l ?_);refine zCS (n:=(zAP C).length) (c:=fun _=>(((zAP C).length:Nat):Int)) (by omega) (fun d (_:Ty.El zD)=>∀x,x∈(zAP C).take d->(x.1==num&&zVL x.2.1 p)=Sc) (by simp) (fun _ _ _=>rfl) ?_ ?_
 .intro d v u j;have f:(zAP C)[d]?=Sa (zAP C)[d]:=by simp[u]
  generalize (zAP C)[d]=x at f;refine zB (zM (zO f) ?_)
  have e:∀c:Bool,c=(x.1==num&&zVL x.2.1 p)->Wp (bif c then Sa (Sum.inr (Sum.inr (x.2.1,Sb,())))else Sa (Sum.inl (Ad .i64 ((d:Int)+(1:Int)),v)):Option ((Int×Ty.El zD) ⊕ (Ty.El zD ⊕ (Ty.El zD×Bool×Unit))))
    (vH (fun o=>o.1=Ad .i64 ((d:Int)+(1:Int))/\∀x,x∈(zAP C).take (d+1)->(x.1==num&&zVL x.2.1 p)=Sc) (vH (fun s=>Wp (Sa (((0:Int),(0:Int),()),Sc,())) (fun r=>r=match zLu C num p with
     |some x=>(x.2.1,Sb,())
     |none=>(((0:Int),(0:Int),()),Sc,()))) (fun r=>r=match zLu C num p with
     |some x=>(x.2.1,Sb,())
     |none=>(((0:Int),(0:Int),()),Sc,())))):=by
   intro c z
   cases m:c with
   |true=>
    refine zA ?_;have:zLu C num p=Sa x:=by unfold zLu;rw[List.find?_eq_some_iff_append];refine⟨by rw[<-z,m],(zAP C).take d,(zAP C).drop (d+1),?_,fun y k=>by rw[j y k];rfl⟩;obtain⟨_,rfl⟩:=aa.1 f;simp_all
    show(x.2.1,Sb,())=_;rw[this]
   |false=>
    refine zA ⟨rfl,fun y k=>?_⟩;rcases(yH f).1 k with k|rfl
    .exact j y k
    grind
  refine zB ?_;refine zH (fun h=>?_) (fun h=>?_)
  .have h:(x.1==num)=true:=h;refine zB (zM (zD1 _ _) (zA (e _ ?_)));rw[h];rfl
  .have h:(x.1==num)=false:=h;exact zA (e _ (by rw[h];rfl))
 .intro v j;rw[bU]at j;refine zA (e2r (zA ?_));have:zLu C num p=none:=by unfold zLu;rw[List.find?_eq_none];intro x f;rw[j x f];simp
  rw[this]
def qF4(v:Ty.El zF)(num:Int)(b:Nat)(a:Ty.El zG)(p:Ty.El zD)(c:Int):Prop:=
 ∃q,qEM v num b q c/\((zLu a num q=none/\p=q)\/∃x,zLu a num q=Sa x/\p=x.2.1)
theorem zUS(B:qG l i g)(id:Nat)(num:Int){b:Nat}(D:(zV g)[b]?=Sa C):
  Wp (wO (zAD g,Sa (id,zG6 g num),(b:Int),())) (fun n=>zMQ (qF4 g num b C) n/\n.length<=64):=by
 unfold wO;refine zB (zB ((zIm B (zAD g) id num b).mono ?_));rintro E ⟨F,G⟩;refine kZ (xs:=E) (by omega) (fun k (v:List (Ty.El zL))=>zMQ (qF4 g num b C) v/\v.length<=k) ⟨zYi,ai _⟩ ?_ (fun v a=>zA ⟨a.1,by omega⟩);rintro d x v r ⟨a,H⟩;have M:=(aa.1 r).1;have h:=F.is x (ae r);refine zB (zM (zO r) ?_);refine zB (zM (zS0 B id num D x.1) ?_)
 cases j:zLu C num x.1 with
 |none=>
  simp only[Bool.not_false,cond_true];obtain⟨p,c,⟨⟩⟩:=x;refine zB ((a.add (p:=p) (c:=c) ⟨p,h,.inl ⟨j,rfl⟩⟩ (by omega)).mono (fun N t=>zA ⟨t.1,by omega⟩))
 |some m=>
  have u:qF4 g num b C m.2.1 x.2.1:=⟨x.1,h,.inr ⟨m,j,rfl⟩⟩
  simp only[bI,cond_false];refine zB (zM (zOy v m.2.1 (by omega)) ?_);rcases zGi (fun x:Ty.El zL=>zBW x.1 m.2.1) v with⟨z,e⟩|⟨k,y,z,e,f,O⟩
  .rw[z];simp only[show decide ((-1:Int)>=0)=Sc by decide,cond_false];have A:=qAz a.once e x.2.1;refine zB (zAb (by grind) (zA ⟨a.put A u,by grind⟩))
  .have I:y.1=m.2.1:=uT.1 f;have J:=a.all y (ae e);have P:=(aa.1 e).1;rw[z];have K:decide (((k:Nat):Int)>=(0:Int))=true:=decide_eq_true (by omega);simp only[K,cond_true,aB];have q:atN v k=Sa y:=by grind[atN]
   refine zB (zM (zO e) (zB (zM q (zB (zM (zO e) (zB (zM q (zA ?_))))))));have A:=qAy a.once e f (if x.2.1>y.2.1 then x.2.1 else y.2.1);refine⟨a.put A ?_,by grind⟩;split;all_goals grind
def psL(v:Ty.El zF):List (Ty.El zD):=(zV v).flatMap fun a=>(wH a).map (fun x=>kX (qJ x) (jR x))++(zAP a).map (fun x=>x.2.1)
theorem zUf{α β:Type}{f:α->List β}{m:Nat}:∀(l:List α),(∀x,x∈l->(f x).length<=m)->(l.flatMap f).length<=l.length*m
 |[],_=>by simp
 |x::r,h=>by have c:=h x (by simp);have d:=zUf r (fun y a=>h y (aw _ a));rw[List.flatMap_cons,aN,aH,bE];omega
theorem qFp(e:qG l i g):(psL g).length<=224:=by
 have d:=uM e
 have:=zUf (f:=fun a=>(wH a).map (fun x=>kX (qJ x) (jR x))++(zAP a).map (fun x=>x.2.1)) (m:=28) (zV g) (fun a c=>by
  have h:=((zMi e).rt a (qC3 e c)).ifl;have n:(zAP a).length<=20:=(e.s.sm a c).i7
  grind)
 have j:(zV g).length*28<=8*28:=aq _ d;unfold psL;omega
variable {a6:Ty.El z6}
theorem qFo(c:(zV g)[j]?=Sa C)(d:(wH C)[J]?=Sa a6):kX (qJ a6) (jR a6)∈psL g:=
 bV.2 ⟨C,ae c,cO _ (aO.2 ⟨a6,ae d,rfl⟩)⟩
theorem qFn{x:Ty.El vK}(c:(zV g)[j]?=Sa C)(d:x∈zAP C):x.2.1∈psL g:=
 bV.2 ⟨C,ae c,dB _ (aO.2 ⟨x,d,rfl⟩)⟩
def Con(v:Ty.El zF)(r q:Nat):Prop:= ∀c:Nat->Int,(∀a b,(∃d i e x j f y,zV3 v d a i e x b j f y)->c a=c b)->c r=c q
theorem Con.refl(v:Ty.El zF)(r:Nat):Con v r r:=fun _ _=>rfl
theorem Con.trans{v:Ty.El zF}{r q s:Nat}(h:Con v r q)(k:Con v q s):Con v r s:=fun c a=>(h c a).trans (k c a)
theorem qA8{E:List Arc}{c:Nat->Int}(f:∀e,e∈E->c e.a=c e.b){l:List Nat}(h:yK E j l J):∀t d,l=t::d->c j=c t:=by
 induction h with
 |nil=>intro t d h;cases h;rfl
 |snoc e m g i s=>intro t d h;cases h;exact(s _ _ rfl).trans (i▸f e g)
theorem zKi{n:Ty.El zI}(f:qG n i g)(h:0<=kD g I j J):Con g j J:=by
 have E:=uM f;have t:=zGk f.s I;intro c u;unfold kD at h;split at h
 .rename_i m;obtain⟨_,z⟩:=(zG1 (n:=(zV g).length) (es:=zDm g I) (by omega) (by omega) m.1).2;rcases z J m.2.2 with⟨p,_⟩|⟨k,_,⟨l,p⟩,_⟩
  .omega
  .refine qA8 (fun e A=>?_) p J l rfl;obtain⟨G,v,rfl⟩:=aO.1 A;obtain⟨a,d,B,x,b,num,C,y,D,rfl⟩:=(zRU f).1 (aU.1 v).1;exact u a b ⟨I,d,B,x,num,C,y,D⟩
 .omega
def psC(v:Ty.El zF)(r:Nat)(p:Ty.El zD):Prop:= ∃q a,(zV v)[q]?=Sa a/\Con v r q/\
 ((∃(i:Nat) (x:Ty.El z6),(wH a)[i]?=Sa x/\upB v (q:Int) (i:Int)=Sb/\p=kX (qJ x) (jR x))\/∃g,g∈zAP a/\p=g.2.1)
theorem psC.psL{v:Ty.El zF}{r:Nat}{p:Ty.El zD}(h:psC v r p):p∈psL v:=by
 obtain⟨q,d,c,_,⟨i,x,a,_,rfl⟩|⟨g,a,rfl⟩⟩:=h
 .exact qFo c a
 .exact qFn c a
theorem psC.of(h:psC g J a1)(k:Con g j J):psC g j a1:=by obtain⟨a,b,c,e,f⟩:=h;exact⟨a,b,c,k.trans e,f⟩
theorem psC.rng{v:Ty.El vK}(c:(zV g)[j]?=Sa C)(d:v∈zAP C):psC g j v.2.1:=⟨j,C,c,.refl g j,.inr ⟨v,d,rfl⟩⟩
def PC(v:Ty.El zF)(r:Nat)(hi:Int)(p:Ty.El zD)(c:Int):Prop:=psC v r p/\1<=c/\c<=hi
theorem zPp(e:qG l i g)(h:zMQ (PC g j I) P):P.length<=224:=by
 have:=zKD (m:=psL g) h.once (fun p a=>by
  obtain⟨x,c,rfl⟩:=aO.1 a
  exact(h.all x c).1.psL)
 grind[Ao,Nat.le_trans,qFp]
variable {a2:Int}
theorem zXU(f:qG l i g)(h:qEM g I j a1 a2):PC g j 117506040 a1 a2:=by obtain⟨q,d,num,x,a,e,v,n,rfl,k,rfl⟩:=h;have m:=zEe f I j q;have t:=qDM f a e (zTG a e v).2.1;exact⟨⟨q,num,a,zKi f k,.inl ⟨d,x,e,(zTG a e v).2.2,rfl⟩⟩,by omega,by omega⟩
theorem qE0(d:qG l i g)(n:(zV g)[j]?=Sa C)(h:qF4 g I j C a1 a2):PC g j 117506040 a1 a2:=by
 obtain⟨q,v,a⟩:=h;have f:=zXU d v;rcases a with⟨_,rfl⟩|⟨x,a,rfl⟩
 .exact f
 .exact⟨psC.rng n (List.mem_of_find?_eq_some a),f.2⟩
abbrev zYR(y:Ty.El zC):List (Ty.El zQ):=y.2.2.2.2.2.2.2.2.2.2.2.1
abbrev qC4(y:Ty.El zC):Bool:=y.2.2.2.2.2.2.2.2.2.2.2.2.1
abbrev zTL(y:Ty.El zC):Int:=y.2.2.2.2.1
structure zEQ(v:Ty.El zF)(r:Nat)(ro:Ty.El zG)(hi:Int)(y:Ty.El zC):Prop where
 proto:y.2.1=(3:Int)
 adm:y.2.2.2.1=qDH ro
 inner:y.2.2.2.2.2.1=(0:Int)
 tag:y.2.2.2.2.2.2.1=(0:Int)
 pref:y.2.2.2.2.2.2.2.1=(0:Int)
 path:y.2.2.2.2.2.2.2.2.1=[]
 frm:y.2.2.2.2.2.2.2.2.2.1=(0:Int)
 nxt:y.2.2.2.2.2.2.2.2.2.2.1=(0:Int)
 on:qBB ro=Sb
 pre:psC v r y.1
 att:qCp v r y.1=Sc
 hops:zGw v r (zYR y)
 kind:(qC4 y=Sb/\y.2.2.1=(1:Int)/\zTL y=0/\zYR y=[])\/(qC4 y=Sc/\(y.2.2.1=(1:Int)\/y.2.2.1=(2:Int))/\1<=zTL y/\zTL y<=hi/\zYR y≠[])
variable {a3:Ty.El zC}
theorem zEQ.mono(h:zEQ g j C I a3)(d:I<=a2):zEQ g j C a2 a3:=
 { h with kind:=h.kind.imp id (fun k=>⟨k.1,k.2.1,k.2.2.1,cg k.2.2.2.1 d,k.2.2.2.2⟩) }
theorem zY9(c:(zV g)[j]?=Sa C)(h:zBl g I j=Sb):qBB C=true:=by obtain⟨i,e,x,d,f,v,_⟩:=zXk.1 h;rw[c]at d;cases d;exact(zTG c f v).1
theorem qEn(h:0<=kD g I j J):j< (zV g).length/\zBl g I j=Sb/\J< (zV g).length:=by
 grind[kD]
theorem qGo(f:qG l i g)(k:(zV g)[j]?=Sa C)(n:(wH C)[J]?=Sa a6)(h:upB g (j:Int) (J:Int)=Sb):jR a6≠0/\qJ a6≠0:=by
 obtain⟨t,⟨_,_,d,p,q,u,m,_⟩,_⟩:=zZI f h;have c:l.1[j]?=Sa d:=by simpa using q
 have v:l.1[j]?=Sa C:=by rw[<-f.net];exact k
 rw[v]at c;cases c;have e:(wH C)[J]?=Sa p:=by simp_all
 rw[n]at e;cases e;exact⟨m,(((zMi f).rt C (qC3 f (ae k))).ifs J a6 n).addr m⟩
theorem qFZ(f:qG l i g)(e:(zV g)[j]?=Sa C)(a:(wH C)[J]?=Sa a6)(h:upB g (j:Int) (J:Int)=Sb):qCp g j (kX (qJ a6) (jR a6))=true:=by unfold qCp;rw[e];simp only;rw[bq];refine⟨J,aV.2 (aa.1 a).1,?_⟩;rw[a];simp only;rw[h,uT.2 rfl];simpa using (qGo f e a h).1
theorem zYJ(A:qG l i g)(hr:(zV g)[j]?=Sa C):
  Wp (vO (zAD g,(j:Int),())) (fun n=>(∀y,y∈n->zEQ g j C 117506040 y)/\n.length<=4096):=by
 have Q:=(aa.1 hr).1;have ay:=zBG A;have a0:=zDi g;unfold vO;refine zB ?_;simp only[af];refine kZ (xs:=(vY g).zipIdx.map (zJn g)) (by omega) (fun k (v:List (Ty.El zC))=>(∀y,y∈v->zEQ g j C 117506040 y)/\v.length<=64*k) ⟨(fun y h=>by cases h),by simp⟩ ?_ (fun v hg=>zA ⟨hg.1,by omega⟩);rintro a h v p ⟨hg,a1⟩;have a2:=(aa.1 p).1;obtain⟨e,S,hH,W⟩:=zEN p;refine zB (zM (zO p) ?_);rw[W];refine zB ((zIm A (zAD g) _ e j).mono ?_);rintro cs ⟨hc,a3⟩;refine kZ (xs:=cs) (by omega) (fun k (O:List (Ty.El zC))=>(∀y,y∈O->zEQ g j C 117506040 y)/\O.length<=64*a+k) ⟨hg,by omega⟩ ?_ (fun O D=>⟨D.1,by omega⟩);rintro r c O I ⟨D,ax⟩;have a4:=(aa.1 I).1;have J:=hc.is c (ae I);have K:=zXU A J;refine zB (zM (zO I) ?_);refine zB (zM (zHc A Q c.1) ?_);refine zH (fun E=>zA ⟨D,(show O.length<=64*a+(r+1) by omega)⟩) (fun E=>?_);refine zB (zM (zCi hr 1 c) ?_);have a5:=zP3 A e;refine zB ?_;simp only[af]
 refine kZ (xs:=zCf g e) (by omega) (fun k (s:List (Ty.El zC)×Ty.El zC)=>s.1=O/\∃f,s.2=(c.1,(3:Int),(1:Int),qDH C,c.2.1,(0:Int),(0:Int),(0:Int),[],(0:Int),(0:Int),f,Sc,())/\zGw g j f/\
  ((∃z,z∈(zCf g e).take k/\z.2.1=c.1/\z.1≠(j:Int)/\0<=kD g e j z.1.toNat/\kD g e j z.1.toNat+z.2.2.1=c.2.1)->f≠[])) ?_ ?_ ?_
 .exact⟨rfl,[],rfl,⟨List.Pairwise.nil,(fun h p=>by cases p)⟩,(fun⟨z,Y,_⟩=>by simp at Y)⟩
 .rintro k z ⟨g1,y⟩ Y ⟨Z,f,e2,P,F⟩;simp only at Z e2;subst Z e2;obtain⟨q,d,qo,x,H,L,h5,h6,ab⟩:=zEM.1 (ae Y);have hq:z.1=(q:Int):=by rw[ab]
  have an:=(aa.1 H).1;have ao:z.2.2.1=vP x:=by rw[ab]
  have hb:=zEe A e j q;have ap:=qDM A H L (zTG H L h5).2.1;refine zB (zM (zO Y) ?_);simp only;have hd:zW (Sa (16*(a+1)+(zV g).length,zG6 g e),(j:Int),z.1,())=Sa (kD g e j q):=by rw[hq];exact yI A _ e j q
  refine zB (zM hd ?_)
  have M:∀(ad:¬(z.2.1=c.1/\z.1≠(j:Int)/\0<=kD g e j z.1.toNat/\kD g e j z.1.toNat+z.2.2.1=c.2.1)),(∃z,z∈(zCf g e).take (k+1)/\z.2.1=c.1/\z.1≠(j:Int)/\0<=kD g e j z.1.toNat/\kD g e j z.1.toNat+z.2.2.1=c.2.1)->f≠[]:=by
   rintro ad ⟨z',h1,h2⟩;rcases(yH Y).1 h1 with h1|rfl
   .exact F ⟨z',h1,h2⟩
   .exact absurd h2 ad
  have hw:Ad .i64 (kD g e j q+z.2.2.1)=kD g e j q+z.2.2.1:=by rw[ao];exact zJ (by omega) (by omega)
  rw[hw];refine zB ((show Wp _ (fun s:Bool×List (Ty.El zC)=>s.2=g1/\(s.1=Sb↔(z.2.1=c.1/\z.1≠(j:Int)/\0<=kD g e j q/\kD g e j q+z.2.2.1=c.2.1)))from ?_).mono ?_)
  .refine zH (fun G=>?_) (fun G=>zA ⟨rfl,(fun h=>by cases h),fun h=>?_⟩)
   .have G:z.2.1=c.1:=uT.1 G;refine zH (fun B=>?_) (fun B=>zA ⟨rfl,(fun h=>by cases h),fun h=>?_⟩)
    .have B:z.1≠(j:Int):=by intro p;rw[p]at B;have B:(!((j:Int)==(j:Int)))=true:=B;simp at B
     refine zP (fun k3=>zA ⟨rfl,fun k4=>?_,fun h=>?_⟩) (fun k3=>zA ⟨rfl,(fun h=>by cases h),fun h=>absurd h.2.2.1 k3⟩)
     .exact⟨G,B,k3,of_decide_eq_true k4⟩
     .exact decide_eq_true h.2.2.2
    .have B:(!(z.1==(j:Int)))=false:=B
     have:z.1=(j:Int):=by
      have B:(decide (z.1=(j:Int)))=true:=by simpa using B
      exact of_decide_eq_true B
     exact absurd this h.2.1
   .have G:zBW z.2.1 c.1=false:=G;rw[uT.2 h.1]at G;cases G
  .rintro⟨s1,s2⟩ ⟨rfl,hs⟩;simp only at hs;refine zH (fun m=>?_) (fun m=>?_)
   .have m:s1=true:=m;obtain⟨G,B,k3,k4⟩:=hs.1 m;have N:q≠j:=fun p=>B (by rw[hq,p]);have ht:=zGO A S Q an;rw[hH.symm.trans W]at ht;rw[hq];refine zB (ht.mono ?_);rintro tw ag;have al:=ag.ok A;refine zB ((zLX f tw (aj (zEa A P) (by omega)) (aj (zEa A al) (by omega))).mono ?_);rintro u hu;refine zA ⟨rfl,u,rfl,zWg hu P al,fun _ av=>?_⟩;have hn:=zKx A ag N k3;obtain⟨t,ts,rfl⟩:=c8 hn;have:=(hu.2.2 t).2 (dB _ (by simp));rw[av]at this;cases this
   .have m:s1=false:=m;refine zA ⟨rfl,f,rfl,P,M (fun p=>?_)⟩;rw[hq,aB]at p;rw[<-hq]at p;rw[hs.2 p]at m;cases m
 .rintro⟨g1,y⟩ ⟨Z,f,e2,P,F⟩;simp only at Z e2;subst Z e2;rw[bU]at F
  have hn:f≠[]:=by
   obtain⟨q,d,qo,x,H,L,h5,h6,h7,h8,h9⟩:=J;refine F ⟨_,zEM.2 ⟨q,d,qo,x,H,L,h5,h6,rfl⟩,h7,fun p=>?_,?_,?_⟩
   .have N:q=j:=by have p:((q:Nat):Int)=(j:Int):=p;omega
    subst N;rw[<-h7,qFZ A H L (zTG H L h5).2.2]at E;cases E
   .exact h8
   .exact h9.symm
  refine zB (zAb (by simp;omega) (zA ⟨?_,by simp;omega⟩));intro y hy;rcases a7.1 hy with hy|hy
  .exact D y hy
  .rw[aM.1 hy];obtain⟨q,d,qo,x,H,L,h5,h6,h7,h8,h9⟩:=J;exact⟨rfl,rfl,rfl,rfl,rfl,rfl,rfl,rfl,zY9 hr (qEn h8).2.1,K.1,E,P,.inr ⟨rfl,.inl rfl,K.2.1,K.2.2,hn⟩⟩
theorem zUW(x:Ty.El zL)(g:Ty.El vK):qW (x,g,())=Sa (zVL g.2.1 x.1):=by refine vB ?_;unfold qW;exact zB (zM (zD1 _ _) (zA rfl))
theorem zYL(l:List (Ty.El zL))(g:Ty.El vK)(a:l.length<0x4000000000000000):jL (l,(g,()),())=Sa (decide (zHi (fun x:Ty.El zL=>zVL g.2.1 x.1) l>=0)):=by
 refine vB ?_;unfold jL;refine zB ?_;unfold wD;refine zFm (p:=fun x:Ty.El zL=>zVL g.2.1 x.1) a ?_ (zA rfl)
 grind[zO,zUW,qW,zVL]
theorem zYK(l:List (Ty.El zC))(g:Ty.El vK)(a:l.length<0x4000000000000000):wN (l,(g,()),())=Sa (decide (zHi (fun y:Ty.El zC=>zBW y.1 g.2.1) l>=0)):=by
 refine vB ?_;unfold wN;refine zB ?_;unfold uB;refine zFm (p:=fun y:Ty.El zC=>zBW y.1 g.2.1) a ?_ (zA rfl);intro i x c;rw[zO c,af];show Ae (jP (x,g,())) _=_;have:jP (x,g,())=Sa (zBW x.1 g.2.1):=rfl
 grind
theorem zSJ(h:zOe g j=Sb):zBl g 0 j=true:=by simp_all[zOe]
theorem zSZ(m:qG l i g)(r:(zV g)[j]?=Sa C)(e:List (Ty.El zC))(F:e.length<=1048576):
  Wp (wF (zAD g,(j:Int),e,())) (fun n=>(∀y,y∈n->zEQ g j C 117506040 y/\Ty.bare zC y=Sb)/\n.length<=20):=by
 have z:=(aa.1 r).1;have G:=zU7 m r;unfold wF;refine zB (zM (zJB m j) ?_);refine zH (fun u=>zA ⟨(fun y h=>by cases h),by simp⟩) (fun u=>?_);have u:zOe g j=true:=by simpa using u
 have A:=zY9 r (zSJ u);refine zB ?_;simp only[af];refine zB (zM (show idx (zU1 g).1.1.1 (j:Int)=Sa C from zO r) ?_);refine kZ (xs:=zAP C) (by omega) (fun k (v:List (Ty.El zC))=>(∀y,y∈v->zEQ g j C 117506040 y/\Ty.bare zC y=Sb)/\v.length<=k) ⟨(fun y h=>by cases h),by simp⟩ ?_ (fun v x=>zA ⟨x.1,by omega⟩);rintro k d v B ⟨x,H⟩;have I:=(aa.1 B).1;have c:Wp (Sa v) (fun p=>(∀y,y∈p->zEQ g j C 117506040 y/\Ty.bare zC y=Sb)/\p.length<=k+1):=zA ⟨x,by omega⟩;refine zB (zM (zO B) ?_);refine zB (zM (zTJ m d.1) ?_);by_cases E:d.1∈vY g
 .obtain⟨id,J,_⟩:=zKo E;rw[J];simp only[Ak,cond_false];refine zB (zB (zM (zHc m z d.2.1) (zA ?_)));refine zH (fun _=>c) (fun f=>?_);refine zB (zB ((zIm m (zAD g) id d.1 j).mono ?_));rintro K ⟨O,L⟩;refine zB (zM (zYL K d (by omega)) ?_)
  have q:Wp (Ae (qE (zAD g,(j:Int),(1:Int),(d.2.1,(0:Int),()),())) fun(a:Ty.El zD×Int×Int×Int×Int×Int×Int×Int×List Int×Int×Int×List (Ty.El zQ)×Bool×Unit)=>
    Ae (app (136:Nat) v [(a.1,a.2.1,a.2.2.1,a.2.2.2.1,a.2.2.2.2.1,a.2.2.2.2.2.1,a.2.2.2.2.2.2.1,a.2.2.2.2.2.2.2.1,a.2.2.2.2.2.2.2.2.1,a.2.2.2.2.2.2.2.2.2.1,a.2.2.2.2.2.2.2.2.2.2.1,a.2.2.2.2.2.2.2.2.2.2.2.1,Sb,())]) fun(D:List (Ty.El zC))=>Sa D)
    (fun p=>(∀y,y∈p->zEQ g j C 117506040 y/\Ty.bare zC y=Sb)/\p.length<=k+1):=by
   refine zB (zM (zCi r 1 _) ?_);refine zB (zAb (by simp;omega) (zA ⟨fun y t=>?_,by simp only[aN,bL];omega⟩));rcases a7.1 t with t|t
   .exact x y t
   .rw[aM.1 t];exact⟨⟨rfl,rfl,rfl,rfl,rfl,rfl,rfl,rfl,A,psC.rng r (ae B),f,⟨List.Pairwise.nil,(fun h M=>by cases M)⟩,.inl ⟨rfl,rfl,rfl,rfl⟩⟩,rfl⟩
  refine zH (fun _=>?_) (fun _=>zA ?_)
  .refine zB (zM (zYK e d (by omega)) (zA ?_));refine zH (fun _=>q) (fun _=>c)
  .exact c
 .rw[zPn E];simp only[Option.isNone_none,cond_true];exact zB (zA c)
theorem zUX(e:qG l i g)(r:Nat)(p:Ty.El zD):Wp (wT (zAD g,(r:Int),p,())) (fun _=>True):=by have j:=zBG e;have k:=zDi g;unfold wT;simp only[af];refine zA1 (xs:=(vY g).zipIdx.map (zJn g)) (by omega) (fun _=>True) trivial ?_ (fun _=>zA trivial);intro d h f _;obtain⟨a,v,t,c⟩:=zEN f;refine zB (zM (zO f) ?_);rw[c];refine zB ((zIm e (zAD g) _ a r).mono ?_);rintro n ⟨u,m⟩;refine zB (zM (zOy n p (by omega)) ?_);exact zH (fun _=>zA (e2r (e2r trivial))) (fun _=>zA (e2l ⟨rfl,trivial⟩))
noncomputable def zHj(v:Ty.El zF)(r b:Nat)(num:Int):Bool:=zBl v num r&&(zBl v num b&&(decide (0<=kD v num r b)&&(num==0|| !zBl v 0 r)))
theorem zM9(e:qG l i g)(id:Nat)(num:Int){r b:Nat}(f:r<8)(n:b<8):jU (zAD g,(r:Int),(b:Int),Sa (id,zG6 g num),())=Sa (zHj g r b num):=by
 refine vB ?_;unfold jU zHj;refine zB ?_;simp only[af];refine zB (zM (zZh (zBl g num) f) ?_)
 cases zBl g num r with
 |false=>exact zA (zA rfl)
 |true=>
  simp only[cond_true,bR];refine zB (zM (zZh (zBl g num) n) ?_)
  cases zBl g num b with
  |false=>exact zA (zA rfl)
  |true=>
   simp only[cond_true,bR];refine zB (zM (yI e id num r b) ?_);refine zP (fun c=>?_) (fun c=>zA (zA ?_))
   .have c:0<=kD g num r b:=c;rw[decide_eq_true c,bR];refine zH (fun a=>zA (zA ?_)) (fun a=>?_)
    .have a:(num==0)=true:=a;rw[a];rfl
    .have a:(num==0)=false:=a;rw[a,bY];exact zB (zM (qAp e r 0) (zA (zA rfl)))
   grind
theorem zHF{n:Ty.El zI}(f:qG n i g){u:ElS [(.pt qL),tI]->Option (RTy.El (.o zC))}{bo:Ty.El zG}(E:(zV g)[j]?=Sa bo)(W:I∈vY g)(Y:117506040<=a2)(Z:I≠0->Wp (u (zAD g,(j:Int),())) (fun l=>(∀y,y∈l->zEQ g j bo a2 y)/\l.length<=1048576)):
  Wp (jQ u (zAD g,(j:Int),zI9 g I,())) (zMQ (PC g j a2)):=by
 have ab:=(aa.1 E).1;have h8:=uM f;have ad:=zBG f;have ag:=zDi g;unfold jQ;simp only[af];refine zB ?_;refine kZ (xs:=(vY g).zipIdx.map (zJn g)) (by omega) (fun _ (v:List (Ty.El zL))=>zMQ (PC g j a2) v) zYi ?_ ?_
 .intro d h v O k;obtain⟨z,hz,hH,A⟩:=zEN O;refine zB (zM (zO O) ?_);refine zB ((show Wp _ (fun s:Bool×List (Ty.El zL)=>s.2=v)from ?_).mono ?_)
  .refine zH (fun _=>zA rfl) (fun _=>?_);rw[A,af];exact zB (zM (zZh (zBl g z) (by omega)) (zA rfl))
  .rintro⟨s1,s2⟩ rfl;refine zH (fun _=>zA k) (fun _=>?_);rw[A];refine zB ((zUS f _ z E).mono ?_);rintro B ⟨F,al⟩;refine zCS (n:=B.length) (c:=fun _=>(B.length:Int)) (by omega) (fun _ (v:List (Ty.El zL))=>zMQ (PC g j a2) v) k (fun _ _ _=>rfl) ?_ (fun v k=>zA (e2r k));intro b P G a;have e:B[b]?=Sa B[b]:=by simp[G]
   generalize B[b]=x at e;have H:=F.all x (ae e);have m:=qE0 f E H;have num:=zPp f a;refine zB (zM (zO e) ?_);obtain⟨p,c,⟨⟩⟩:=x;refine zB ((a.add (p:=p) (c:=c) ⟨m.1,m.2.1,cg m.2.2 Y⟩ (by omega)).mono (fun J r=>zA (e2l ⟨rfl,r.1⟩)))
 .intro v k;obtain⟨id,hid,_⟩:=zKo W;rw[hid,af];refine zH (fun _=>zA k) (fun K=>?_);have K:I≠0:=ne_of_beq_false (show(I==0)=Sc from K);refine zB (zB ((Z K).mono ?_));rintro L ⟨hl,an⟩;refine zCS (n:=L.length) (c:=fun _=>(L.length:Int)) (by omega) (fun _ (s:List (Ty.El zC)×List (Ty.El zL))=>s.1=L/\zMQ (PC g j a2) s.2) ⟨rfl,k⟩ (fun _ _ _=>rfl) ?_ (fun s F=>zA (e2r (zA F.2)));rintro b ⟨C,P⟩ G ⟨Q,a⟩;simp only at Q a;subst Q;have e:C[b]?=Sa C[b]:=by simp[G]
  generalize C[b]=x at e;have D:=hl x (ae e);have num:=zPp f a;have M:atN C (Aa (b:Int))=Sa x:=by rw[aB];exact e
  refine zB (zB (zM (zO e) (zB (zM M ?_))));refine zB ((show Wp _ (fun s:Bool×List (Ty.El zL)×List (Ty.El zC)=>s.2=(P,C)/\(s.1=Sb->x.2.2.1=(2:Int)))from ?_).mono ?_)
  .refine zH (fun t=>?_) (fun t=>zA ⟨rfl,(fun h=>by cases h)⟩);have t:x.2.2.1=(2:Int):=of_decide_eq_true (show decide (x.2.2.1=(2:Int))=Sb from t);exact zB ((zUX f j x.1).mono (fun q _=>zA ⟨rfl,fun _=>t⟩))
  .rintro⟨s1,s2⟩ ⟨e2,N⟩;cases e2;refine zH (fun t=>?_) (fun _=>zA (zA (e2l ⟨rfl,rfl,a⟩)));have ao:=N t
   have S:1<=zTL x/\zTL x<=a2:=by
    rcases D.kind with⟨_,k2,_⟩|⟨_,_,k3,k4,_⟩
    .grind
    omega
   exact zB ((a.add (p:=x.1) (c:=zTL x) ⟨D.pre,S.1,S.2⟩ (by omega)).mono (fun J r=>zA (zA (e2l ⟨rfl,rfl,r.1⟩))))
theorem zUx:∀{l:List (Int×Int)},zVO l=0->∀p,p∈l->p.1=p.2
 |[],_,p,hp=>by cases hp
 |(a,b)::r,h,p,hp=>by
  unfold zVO at h;split at h
  .omega
  .split at h
   .omega
   .rcases bi.1 hp with rfl|hp
    .show a=b;omega
    .exact zUx h p hp
theorem qDf(a:a3.2.1=(3:Int)):zFh a3=(a3.2.2.1,a3.2.2.2.2.1,a3.2.2.2.2.2.1,a3.2.2.2.2.2.2.1,(0:Int),(0:Int),(0:Int)):=by
 grind[zFh]
theorem qBs{b:Ty.El zC}(a:a3.2.1=(3:Int))(c:b.2.1=(3:Int))(h:zCA a3 b=0):a3.2.2.1=b.2.2.1/\a3.2.2.2.2.1=b.2.2.2.2.1/\a3.2.2.2.2.2.1=b.2.2.2.2.2.1/\a3.2.2.2.2.2.2.1=b.2.2.2.2.2.2.1:=by unfold zCA at h;rw[qDf a,qDf c]at h;have:=zUx h;simp_all
theorem qBt(b:Ty.El zC):zCA b b=0:=by unfold zCA;simp[zVO]
theorem zCh(x y:Ty.El zC)(a:x.2.1=(3:Int))(f:y.2.1=(3:Int)):zAE (x,y,())=Sa (zCA x y):=by
 refine vB ?_;have c:(x.2.1==(1:Int))=false:=by rw[a];rfl
 have d:(x.2.1==(2:Int))=false:=by rw[a];rfl
 have e:(x.2.1==(3:Int))=true:=by rw[a];rfl
 unfold zAE;dsimp only;rw[c,d,e];simp only[cond_false,cond_true,af];refine zB (zM (zCj _ _) (zB (zM (zCj _ _) (zB (zM (zCj _ _) (zB (zM (zCj _ _) (zB (zM (zPC _ (by simp)) (zA ?_))))))))));have:=zVb [(x.2.2.1,y.2.2.1),(x.2.2.2.2.1,y.2.2.2.2.1),(x.2.2.2.2.2.1,y.2.2.2.2.2.1),(x.2.2.2.2.2.2.1,y.2.2.2.2.2.2.1)];refine this.trans ?_
 grind[qDf,zCA,zVO]
variable {b0:List (Ty.El zC)}
theorem zXi(a:a3∈zBY b0):∃b,b∈b0/\a3=qAs b (zEb b0 b.1 b):=by
 obtain⟨q,_,h⟩:=zIx.1 a;unfold mrg at h
 cases c:zE8 b0 q with
 |none=>grind
 |some b=>
  grind[zX8,Option.some.inj]
theorem qBz(h:∀x,x∈b0->zEQ g j C I x):∀z,z∈zBY b0->zEQ g j C I z:=by
 intro z q;obtain⟨b,m,rfl⟩:=zXi q;have a:=h b m;have e:=zAV b0 b.1 b;refine⟨a.proto,a.adm,a.inner,a.tag,a.pref,a.path,a.frm,a.nxt,a.on,a.pre,a.att,⟨e,fun x f=>?_⟩,?_⟩
 .obtain⟨y,d,_,_,c⟩:=(zBo b0 b.1 b x).1 f;exact(h y d).hops.ok x c
 .rcases a.kind with⟨v,i,r,n⟩|⟨v,i,r,n,u⟩
  .refine .inl ⟨v,i,r,bD.2 (fun x f=>?_)⟩;obtain⟨y,d,_,A,c⟩:=(zBo b0 b.1 b x).1 f;obtain⟨_,B,_⟩:=qBs (h y d).proto a.proto A;rcases(h y d).kind with⟨_,_,_,k⟩|⟨_,_,D,_⟩
   all_goals grind
  .refine .inr ⟨v,i,r,n,fun p=>?_⟩;obtain⟨t,E,F⟩:=c8 u;have:t∈zEb b0 b.1 b:=(zBo b0 b.1 b t).2 ⟨b,m,rfl,qBt b,by grind⟩;have p:zEb b0 b.1 b=[]:=p
   grind
theorem qAK(a:qG l i g)(h:zEQ g j C I a3):RtS a3:=
 ⟨by rw[show Ab a3.2.2.2.2.2.2.2.2.1=0 by rw[h.path];rfl];omega,aj (zEa a h.hops) (by omega)⟩
theorem zKj(l:List (Ty.El zQ))(h:l.length<=1048576):uP (l,())=Sa l:=by refine vB ?_;unfold uP;exact zB (zAb (by grind) (zA rfl))
theorem zM8{n:Ty.El zI}(f:qG n i g){G:ElS [(.pt qL),tI,(.pt qN)]->Option (RTy.El (.p (.sl zL)))}(W:(zV g)[j]?=Sa C){hi:Int}(h1:117506040<=hi)(h2:hi<=4294967296)(hA:∀(b:Nat) (num:Int),b< (zV g).length->zOe g b=Sb->num∈vY g->zHj g j b num=Sb->Wp (G (zAD g,(b:Int),zI9 g num,())) (zMQ (PC g b hi))):
  Wp (wS G (zAD g,(j:Int),())) (fun l=>(∀y,y∈l->zEQ g j C (hi+117440505) y)/\l.length<=114688):=by
 have H:=(aa.1 W).1;have h8:=uM f;have ao:=zBG f;have ap:=zDi g;unfold wS;simp only[af];refine zB ?_;refine zHw (n:=(zV g).length) (c:=fun _=>(((zV g).length:Nat):Int)) (by omega) (fun k (v:List (Ty.El zC))=>(∀y,y∈v->zEQ g j C (hi+117440505) y)/\v.length<=k*14336) ⟨(fun y h=>by cases h),by simp⟩ (fun _ _ _=>rfl) ?_ ?_
 .rintro b v hb ⟨u,Y⟩;have D:(∀y,y∈v->zEQ g j C (hi+117440505) y)/\v.length<=(b+1)*14336:=⟨u,by omega⟩
  refine zB ((show Wp _ (fun s:Bool×List (Ty.El zC)=>s.2=v/\(s.1=Sc->b≠j/\zOe g b=Sb))from ?_).mono ?_)
  .refine zH (fun _=>zA ⟨rfl,(fun h=>by cases h)⟩) (fun d=>?_)
   have d:b≠j:=fun F=>by
    grind
   refine zP (fun S=>zA ⟨rfl,(fun h=>by cases h)⟩) (fun _=>?_);refine zB (zM (zJB f b) (zA ⟨rfl,fun F=>⟨d,by simpa using F⟩⟩))
  .rintro⟨s1,s2⟩ ⟨e,hs⟩;simp only at e;subst e;refine zH (fun _=>zA D) (fun Z=>?_);obtain⟨d,ab⟩:=hs Z;refine kZ (xs:=(vY g).zipIdx.map (zJn g)) (by omega) (fun k (v:List (Ty.El zC))=>(∀y,y∈v->zEQ g j C (hi+117440505) y)/\v.length<=b*14336+k*224) ⟨u,by omega⟩ ?_ (fun v u=>⟨u.1,by omega⟩);rintro k h g' F ⟨I,an⟩;have av:=(aa.1 F).1;obtain⟨num,x,hH,J⟩:=zEN F;have r:(∀y,y∈g'->zEQ g j C (hi+117440505) y)/\g'.length<=b*14336+(k+1)*224:=⟨I,by omega⟩
   refine zB (zM (zO F) ?_);have K:=zM9 f (16*(k+1)+(zV g).length) num (show j<8 by omega) (show b<8 by omega);rw[<-J]at K;refine zB (zM K ?_);refine zH (fun _=>zA r) (fun E=>?_);have E:zHj g j b num=true:=by simpa using E
   have a:0<=kD g num j b/\zBl g num j=true:=by unfold zHj at E;rw[am,am,am]at E;exact⟨of_decide_eq_true E.2.2.1,E.1⟩
   have ad:=zEe f num j b;have z:=hA b num hb ab x E;rw[<-hH]at z;refine zB (z.mono ?_);rintro cs L;have ax:=zPp f L;refine kZ (xs:=cs) (by omega) (fun m (q:List (Ty.El zC))=>(∀y,y∈q->zEQ g j C (hi+117440505) y)/\q.length<=b*14336+k*224+m) ⟨I,by omega⟩ ?_ (fun v u=>⟨u.1,by omega⟩);rintro m c q S ⟨A,ag⟩;have ay:=(aa.1 S).1;have M:=L.all c (ae S);refine zB (zM (zO S) ?_);refine zB (zM (zHc f H c.1) ?_);refine zH (fun _=>zA ⟨A,(show q.length<=b*14336+k*224+(m+1) by omega)⟩) (fun al=>?_);have N:=yI f (16*(k+1)+(zV g).length) num j b;rw[<-J]at N;refine zB (zM N ?_);have B:=M.2;have hw:Ad .i64 (c.2.1+kD g num j b)=c.2.1+kD g num j b:=zJ (by omega) (by omega);rw[hw];refine zB (zM (zCi W 2 _) ?_);have ht:=zGO f x H hb;rw[<-hH]at ht;refine zB (ht.mono ?_);rintro tw O;have P:=O.ok f;refine zB (zM (zKj tw (aj (zEa f P) (by omega))) ?_);refine zB (zAb (by simp;omega) (zA ⟨fun y Q=>?_,by simp;omega⟩));rcases a7.1 Q with Q|Q
   .exact A y Q
   .rw[aM.1 Q];refine⟨rfl,rfl,rfl,rfl,rfl,rfl,rfl,rfl,zY9 W a.2,M.1.of (zKi f a.1),al,P,.inr ⟨rfl,.inr rfl,?_,?_,zKx f O d a.1⟩⟩
    .exact(fun(t e:Int) (h:1<=t) (h':0<=e)=>(by omega:(1:Int)<=t+e)) _ _ B.1 a.1
    .exact(fun(t e:Int) (h:t<=hi) (h':e<=117440505)=>(by omega:t+e<=hi+117440505)) _ _ B.2 ad.2
 .rintro v ⟨u,Y⟩;refine zA ⟨u,?_⟩;omega
theorem zIV(r:qG l i g){e:ElS [(.pt qL),tI]->Option (RTy.El (.p (.sl zC)))}(h:(zV g)[j]?=Sa C)(D:117506040<=I)(hi:Wp (e (zAD g,(j:Int),())) (fun n=>(∀y,y∈n->zEQ g j C I y)/\n.length<=114688)):
  Wp (jZ e (zAD g,(j:Int),())) (fun n=>(∀y,y∈n->zEQ g j C I y)/\n.length<=120000):=by
 unfold jZ;refine zB ((zYJ r h).mono ?_);rintro d ⟨J,k⟩;refine zB ((zSZ r h d (by omega)).mono ?_);rintro f ⟨E,m⟩;have q:RV.plain (RTy.res (RTy.o zC) f)=true:=by show(zC.flat||f.all (Ty.bare zC))=Sb;rw[bO];right;rw[au];exact fun y c=>(E y c).2
 rw[q,cond_true];have F:Ab d<=4096:=k;have G:Ab f<=20:=m;refine zB (zAb (by omega) ?_);refine zB (hi.mono ?_);rintro t ⟨u,A⟩;have H:Ab t<=114688:=A;refine zB (zAb (by rw[aN];omega) ?_)
 have a:∀y,y∈d++f++t->zEQ g j C I y:=by
  intro y c;rcases a7.1 c with c|c
  .rcases a7.1 c with c|c
   .exact(J y c).mono D
   .exact(E y c).1.mono D
  .exact u y c
 have v:(d++f++t).length<=120000:=by rw[aN,aN];omega
 refine zB ((zD0 _ (by omega) (fun x B=>qAK r (a x B)) (fun x y B c=>zCh x y (a x B).proto (a y c).proto)).mono ?_);rintro z rfl;exact zA ⟨qBz a,aj (zMj _) v⟩
theorem zSp(h:zHj g j J I=Sb)(a:zBl g 0 j=Sb):I=0:=by simp_all[zHj]
theorem zRn(c:qG l i g)(f:(zV g)[j]?=Sa C)(v:zBl g 0 j=Sb)(k:Nat):
  Wp (jX (k+1) (zAD g,(j:Int),())) (fun n=>(∀y,y∈n->zEQ g j C 234946545 y)/\n.length<=120000):=by
 refine zIV c f (by omega) (zM8 (hi:=117506040) c f (by omega) (by omega) (fun b h d r a m=>?_));have p:=zSp m v;exact zHF c (bo:=(zV g)[b]) (by simp[d]) a (by omega) (fun q=>absurd p q)
theorem zQf(e:qG l i g)(h:(zV g)[j]?=Sa C)(k:Nat):
  Wp (jX (k+2) (zAD g,(j:Int),())) (fun n=>(∀y,y∈n->zEQ g j C 352387050 y)/\n.length<=120000):=by
 refine zIV e h (by omega) (zM8 (hi:=234946545) e h (by omega) (by omega) (fun b d v f a q=>?_));have c:(zV g)[b]?=Sa (zV g)[b]:=by simp[v]
 exact zHF e c a (by omega) (fun _=>(zRn e c (zSJ f) k).mono (fun n m=>⟨m.1,by omega⟩))
theorem zSY(c:qG l i g)(e:(zV g)[j]?=Sa C):
  Wp (qF (zAD g,(j:Int),())) (fun n=>(∀y,y∈n->zEQ g j C 352387050 y)/\n.length<=120000):=zQf c e 2
def zFb(v:Ty.El zF)(r q:Nat)(hi:Int)(p:Ty.El wA):Prop:=
 (p.1=(-1:Int)/\p.2.1=[])\/((0:Int)<=p.1/\p.1<=hi/\(zGw v r p.2.1/\Con v r q)/\p.2.1≠[])
theorem zLn(n:qG l i g){p:Ty.El wA}(v:zFb g j J I p)(B:0<=a2)(C:a2<=I)(f:zGw g j a0)(e:a0≠[])(k:Con g j J):
  Wp (kF p (a2,a0,())) (fun z=>zFb g j J I z.1):=by
 have d:a0.length<=1048576:=aj (zEa n f) (by omega);have a:∀x:Ty.El wA,atN [x] (0:Nat)=Sa x:=fun _=>rfl;have m:zFb g j J I ((a2,a0,()):Ty.El wA):=.inr ⟨B,C,⟨f,k⟩,e⟩;unfold kF;refine zB (zM (a p) ?_);refine zP (fun D=>?_) (fun D=>?_)
 .grind[zB,zM,zKj,zA]
 .obtain⟨E,F,⟨y,_⟩,H⟩:(0:Int)<=p.1/\p.1<=I/\(zGw g j p.2.1/\Con g j J)/\p.2.1≠[]:=by
   rcases v with⟨h,_⟩|h;all_goals grind
  refine zB (zM (a p) ?_);refine zP (fun _=>?_) (fun _=>?_)
  .grind[zB,zM,zKj,zA]
  .refine zB (zM (a p) ?_);refine zH (fun _=>?_) (fun _=>zA v);refine zB (zM (a p) ?_);refine zB ((zLX p.2.1 a0 (aj (zEa n y) (by omega)) d).mono ?_);rintro u A;refine zB (zM (a p) (zA (.inr ⟨E,F,⟨zWg A y f,k⟩,fun G=>?_⟩)));obtain⟨t,r,rfl⟩:=c8 e;have:=(A.2.2 t).2 (dB _ (by simp))
   grind
def zKR(v:Ty.El zF)(r q:Nat)(hi:Int)(z:Int×List (Ty.El zQ)×Bool×Unit):Prop:=
 z.2.2.1=Sb->r≠q/\0<=z.1/\z.1<=hi/\(zGw v r z.2.1/\Con v r q)/\z.2.1≠[]
theorem zM7(c:qG l i g){B:Ty.El wA->ElA [.d (.pt qL),.d tI,.d tI]->Option (Ty.El wA×RTy.El (.tu []))}(F:j< (zV g).length)(G:J< (zV g).length)(M:117440505<=I)(t:j≠J->∀p,zFb g j J I p->Wp (B p (zAD g,(j:Int),(J:Int),())) (fun z=>zFb g j J I z.1)):
  Wp (wR B (zAD g,(j:Int),(J:Int),())) (zKR g j J I):=by
 have N:=uM c;have H:=zBG c;have hi:=zDi g;have a:zKR g j J I ((0:Int),[],Sc,()):=fun h=>by cases h
 unfold wR;simp only[af];refine zB ((show Wp _ (fun b:Bool=>b=Sc->j≠J)from ?_).mono ?_)
 .refine zH (fun _=>zA (fun h=>by cases h)) (fun e=>?_)
  have e:j≠J:=fun v=>by
   grind
  simp_all[zH,zA]
 .intro b q;refine zH (fun _=>zA a) (fun u=>?_);have e:=q u;refine zB ?_;refine kZ (xs:=(vY g).zipIdx.map (zJn g)) (by omega) (fun _ (p:Ty.El wA)=>zFb g j J I p) (.inl ⟨rfl,rfl⟩) ?_ ?_
  .intro d h p v r;obtain⟨f,k,K,x⟩:=zEN v;refine zB (zM (zO v) ?_);have C:=yI c (16*(d+1)+(zV g).length) f j J;rw[<-x]at C;refine zB (zM C ?_);have L:=zEe c f j J;refine zP (fun n=>?_) (fun _=>zA r);have n:0<=kD g f j J:=n;have D:=zGO c k F G;rw[<-K]at D;refine zB (D.mono ?_);rintro P m;exact zB ((zLn c r n (by omega) (m.ok c) (zKx c m (fun v=>e v.symm) n) (zKi c n)).mono (fun z y=>zA y))
  .intro p r;refine zB ((show Wp _ (fun E:Ty.El wA=>zFb g j J I E)from ?_).mono ?_)
   .exact zP (fun _=>zB ((t e p r).mono (fun z y=>zA y))) (fun _=>zA r)
   .intro E A;refine zP (fun _=>zA a) (fun Q=>zA (fun _=>?_));rcases A with⟨h,_⟩|⟨S,W,Y,Z⟩
    all_goals grind
theorem zHD{n:Ty.El zI}(a:qG n i g){q:ElS [(.pt qL),tI,(.pt qN),tI]->Option (RTy.El (.p tI))}(N:j< (zV g).length){hi:Int}(h1:0<=hi)(h2:hi<=4294967296)(O:∀(b:Nat) (num:Int),b< (zV g).length->zOe g b=Sb->num∈vY g->zHj g j b num=Sb->Wp (q (zAD g,(b:Int),zI9 g num,(J:Int),())) (fun e:Int=>e<=hi/\(0<=e->Con g b J))){p:Ty.El wA}(P:zFb g j J (hi+117440505) p):
  Wp (jO q p (zAD g,(j:Int),(J:Int),())) (fun z=>zFb g j J (hi+117440505) z.1):=by
 have h8:=uM a;have Q:=zBG a;have S:=zDi g;unfold jO;simp only[af];refine zCS (n:=(zV g).length) (c:=fun _=>(((zV g).length:Nat):Int)) (by omega) (fun _ (p:Ty.El wA)=>zFb g j J (hi+117440505) p) P (fun _ _ _=>rfl) ?_ (fun v m=>zA (e2r m));intro b v K m;refine zB ((show Wp _ (fun E:Ty.El wA=>zFb g j J (hi+117440505) E)from ?_).mono (fun E W=>zA (e2l ⟨rfl,W⟩)));refine zB ((show Wp _ (fun s:Bool×Ty.El wA=>s.2=v/\(s.1=Sc->b≠j/\zOe g b=Sb))from ?_).mono ?_)
 .refine zH (fun _=>zA ⟨rfl,(fun h=>by cases h)⟩) (fun f=>?_)
  have f:b≠j:=fun t=>by
   grind
  exact zB (zM (zJB a b) (zA ⟨rfl,fun t=>⟨f,by simpa using t⟩⟩))
 .rintro⟨s1,s2⟩ ⟨e,Y⟩;simp only at e;subst e;refine zH (fun _=>zA m) (fun F=>?_);obtain⟨f,G⟩:=Y F;refine kZ (xs:=(vY g).zipIdx.map (zJn g)) (by omega) (fun _ (v:Ty.El wA)=>zFb g j J (hi+117440505) v) m ?_ (fun v m=>m);rintro k h E t l;obtain⟨num,d,L,u⟩:=zEN t;refine zB (zM (zO t) ?_);have y:=zM9 a (16*(k+1)+(zV g).length) num (show j<8 by omega) (show b<8 by omega);rw[<-u]at y;refine zB (zM y ?_);refine zH (fun _=>zA l) (fun D=>?_);have D:zHj g j b num=true:=by simpa using D
  have r:0<=kD g num j b:=by unfold zHj at D;simp_all
  have Z:=zEe a num j b;have A:=O b num K G d D;rw[<-L]at A;refine zB (A.mono ?_);intro (e:Int) ⟨ab,H⟩;refine zP (fun I=>?_) (fun _=>zA l);have I:(0:Int)<=e:=I;have B:=yI a (16*(k+1)+(zV g).length) num j b;rw[<-u]at B;refine zB (zM B ?_);rw[zJ (x:=kD g num j b+e) (by omega) (by omega)];have M:=zGO a d N K;rw[<-L]at M;refine zB (M.mono ?_);rintro tw C;exact zB ((zLn a l (by omega) (by omega) (C.ok a) (zKx a C f r) ((zKi a r).trans (H I))).mono (fun z hz=>zA hz))
theorem zLo(f:qG l i g){a:ElS [(.pt qL),tI,tI]->Option (RTy.El (.tu [tI,(.sl zQ),.bool]))}(y:I∈vY g)(E:117440505<=a2)(A:I≠0->Wp (a (zAD g,(j:Int),(J:Int),())) (zKR g j J a2)):
  Wp (wE a (zAD g,(j:Int),zI9 g I,(J:Int),())) (fun e:Int=>e<=a2/\(0<=e->Con g j J)):=by
 have F:=uM f;have B:=zBG f;have C:=zDi g;obtain⟨id,hid,_⟩:=zKo y;unfold wE;simp only[af];refine zB ?_;refine kZ (xs:=(vY g).zipIdx.map (zJn g)) (by omega) (fun _ (s:Int)=>s<=a2/\(0<=s->Con g j J)) ⟨by omega,fun h=>absurd h (by omega)⟩ ?_ ?_
 .intro d h s t b;obtain⟨z,k,H,n⟩:=zEN t;refine zB (zM (zO t) ?_);have u:=yI f (16*(d+1)+(zV g).length) z j J;rw[<-n]at u;refine zB (zM u ?_);have D:=zEe f z j J;refine zB ((show Wp _ (fun c:Bool=>c=Sb->0<=kD g z j J)from ?_).mono ?_)
  .refine zH (fun _=>?_) (fun _=>zA (fun h=>by cases h));refine zP (fun x=>?_) (fun _=>zA (fun h=>by cases h));exact zP (fun _=>zA (fun _=>x)) (fun _=>zA (fun _=>x))
  .intro c m;exact zH (fun h=>zA ⟨by omega,fun _=>zKi f (m h)⟩) (fun _=>zA b)
 .intro s b;rw[hid];simp only[af];refine zB ((show Wp _ (fun c:Bool=>c=Sc->I≠0)from ?_).mono ?_)
  .refine zP (fun _=>zA (fun h=>by cases h)) (fun _=>?_);refine zH (fun _=>zA (fun h=>by cases h)) (fun p=>?_);have p:I≠0:=ne_of_beq_false (show(I==0)=Sc from p);exact zB (zM (yI f id I j J) (zA (fun _=>p)))
  .intro c m;refine zH (fun _=>zA b) (fun r=>?_);refine zB ((A (m r)).mono ?_);intro z k;exact zH (fun v=>zA ⟨(k v).2.2.1,fun _=>(k v).2.2.2.1.2⟩) (fun _=>zA ⟨by omega,fun h=>absurd h (by omega)⟩)
theorem zWy(c:qG l i g)(e:j< (zV g).length)(f:J< (zV g).length)(v:zBl g 0 j=Sb)(k:Nat):
  Wp (wP (k+1) (zAD g,(j:Int),(J:Int),())) (zKR g j J 234881010):=by
 refine zM7 c e f (by omega) (fun _ p h=>?_);refine zHD (hi:=117440505) c e (by omega) (by omega) (fun b d u r a n=>?_) h;exact zLo c a (by omega) (fun m=>absurd (zSp n v) m)
theorem zUV(c:qG l i g)(f:j< (zV g).length)(d:J< (zV g).length)(k:Nat):
  Wp (wP (k+2) (zAD g,(j:Int),(J:Int),())) (zKR g j J 352321515):=by
 refine zM7 c f d (by omega) (fun _ p h=>?_);refine zHD (hi:=234881010) c f (by omega) (by omega) (fun b n v e a m=>?_) h;exact zLo c a (by omega) (fun _=>zWy c v d (zSJ e) k)
theorem zYI(a:qG l i g)(c:j< (zV g).length)(e:J< (zV g).length):
  Wp (qM (zAD g,(j:Int),(J:Int),())) (zKR g j J 352321515):=zUV a c e 2
abbrev nbD(v:Ty.El zF)(r i:Nat):List (Ty.El zS):=zHQ v (r:Int) (i:Int) (fun e=>e.1 !=(r:Int))
def qCu(v:Ty.El zF):List Arc:=(Ac (zV v).length).flatMap fun r=>(Ac (((zV v).map wH).getD r []).length).flatMap fun i=>(nbD v r i).map fun e=>⟨Aa e.1,r,0⟩
theorem zGd{e:Arc}:e∈qCu g↔ ∃(r i:Nat) (a:Ty.El zG) (p:Ty.El zS),(zV g)[r]?=Sa a/\i< (wH a).length/\p∈nbD g r i/\e=⟨Aa p.1,r,0⟩:=by
 unfold qCu;simp only[bV,aV,aO];constructor
 .rintro⟨r,d,i,c,p,f,rfl⟩;have v:(zV g)[r]?=Sa (zV g)[r]:=by simp[d]
  have h:((zV g).map wH).getD r []=wH (zV g)[r]:=by simp_all
  rw[h]at c;exact⟨r,i,_,p,v,c,f,rfl⟩
 .rintro⟨r,i,a,p,d,c,f,rfl⟩;have j:=(aa.1 d).1;have h:((zV g).map wH).getD r []=wH a:=by simp_all
  exact⟨r,j,i,by rw[h];exact c,p,f,rfl⟩
theorem qDE(a:qG l i g){p:Ty.El zS}(c:p∈nbD g j J):(0:Int)<=p.1/\Aa p.1< (zV g).length:=by obtain⟨e,_,q,y,f,_⟩:=zY8 a (show p∈zTl g j J by unfold zTl;rw[zXf a];exact c);exact⟨e,(aa.1 f).1⟩
structure zSR(v:Ty.El zF)(l0 l:List Int):Prop where
 len:l.length=(zV v).length
 snd:∀t,t< (zV v).length->∃(s:Nat) (w:List Nat) (c:Nat),l.getD t 0=(s:Int)/\s< (zV v).length/\yK (qCu v) s (t::w) c
 low:∀t,l.getD t 0<=l0.getD t 0
def KnC(v:Ty.El zF)(k:Nat)(l:List Int):Prop:= ∀s t w c,s< (zV v).length->yK (qCu v) s (t::w) c->w.length<=k->l.getD t 0<=(s:Int)
variable {a5:List Int}
theorem zSR.step(h:zSR g i a5){q:Nat}{p:Ty.El zS}(hr:(zV g)[j]?=Sa C)(hi:J< (wH C).length)(hp:p∈nbD g j J)(m:Aa p.1=q)(hq:q< (zV g).length):
  zSR g i (a5.set j (if a5.getD q 0<a5.getD j 0 then a5.getD q 0 else a5.getD j 0))/\(∀t,(a5.set j (if a5.getD q 0<a5.getD j 0 then a5.getD q 0 else a5.getD j 0)).getD t 0<=a5.getD t 0)/\
   (a5.set j (if a5.getD q 0<a5.getD j 0 then a5.getD q 0 else a5.getD j 0)).getD j 0<=i.getD q 0:=by
 have n:=(aa.1 hr).1;have v:=h.len;have a:∀t,(a5.set j (if a5.getD q 0<a5.getD j 0 then a5.getD q 0 else a5.getD j 0)).getD t 0=if j=t then(if a5.getD q 0<a5.getD j 0 then a5.getD q 0 else a5.getD j 0)else a5.getD t 0:=fun t=>by grind
 have d:∀t,(a5.set j (if a5.getD q 0<a5.getD j 0 then a5.getD q 0 else a5.getD j 0)).getD t 0<=a5.getD t 0:=fun t=>by
  rw[a];split
  .rename_i e;subst e;split<;>omega
  .omega
 refine⟨⟨by simp[v],fun t k=>?_,fun t=>cg (d t) (h.low t)⟩,d,?_⟩
 .rw[a];split
  .rename_i e;subst e;split
   .obtain⟨s,w,c,u,x,y⟩:=h.2 q hq;exact⟨s,q::w,c+0,u,x,.snoc ⟨q,j,0⟩ y (zGd.2 ⟨j,J,C,p,hr,hi,hp,by rw[m]⟩) rfl⟩
   .exact h.2 j k
  .exact h.2 t k
 .rw[a,if_pos rfl];have:=h.low q;split<;>omega
theorem qEq{n:Ty.El zI}(u:qG n i g){l:List Int}(h:zSR g a5 l)(G:KnC g (zV g).length l):∀a b,(∃num d f x j z y,zV3 g num a d f x b j z y)->l.getD a 0=l.getD b 0:=by
 have v:∀(e:Arc),e∈qCu g->l.getD e.b 0<=l.getD e.a 0:=by
  intro e q;obtain⟨r,d,f,p,D,M,H,rfl⟩:=zGd.1 q;obtain⟨s,w,c,A,t,I⟩:=h.2 (Aa p.1) (qDE u H).2;obtain⟨J,K,E,_,L⟩:=(yK.snoc _ I q rfl).short
  have hlt:=E.lt (n:=(zV g).length) (fun e q=>by
   obtain⟨r,d,f,p,D,_,_,rfl⟩:=zGd.1 q
   exact(aa.1 D).1) t
  have:=zVa _ _ hlt L;show l.getD r 0<=l.getD (Aa p.1) 0;rw[A];exact G s r J K t E (by simp at this;omega)
 rintro a b ⟨num,d,f,x,j,z,y,k⟩;by_cases B:a=b
 .rw[B]
 have m:(((b:Int),(j:Int),()):Ty.El zS)∈nbD g a d:=by show _∈zHQ g _ _ _;rw[<-zXf u];exact k.nb
 have C:(((a:Int),(d:Int),()):Ty.El zS)∈nbD g b j:=qDD u m;have A:=v ⟨b,a,0⟩ (zGd.2 ⟨a,d,f,_,k.hr,(aa.1 k.hx).1,m,by simp⟩);have t:=v ⟨a,b,0⟩ (zGd.2 ⟨b,j,z,_,k.hq,(aa.1 k.hy).1,C,by simp⟩);exact Int.le_antisymm A t
def zSP(v:Ty.El zF)(c l:List Int)(r:Nat):Prop:= ∀e,e∈qCu v->e.b<r->l.getD e.b 0<=c.getD e.a 0
theorem zSP.low{c:List Int}(h:zSP g i a5 j)(d:∀t,c.getD t 0<=a5.getD t 0):zSP g i c j:=fun e f hr=>cg (d _) (h e f hr)
theorem KnC.round(h:KnC g j i)(q:zSR g i a5)(u:zSP g i a5 (zV g).length):KnC g (j+1) a5:=by
 intro s t w c d v x;generalize k:t::w=m at v
 cases v with
 |nil=>
  obtain⟨rfl,rfl⟩:=bZ k;exact cg (q.low t) (h t t [] 0 d .nil (aW _))
 | @snoc y z A e B n C=>
  obtain⟨rfl,rfl⟩:=bZ k;subst C;have hb:e.b< (zV g).length:=by obtain⟨r,f,D,p,hr,_,_,rfl⟩:=zGd.1 n;exact(aa.1 hr).1
  exact cg (u e n hb) (h s e.a z A d B (by simp at x;omega))
def NbI(v:Ty.El zF)(a:List Int)(r i k:Nat)(g:List Int):Prop:=zSR v a g/\zSP v a g r/\(∀c p,c<i->p∈nbD v r c->g.getD r 0<=a.getD (Aa p.1) 0)/\∀p,p∈(nbD v r i).take k->g.getD r 0<=a.getD (Aa p.1) 0
theorem zQg{n:Ty.El zI}(J:qG n i g):
  Wp (zBF (g,())) (fun c=>c.length=(zV g).length/\∀r q,Con g r q->c.getD r 0=c.getD q 0):=by
 have h8:=uM J;unfold zBF;dsimp only;rw[show(Ab g.1.1:Nat)=(zV g).length from rfl];refine zB (zM (zQO (by omega)) ?_);refine zB ?_;refine zCS (n:=(zV g).length) (c:=fun _=>(((zV g).length:Nat):Int)) (by omega) (fun d (v:List Int)=>v.length=(zV g).length/\∀t,t<d->v.getD t 0=(t:Int)) ⟨cK,fun t y=>absurd y (cd _)⟩ (fun _ _ _=>rfl) ?_ ?_
 .rintro d v Y ⟨B,Z⟩;have L:d<v.length:=by omega
  refine zB (zM (zD9 L) ?_);refine zB (zM (show atN v (Aa (d:Int))=_ from by rw[aB];exact zFa L) ?_);refine zA (e2l ⟨rfl,by simp[B],fun t y=>?_⟩);rw[aB,zWD t (show t<v.length by omega)];split
  .rename_i h;rw[h]
  .exact Z t (by omega)
 rintro v ⟨B,Z⟩;refine zA (e2r ?_);have ab:zSR g v v:=⟨B,fun t y=>⟨t,[],0,Z t y,y,.nil⟩,fun _=>cX _⟩
 have ad:KnC g 0 v:=by
  intro s t w c hs y hw;generalize hk:t::w=m at y
  cases y with
  |nil=>
   obtain⟨rfl,rfl⟩:=bZ hk;rw[Z t hs];exact cX _
  |snoc e h1 M h3=>obtain⟨rfl,rfl⟩:=bZ hk;simp at hw
 refine zB ?_;refine zHw (n:=(zV g).length) (c:=fun _=>(((zV g).length:Nat):Int)) (by omega) (fun k (v:List Int)=>zSR g v v/\KnC g k v) ⟨ab,ad⟩ (fun _ _ _=>rfl) ?_ ?_
 .rintro k z hk ⟨hI,hK⟩;refine(zHw (n:=(zV g).length) (c:=fun _=>(((zV g).length:Nat):Int)) (by omega) (fun r (v:List Int)=>zSR g z v/\zSP g z v r) ⟨hI,fun e _ h=>absurd h (cd _)⟩ (fun _ _ _=>rfl) ?_ (fun v B=>B)).mono ?_
  .rintro r g1 hr ⟨f,C⟩;have j:(zV g)[r]?=Sa (zV g)[r]:=by simp[hr]
   generalize (zV g)[r]=ro at j;have ao:(wH ro).length<=20:=(J.s.sm ro (ae j)).i1;simp only[show idx g.1.1 (r:Int)=Sa ro from zO j,af];refine kZ (xs:=wH ro) (by omega) (fun d (v:List Int)=>zSR g z v/\zSP g z v r/\∀A p,A<d->p∈nbD g r A->v.getD r 0<=z.getD (Aa p.1) 0) ⟨f,C,fun A p h=>absurd h (cd _)⟩ ?_ ?_
   .rintro d x g2 hx ⟨D,E,F⟩;have ag:=(aa.1 hx).1;refine zB ((zJz g (r:Int) (d:Int) J.s).mono ?_);rintro nb rfl;have ap:=zNC J.s (r:Int) (d:Int) (fun e=>e.1 !=(r:Int));refine(zCS (Q:=NbI g z r d (nbD g r d).length) (n:=(nbD g r d).length) (c:=fun _=>(((nbD g r d).length:Nat):Int)) (by show Ab (zHQ _ _ _ _)<_;omega) (NbI g z r d) ⟨D,E,F,fun p h=>by simp at h⟩ (fun _ _ _=>rfl) ?_ ?_).mono ?_
    .rintro m a hm ⟨l,G,H,u⟩;have K:(nbD g r d)[m]?=Sa (nbD g r d)[m]:=by simp[hm]
     generalize (nbD g r d)[m]=p at K;have N:=ae K;obtain⟨al,O⟩:=qDE J N;have an:p.1=((Aa p.1:Nat):Int):=by have h0:(0:Int)<=p.1:=al;exact(bl h0).symm
     have P:r<a.length:=by rw[l.len];exact hr
     have S:Aa p.1<a.length:=by rw[l.len];exact O
     have eR:idx a (r:Int)=Sa (a.getD r 0):=zD9 P;have aR:atN a (Aa (r:Int))=Sa (a.getD r 0):=by rw[aB];exact zFa P
     have eQ:idx a p.1=Sa (a.getD (Aa p.1) 0):=by rw[an,aB];exact zD9 S
     have aQ:atN a (Aa p.1)=Sa (a.getD (Aa p.1) 0):=zFa S;refine zB (zM eR (zB (zM aR (zB (zM (zO K) (zB (zM eQ (zB (zM aQ (zB (zM eR (zB (zM aR ?_)))))))))))));obtain⟨s1,s2,s3⟩:=l.step j ag N rfl O;refine zA (e2l ⟨rfl,?_⟩);show zSR g z (a.set (Aa (r:Int)) _)/\_;rw[aB];refine⟨s1,G.low s2,fun A p' h1 M=>cg (s2 r) (H A p' h1 M),fun p' h=>?_⟩;rcases(yH K).1 h with h|rfl
     .exact cg (s2 r) (u p' h)
     .exact s3
    .exact fun v B=>zA (e2r B)
    .rintro a ⟨l,G,H,u⟩;rw[bU]at u;refine⟨l,G,fun A p h1 M=>?_⟩;by_cases Y:A=d
     .subst Y;exact u p M
     .exact H A p (by omega) M
   .rintro g2 ⟨D,E,F⟩;refine⟨D,fun e he hb=>?_⟩;by_cases I:e.b=r
    .obtain⟨r',d,av,p,W,Y,K,rfl⟩:=zGd.1 he;have I:r'=r:=I;subst I;rw[j]at W;cases W;exact F d p Y K
    .exact E e he (by omega)
  .rintro g1 ⟨f,C⟩;exact⟨⟨f.len,f.2,fun _=>cX _⟩,hK.round f C⟩
 .rintro v ⟨hI,hK⟩;refine zA ⟨hI.len,fun r q hC=>hC (fun t=>v.getD t 0) (qEq J hI hK)⟩
theorem zUY{n:Ty.El zI}(f:qG n i g)(u:(zV g)[j]?=Sa C):
  Wp (zBH (g,Ag (zV g).length [],(j:Int),())) (fun t=>(∀z,z∈t->psC g j z.1)/\t.length<=1048576):=by
 have B:=(aa.1 u).1;have H:=uM f;have e:Ab g.1.1=(zV g).length:=rfl;unfold zBH zRa;refine zIb ?_;unfold zCo;dsimp only;refine zB ?_;rw[show decide ((j:Int)< (0:Int))=Sc from decide_eq_false (by omega),show decide ((j:Int)>=((Ab g.1.1:Nat):Int))=Sc from decide_eq_false (by rw[e];omega)];simp only[cond_false];refine zA ?_;refine ff rfl ?_;have d:vX Sc (g,())=Sa (Sb,zAD g):=by show(zD8 g).map _=_;rw[zPB f (by omega)];rfl
 refine zB (zM d ?_);obtain⟨h,r,a,A⟩:=zSY f u;have k:jY Sb (zAD g,(j:Int),())=Sa (Sb,h):=by show(qF _).map _=_;rw[r];rfl
 refine zB (zM k ?_);refine zB ?_;have l:((Ab (Ag (zV g).length ([]:List (Ty.El zC))):Nat):Int)=((zV g).length:Int):=by rw[cK]
 refine zHw (n:=(zV g).length) (c:=fun _=>(if((Ab g.1.1:Nat):Int)< ((Ab (Ag (zV g).length ([]:List (Ty.El zC))):Nat):Int)then((Ab g.1.1:Nat):Int)else((Ab (Ag (zV g).length ([]:List (Ty.El zC))):Nat):Int))) (by omega) (fun _ (v:List (Ty.El zC)×Bool)=>v=(h,Sb)) rfl (fun _ _ _=>by rw[l,e];simp) ?_ ?_
 .rintro q v D rfl;have m:(Ag (zV g).length ([]:List (Ty.El zC)))[q]?=Sa []:=by simp[D]
  exact zB (zM (zO m) (zA rfl))
 .rintro v rfl;refine zB ((zD0 h (by omega) (fun x p=>qAK f (a x p)) (fun x y p E=>zCh x y (a x p).proto (a y E).proto)).mono ?_);rintro z rfl;refine zA ⟨fun z F=>?_,aj (zMj h) (by omega)⟩;obtain⟨b,G,rfl⟩:=zXi F;exact(a b G).pre
theorem zWA(c:qG l i g)(d:j< (zV g).length)(r:J< (zV g).length):
  Wp (xF (g,(j:Int),(J:Int),())) (fun z=>z.2.2.1=Sb->Con g j J):=by
 have a:Ab g.1.1=(zV g).length:=rfl;have n:=uM c;unfold xF zRa;refine zIb ?_;unfold zDf;dsimp only;refine zB ?_
 rw[show decide ((j:Int)< (0:Int))=Sc from decide_eq_false (by omega),show decide ((j:Int)>=((Ab g.1.1:Nat):Int))=Sc from decide_eq_false (by rw[a];omega),
  show decide ((J:Int)< (0:Int))=Sc from decide_eq_false (by omega),show decide ((J:Int)>=((Ab g.1.1:Nat):Int))=Sc from decide_eq_false (by rw[a];omega)]
 simp only[cond_false];refine zA ?_;refine ff rfl ?_;have e:vX Sc (g,())=Sa (Sb,zAD g):=by show(zD8 g).map _=_;rw[zPB c (by omega)];rfl
 refine zB (zM e ?_);obtain⟨z,k,f⟩:=zYI c d r;have v:wQ Sb (zAD g,(j:Int),(J:Int),())=Sa (Sb,z):=by show(qM _).map _=_;rw[k];rfl
 exact zB (zM v (zA (fun h=>(f h).2.2.2.1.2)))
theorem zV5{L:Nat}{e f:Bool}{cnd:Int×Bool->Option Bool}{a:Int×Bool->Option ((Int×Bool) ⊕ Bool)}{W:Nat->Prop}(C:L<0x4000000000000000)
  (r:∀(i:Nat) b,i<=L->cnd ((i:Int),b)=Sa (e&&decide ((i:Int)< (L:Int))))
  (step:∀(i:Nat) b,i<L->Wp (a ((i:Int),b)) (vH (fun s=>s.1=Ad .i64 ((i:Int)+1)/\(b=Sb->s.2=Sb)/\(W i->s.2=Sb)) (fun _=>False))):
  Wp (zR (fun s=>Ae (cnd s) fun t=>bif t then a s else Sa (Sum.inr s.2)) ((0:Int),f)) (fun b=>(f=Sb->b=Sb)/\(e=Sb->∀i,i<L->W i->b=Sb)):=by
 refine kY (fun(s:Int×Bool)=>∃i:Nat,s.1=(i:Int)/\i<=L/\(f=Sb->s.2=Sb)/\∀j,j<i->W j->s.2=Sb) (fun s=>((L:Int) -s.1).toNat) ⟨0,rfl,aW _,fun h=>h,fun j h=>absurd h (cd _)⟩ ?_;rintro⟨s,b⟩ ⟨i,n,g,k,l⟩;simp only at n k l;subst n;refine zB (zM (r i b g) ?_);refine zH (fun u=>?_) (fun y=>zA (e2r ⟨k,fun z j A d=>?_⟩))
 .rw[am,decide_eq_true_eq]at u;have hlt:i<L:=by omega
  refine(step i b hlt).mono ?_;rintro(⟨D,E⟩|x) p
  .obtain⟨rfl,q,B⟩:=p;have d:Ad .i64 ((i:Int)+1)=((i+1:Nat):Int):=zJ (by omega) (by omega);refine e2l ⟨⟨i+1,d,hlt,fun h=>q (k h),fun j A c=>?_⟩,?_⟩
   .by_cases m:j=i
    .subst m;exact B c
    .exact q (l j (by omega) c)
   .simp only[d];omega
  .exact p.elim
 .rw[z,bR,decide_eq_false_iff_not]at y;exact l j (by omega) d
theorem zK9(n:Ty.El zI)(d:List Int):Wp (x8 (n,d,())) (fun b=>b=Sb):=by
 unfold x8;dsimp only;refine zB ((zRg n d).mono ?_);rintro⟨v,ok,⟨⟩⟩ l;simp only at l;refine zH (fun _=>zA rfl) (fun Z=>?_);have l:=l (by simpa using Z);have h8:=uM l;have ab:n.1=zV v:=by unfold zV;rw[l.net]
 rw[ab];refine zB ((zQg l).mono ?_);rintro c ⟨av,G⟩;have p:∀q,q< (zV v).length->idx c (q:Int)=Sa (c.getD q 0):=fun q hq=>zD9 (by omega);refine zA1 (xs:=zV v) (by omega) (fun _=>True) trivial ?_ (fun _=>zB (zA (zA rfl)));intro r ro hr _;have B:=(aa.1 hr).1;refine wU ?_;refine zA1 (xs:=zV v) (by omega) (fun _=>True) trivial ?_ (fun _=>?_)
 .intro q qo hq _;have H:=(aa.1 hq).1;refine zB ((zWA l B H).mono ?_);intro z hz;refine zB ((show Wp _ (fun s:Bool=>s=Sc)from ?_).mono (fun s I=>ff I (zA (e2l ⟨rfl,trivial⟩))));refine zH (fun ad=>?_) (fun _=>zA rfl);refine zB (zM (p r B) (zB (zM (p q H) (zA ?_))));rw[G r q (hz ad)];simp
 .refine zB (zM (zQO (by omega)) ?_);refine zB ((zUY l hr).mono ?_);rintro t ⟨ht,ag⟩;have ap:Ab t<=1048576:=ag;refine zV6 (xs:=t) (by omega) (fun _=>True) trivial ?_ (fun _=>zA (e2l ⟨rfl,trivial⟩));intro i x hx _;obtain⟨J,qo,C,hC,K⟩:=ht x (ae hx);refine wU (zB ((show Wp _ (fun b:Bool=>b=Sb)from ?_).mono (fun b M=>ff (by rw[M];rfl) (zA (e2l (zA (e2l ⟨rfl,trivial⟩)))))));refine kZ (xs:=zV v) (by omega) (fun k (b:Bool)=>J<k->b=Sb) (fun h=>absurd h (cd _)) ?_ (fun b M=>M (aa.1 C).1);intro k f b N M;have al:=(aa.1 N).1;have ax:(wH f).length<=20:=(l.s.sm f (ae N)).i1;have ay:=zU7 l N;have A:∀(L:Nat) (i:Nat),Ae (idx c (k:Int)) (fun O:Int=>Ae (idx c (r:Int)) fun P:Int=>bif O==P then Sa (decide ((i:Int)< (L:Int)))else Sa Sc)=Sa ((c.getD k 0==c.getD r 0)&&decide ((i:Int)< (L:Int))):=by intro L i;rw[p k al,p r B];simp only[af];cases (c.getD k 0==c.getD r 0)<;>rfl
  simp only[zO N,af];refine zB ((zV5 (L:=(wH f).length) (e:=c.getD k 0==c.getD r 0) (W:=fun i=>∃y,(wH f)[i]?=Sa y/\upB v (k:Int) (i:Int)=Sb/\x.1=kX (qJ y) (jR y)) (by omega) (fun j b _=>A (wH f).length j) ?_).mono ?_)
  .intro j Q hj;have D:(wH f)[j]?=Sa (wH f)[j]:=by simp[hj]
   generalize (wH f)[j]=y at D;refine zB (zM (zO D) ?_);refine zB ((show Wp _ (fun s:Bool=>(Q=Sb->s=Sb)/\((∃y,(wH f)[j]?=Sa y/\upB v (k:Int) (j:Int)=Sb/\x.1=kX (qJ y) (jR y))->s=Sb))from ?_).mono (fun s I=>zA (e2l ⟨rfl,I⟩)));refine zH (fun _=>zA ⟨fun _=>rfl,fun _=>rfl⟩) (fun a=>?_);have a:Q=false:=a;refine zB ((zLm v k j l.s).mono (fun u hu=>?_));subst hu;refine zH (fun a0=>?_) (fun an=>zA ⟨fun h=>absurd (a▸h) (by simp),fun⟨y',_,h,_⟩=>absurd h (by simp[an])⟩);refine zB (zM (xH _ _) (zB (zM (zO hx) (zA ⟨fun h=>absurd (a▸h) (by simp),?_⟩))));rintro⟨y',m,_,E⟩;rw[D]at m;cases m;exact uT.2 E.symm
  .intro b1 S;refine(zV5 (L:=(zAP f).length) (e:=c.getD k 0==c.getD r 0) (W:=fun i=>∃g,(zAP f)[i]?=Sa g/\x.1=g.2.1) (by omega) (fun j b _=>A (zAP f).length j) ?_).mono ?_
   .intro j Q hj;have D:(zAP f)[j]?=Sa (zAP f)[j]:=by simp[hj]
    generalize (zAP f)[j]=y at D;refine zB ((show Wp _ (fun s:Bool=>(Q=Sb->s=Sb)/\((∃g,(zAP f)[j]?=Sa g/\x.1=g.2.1)->s=Sb))from ?_).mono (fun s I=>zA (e2l ⟨rfl,I⟩)));refine zH (fun _=>zA ⟨fun _=>rfl,fun _=>rfl⟩) (fun a=>?_);have a:Q=false:=a;refine zB (zM (zO D) (zB (zM (zO hx) (zA ⟨fun h=>absurd (a▸h) (by simp),?_⟩))));rintro⟨y',m,E⟩;rw[D]at m;cases m;exact uT.2 E.symm
   .intro b2 F a1;by_cases hlt:J<k
    .exact F.1 (S.1 (M hlt))
    have ao:J=k:=by omega
    subst ao;rw[N]at C;cases C;have he:(c.getD J 0==c.getD r 0)=true:=by rw[G r J hC];simp
    rcases K with⟨i',y,m,E,h3⟩|⟨g,m,E⟩
    .exact F.1 (S.2 he i' (aa.1 m).1 ⟨y,m,E,h3⟩)
    .obtain⟨i',Y⟩:=bQ m;exact F.2 he i' (aa.1 Y).1 ⟨g,Y,E⟩
theorem zH8:∀x:ElS [zI,.sl tI],qAQ 1048576 [zI,.sl tI] x->x8 x=Sa true:=by rintro⟨n,d,⟨⟩⟩ _;exact vB (zK9 n d)
end Go.Ve
