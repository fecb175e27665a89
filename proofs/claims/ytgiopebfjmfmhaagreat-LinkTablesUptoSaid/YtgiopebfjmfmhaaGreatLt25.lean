/- law16 -/
import Derived.Test.YtgiopebfjmfmhaaGreatLt23
import Derived.Test.YtgiopebfjmfmhaaGreatLt21
import Derived.Test.YtgiopebfjmfmhaaGreatLt13
set_option linter.unusedVariables false
open Option renaming some->Sa
open Bool renaming true->Sb,false->Sc
open List renaming length->Aa,range->Ad,length_filterMap_le->Af,pairwise_iff_getElem->Ag,set_getElem_self->Ah,nodup_nil->Ai,nodup_append->Ak,range_succ->Al,zipIdx_map->Am,length_map->An
open Int renaming toNat->Ab
open Go.IntKind renaming wrap->Ac
open Option renaming bind->Ae,isNone_some->Aj
set_option maxRecDepth 1000000
set_option maxHeartbeats 4000000
namespace Go.Ve
open Go Go.Proofs
theorem zVo{α β:Type}{f:α->Option β}{P:α->β->Prop}:∀(xs:List α),(∀x,x∈xs->Wp (f x) (P x))->Wp (zCw f xs) (fun a=>a.length=xs.length/\∀(i:Nat) x y,xs[i]?=Sa x->a[i]?=Sa y->P x y)
 |[],_=>zA ⟨rfl,fun i x y h=>by simp at h⟩
 |x::r,h=>by obtain⟨y,g,j⟩:=h x (by simp);obtain⟨a,c,d,k⟩:=zVo r (fun z e=>h z (aw _ e));refine⟨y::a,?_,by simp[d],?_⟩;all_goals grind[zCw]
variable {a1:List Arc}{a0:List Nat}{g i:Nat}
theorem zAe.cost{M:Nat}(hE:∀e,e∈a1->e.c<=M)(h:zAe a1 g a0 i):i+M<=a0.length*M:=by
 induction h with
 |nil=>simp
 |snoc e a d f E=>
  grind[List.length_cons,Nat.succ_mul]
theorem zAe.first{c:Nat}(h:zAe a1 g (i::a0) c):(i=g/\a0=[]/\c=0)\/∃e f d,e∈a1/\e.a=g/\zAe a1 e.b (i::f) d/\c=e.c+d:=by
 generalize j:i::a0=m at h
 induction h generalizing i a0 with
 |nil=>grind
 | @snoc y u x e z E s k=>
  obtain⟨rfl,rfl⟩:=cS j;right;rcases k rfl with⟨rfl,rfl,rfl⟩|⟨n,f,d,p,q,r,A⟩
  .exact⟨e,[],0,E,s,.nil,by omega⟩
  .exact⟨n,y::f,d+e.c,p,q,.snoc e r E s,by omega⟩
theorem zAe.cons{e:Arc}(l:e∈a1)(h:zAe a1 e.b (g::a0) i):∃d,zAe a1 e.a (g::d) (e.c+i):=by
 generalize f:g::a0=m at h
 induction h generalizing g a0 with
 |nil=>
  obtain⟨rfl,rfl⟩:=cS f;have:=zAe.snoc (E:=a1) (s:=e.a) (l:=[]) e .nil l rfl
  grind
 | @snoc y q r j u k n p=>obtain⟨rfl,rfl⟩:=cS f;obtain⟨d,E⟩:=p rfl;exact⟨y::d,by rw[<-bx];exact .snoc j E k n⟩
noncomputable def zGy(n:Nat)(es:List (Ty.El qD))(s:Nat):List Int:=(jH ((n:Int),es,(s:Int),())).getD []
theorem zI1{es:List (Ty.El qD)}(a:g<=64)(c:es.length<=1048576)(e:i<g):jH ((g:Int),es,(i:Int),())=Sa (zGy g es i)/\Dst (zI9 g es) g i (zGy g es i):=by
 obtain⟨d,f,n⟩:=zMm g es i a c e;unfold zGy
 grind
variable {P:List (Ty.El qD)}
theorem zU8(a:g<=64)(c:P.length<=1048576)(d:i<g):zHE (g:Int) P (i:Int)=Sa (zGy g P i):=by obtain⟨e,f⟩:=zI1 a c d;unfold zHE;rw[e,af,if_pos (by rw[aC];exact f.1)]
variable {C:List Int}
theorem Dst.bnd(c:i<g)(h:Dst (zI9 g P) g i C){t:Nat}(f:t<g): -1<=C.getD t 0/\C.getD t 0+16777215<=(g:Int)*16777215:=by
 rcases h.2 t f with⟨n,_⟩|⟨k,n,⟨l,es⟩,j⟩
 .omega
 .obtain⟨q,r,a,u,m⟩:=es.short;have x:=j _ _ a;have y:=zZD g _ (a.lt (fun e p=>(qBF e p).2) c) m;have z:=a.cost (M:=16777215) qFe;omega
theorem zOz{α:Type}(eq:α->α->Bool):∀l:List α,(kQ eq l).length<=l.length
 |[]=>aj _
 |[_]=>aj _
 |x::y::r=>by
  have:=zOz eq (y::r);simp only[kQ]
  grind
def zWH(l:List (Ty.El zP))(xs:List (Ty.El zP)):Prop:=l.Pairwise hlt/\l.length<=xs.length/\∀h,h∈l↔h∈xs
theorem zRo(xs:List (Ty.El zP))(c:xs.length<1099511627776):Wp (Ae (jG xs ((),())) fun y=>jB y.1 ()) (fun l=>zWH l xs):=by
 obtain⟨a,d,e⟩:=zRO xs;have f:jG xs ((),())=Sa (if xs=[]then[]else srt zOg xs,()):=by unfold jG;rw[if_pos c]
 refine zB (zK f ?_);unfold jB;rw[if_pos (by rw[e];exact c)];refine zA ⟨zFh zKr zHa (fun _ _ a d=>zZW a d) _ a,?_,fun h=>?_⟩;all_goals grind[Nat.le_trans,zOz,Nat.le_of_eq,zDz,zKr]
def zKQ(n:Nat)(es:List (Ty.El qD))(r i:Nat)(h:Ty.El zP):Prop:=
 i≠r/\∃e,e∈es/\zH8 n e=Sb/\eA e=(r:Int)/\0<=(zGy n es (eB e).toNat).getD i 0/\eC e+(zGy n es (eB e).toNat).getD i 0=(zGy n es r).getD i 0/\e.2.2.2.1=h
theorem zTv(n:Nat)(es:List (Ty.El qD))(r:Nat)(m:n<=64)(A:es.length<=1048576)(hr:r<n):
  Wp (zC8 ((n:Int),es,(r:Int),())) (fun p=>p.length=n/\∀i l,p[i]?=Sa l->l.Pairwise hlt/\l.length<=es.length/\∀h,h∈l↔zKQ n es r i h):=by
 unfold zC8;refine zB (zK (zJV n m) ?_);have d:¬((n:Int)<=0\/1048576<es.length):=by omega
 rw[if_neg d];refine zB (zK (zU8 m A hr) ?_);refine zB ((zVo (P:=fun e (y:Ty.El qD×Option (List Int))=>y.1=e/\y.2=if zH8 n e=Sb/\eA e=(r:Int)then Sa (zGy n es (eB e).toNat)else none) es ?_).mono ?_)
 .intro e K;refine zB (zK (zJe e n) ?_);refine zF (fun h=>?_) (fun h=>?_)
  .obtain⟨q,t⟩:=(ak _ _).mp h;have t:eA e=(r:Int):=of_decide_eq_true t;obtain⟨L,M,B,N,O,Q⟩:=zER q;rw[if_pos ⟨q,t⟩];have hB:e.2.1=(((eB e).toNat:Nat):Int):=(bl B).symm;refine zIp (zK (x:=zGy n es (eB e).toNat) ?_ ⟨rfl,rfl⟩)
   grind[zU8]
  .refine zA ⟨rfl,?_⟩;rw[if_neg];simp_all[bH,of_decide_eq_false,decide,eA]
 .rintro c ⟨ab,S⟩;rw[aC]
  have W:∀i,i<n->∀h,h∈zDq (r:Int) (zGy n es r) c i↔zKQ n es r i h:=by
   intro i g h;unfold zDq;rw[bu];constructor
   .rintro⟨y,D,a⟩;obtain⟨j,E,rfl⟩:=aB D;have f:j<es.length:=by omega
    obtain⟨u,Y⟩:=S j es[j] c[j] (by simp[f]) (by simp[E]);rw[Y]at a;by_cases z:zH8 n es[j]=Sb/\eA es[j]=(r:Int)
    .obtain⟨L,M,B,N,O,Q⟩:=zER z.1;rw[if_pos z]at a;simp only at a;have F:=((zI1 m A (show(eB es[j]).toNat<n by omega)).2).bnd (by omega) g;have Z:Ac .i64 (eC es[j]+(zGy n es (eB es[j]).toNat).getD i 0)=eC es[j]+(zGy n es (eB es[j]).toNat).getD i 0:=zH (by omega) (by omega);have k:c[j].1.2.2.1=eC es[j]:=by rw[u];rfl
     rw[k,Z]at a;generalize hC:(decide ((i:Int)≠(r:Int))&&(decide ((zGy n es (eB es[j]).toNat).getD i 0>=0)&&(eC es[j]+(zGy n es (eB es[j]).toNat).getD i 0==(zGy n es r).getD i 0)))=C at a
     cases C with
     |false=>cases a
     |true=>rw[ak,ak]at hC;obtain⟨G,H,I⟩:=hC;have G:=of_decide_eq_true G;have H:=of_decide_eq_true H;have I:=eq_of_beq I;have a:Sa c[j].1.2.2.2.1=Sa h:=a;rw[u]at a;exact⟨fun h=>G (by rw[h]),es[j],aY _,z.1,z.2,H,I,aZ a⟩
    grind
   .rintro⟨ad,e,K,q,t,h0,p,rfl⟩;obtain⟨j,E,rfl⟩:=aB K;have f:j<c.length:=by omega
    obtain⟨u,Y⟩:=S j es[j] c[j] (by simp[E]) (by simp[f]);refine⟨c[j],aY _,?_⟩;obtain⟨L,M,B,N,O,Q⟩:=zER q;have F:=((zI1 m A (show(eB es[j]).toNat<n by omega)).2).bnd (by omega) g;have Z:Ac .i64 (eC es[j]+(zGy n es (eB es[j]).toNat).getD i 0)=eC es[j]+(zGy n es (eB es[j]).toNat).getD i 0:=zH (by omega) (by omega);have k:c[j].1.2.2.1=eC es[j]:=by rw[u];rfl
    grind
  refine(zVo (P:=fun i l=>zWH l (zDq (r:Int) (zGy n es r) c i)) (Ad n) ?_).mono ?_
  .intro i g;refine zRo _ ?_
   grind[Af,zDq,zGy]
  .rintro p ⟨h1,h2⟩;rw[b6]at h1;refine⟨h1,fun i l g=>?_⟩
   have J:i<n:=by
    grind
   obtain⟨k1,k2,k3⟩:=h2 i i l (bj J) g
   grind[Af,zDq,zGy]
theorem qCD{r:Nat}(j:g<=64)(m:P.length<=1048576)(x:i<g)(hi:r<g)(d:r≠i)(I:0<=(zGy g P i).getD r 0):∃h,zKQ g P i r h:=by
 have y:=(zI1 j m x).2;rcases y.2 r hi with⟨z,_⟩|⟨k,z,⟨l,A⟩,J⟩
 .omega
 .rcases A.first with⟨h,_⟩|⟨a,K,L,p,M,q,N⟩
  .omega
  .obtain⟨e,B,rfl⟩:=aQ.1 p;obtain⟨f,t⟩:=aW.1 B;obtain⟨O,es,Q,S,W,Y⟩:=zER t;have C:(zGB e).b=(eB e).toNat:=rfl;have Z:(zGB e).a=(eA e).toNat:=rfl;have hc:((zGB e).c:Int)=eC e:=bl (by omega);have n:=(zI1 j m (show(eB e).toNat<g by omega)).2;refine⟨e.2.2.2.1,d,e,f,t,by omega,?_⟩;rw[C]at q;rcases n.2 r hi with⟨D,u⟩|⟨E,D,⟨F,u⟩,G⟩
   .grind
   .have H:=G _ _ q;obtain⟨l3,q4⟩:=zAe.cons p (show zAe (zI9 g P) (zGB e).b (r::F) E from u)
    grind
def zQ1(a:Ty.El zG):Bool:=a.2.2.2.2.2.2.2.2.1.1
abbrev zN7(a:Ty.El zG):Int:=a.2.2.2.2.2.2.2.2.1.2.1
abbrev zAI(a:Ty.El zG):List (Ty.El vY):=a.2.2.2.2.2.2.2.2.1.2.2.1
abbrev xLS(x:Ty.El zZ):Bool:=x.2.2.2.2.2.1
def tpB(v:Ty.El zI)(r i:Nat):Bool:=match(z8 v)[r]? with
 |some a=>match(vZ a)[i]? with
  |some x=>zQ1 a&&(xLS x&&upB v (r:Int) (i:Int))
  |none=>Sc
 |none=>Sc
variable {I:Ty.El zG}{j:Ty.El zI}{l:Ty.El zZ}
theorem qDl(c:(z8 j)[g]?=Sa I)(d:(vZ I)[i]?=Sa l):tpB j g i=(zQ1 I&&(xLS l&&upB j (g:Int) (i:Int))):=by simp_all[tpB]
theorem zHR(c:(z8 j)[g]?=Sa I)(d:(vZ I)[i]?=Sa l):vJ (j,(g:Int),(i:Int),())=Sa (l,Sb,()):=by refine jS ?_;unfold vJ;have e:=(aa.1 c).1;have f:=(aa.1 d).1;have r:decide ((g:Int)< (0:Int))=false:=decide_eq_false (by omega);have h:decide ((g:Int)>=((Aa j.1.1:Nat):Int))=false:=decide_eq_false (by grind);have v:decide ((i:Int)< (0:Int))=false:=decide_eq_false (by omega);have k:decide ((i:Int)>=((Aa I.2.2.1:Nat):Int))=false:=decide_eq_false (by grind);refine zB ?_;simp only[r,h,v,cond_false];refine zB (zK (zM c) (zA ?_));simp only[k,cond_false];exact zB (zK (zM c) (zB (zK (zM d) (zA rfl))))
theorem zF9(e:zFz j)(c:(z8 j)[g]?=Sa I)(d:(vZ I)[i]?=Sa l)(area:Int):
  wF (j,(g:Int),(i:Int),area,())=Sa (tpB j g i&&(wL l==area)):=by
 refine jS ?_;unfold wF;refine zB (zK (zHR c d) ?_);rw[qDl c d];refine zB ?_;simp only[cond_true];refine zB (zK (zM c) ?_);unfold zQ1
 cases h:I.2.2.2.2.2.2.2.2.1.1 with
 |false=>simp_all[zA]
 |true=>
  cases f:xLS l with
  |false=>simp_all[cond_true,zA]
  |true=>
   simp only[cond_true];rw[show l.2.2.2.2.2.1=Sb from f];simp only[cond_true]
   cases v:(wL l==area)with
   |false=>simp_all[zA]
   |true=>simp only[cond_true];refine zB ((zIz j g i e).mono (fun b r=>zA (zA ?_)));rw[r];simp
abbrev zVS(v:Ty.El zI)(r i:Nat):List (Ty.El zR):=zLx v (r:Int) (i:Int) (fun e=>e.1 !=(r:Int)||e.2.1 !=(i:Int))
def zKy(v:Ty.El zI)(r i:Nat)(x:Ty.El zZ)(area:Int)(e:Ty.El zR):Option (Ty.El qD):=
 match(z8 v)[Ab e.1]? with
 |some q=>match(vZ q)[Ab e.2.1]? with
  |some y=>if(tpB v (Ab e.1) (Ab e.2.1)&&(wL y==area))=Sb then Sa ((r:Int),e.1,vP x,((i:Int),qJ y,()),())else none
  |none=>none
 |none=>none
def zHA(v:Ty.El zI)(r:Nat)(a:Ty.El zG)(area:Int)(i:Nat):List (Ty.El qD):=
 match(vZ a)[i]? with
 |some x=>if(tpB v r i&&(wL x==area))=Sb then(zVS v r i).filterMap (zKy v r i x area)else[]
 |none=>[]
def zKx(v:Ty.El zI)(area:Int)(r:Nat):List (Ty.El qD):=
 match(z8 v)[r]? with
 |some a=>(Ad (vZ a).length).flatMap (zHA v r a area)
 |none=>[]
def zEm(v:Ty.El zI)(area:Int):List (Ty.El qD):=(Ad (z8 v).length).flatMap (zKx v area)
variable {J:Ty.El zJ}
theorem qEg(c:qE J C j){e:Ty.El zR}(h:e∈zVS j g i):
  (0:Int)<=e.1/\(0:Int)<=e.2.1/\∃q y,(z8 j)[Ab e.1]?=Sa q/\(vZ q)[Ab e.2.1]?=Sa y:=by
 have a:upB j (g:Int) (i:Int)=true:=by
  unfold zVS zLx at h
  grind
 obtain⟨f,_,d⟩:=zWf c a;have:zIo J f.1 f.2.1 e:=by simp_all[aW,zVS,zLx]
 obtain⟨n,k,q,y,l,m,_⟩:=this;refine⟨n,k,q,y,?_,m⟩;show j.1.1[Ab e.1]?=Sa q;rw[c.net];exact l
theorem zGu{α:Type}{f:Nat->List α}{m:Nat}(h:∀i,(f i).length<=m):∀k,((Ad k).flatMap f).length<=k*m
 |0=>by simp
 |k+1=>by
  have:=zGu h k
  grind[Al,List.length_append,Nat.succ_mul]
theorem zS0(c:zFz j)(r:Nat)(a:Ty.El zG)(area:Int)(i:Nat):(zHA j r a area i).length<=360:=by
 unfold zHA;split
 .split;all_goals grind[Nat.le_trans,Af,zN4]
 .simp
theorem zSZ(c:zFz j)(area:Int)(r:Nat):(zKx j area r).length<=7200:=by
 unfold zKx;split
 .rename_i a d;have e:=(c.sm a (ae d)).i1;have g:=zGu (f:=zHA j r a area) (m:=360) (fun i=>zS0 c r a area i) (vZ a).length
  grind
 .simp
theorem zIY(a:zFz j)(area:Int):(zEm j area).length<=64800:=by have d:=zGu (f:=zKx j area) (m:=7200) (fun i=>zSZ a area i) (z8 j).length;have c:=a.rs;have:(z8 j).length*7200<=9*7200:=aq _ c;unfold zEm;omega
theorem zPr{α:Type}(f:Nat->List α)(k:Nat):(Ad (k+1)).flatMap f=(Ad k).flatMap f++f k:=by rw[dG,List.flatMap_append];simp
theorem zSI{α β:Type}(f:α->Option β){xs:List α}{x:α}(h:xs[g]?=Sa x):(xs.take (g+1)).filterMap f=(xs.take g).filterMap f++(f x).toList:=by
 grind[List.take_add_one,Option.toList_some]
theorem zJX(L:qE J C j)(area:Int):jD (j,area,())=Sa (zEm j area):=by
 have l:=L.s;refine jS ?_;unfold jD;have W:=l.rs;refine zB (uO (xs:=j.1.1) (by omega) (fun k (g:List (Ty.El qD))=>g=(Ad k).flatMap (zKx j area)) rfl ?_ (fun g B=>zA B));intro r p g d B
 have Y:g.length<=9*7200:=by
  rw[B];refine ai (zGu (fun i=>zSZ l area i) r) (aq _ ?_)
  grind
 refine zB (zK (zM d) ?_);have D:(vZ p).length<=20:=(l.sm p (ae d)).i1;have N:p.2.2.1.length<=20:=D;refine uO (xs:=p.2.2.1) (by omega) (fun k (z:List (Ty.El qD))=>z=g++(Ad k).flatMap (zHA j r p area)) (by simp) ?_ (fun z t=>?_)
 .intro i x z E t;have O:z.length<=9*7200+7200:=by rw[t,aO];have h1:=zGu (f:=zHA j r p area) (m:=360) (fun i=>zS0 l r p area i) i;have h2:=(aa.1 E).1;omega
  refine zB (zK (zM E) ?_);refine zB (zK (zF9 l d E area) ?_);rw[zPr,<-co,<-t];have F:zHA j r p area i=if(tpB j r i&&(wL x==area))=Sb then(zVS j r i).filterMap (zKy j r i x area)else[]:=by simp_all[zHA]
  rw[F]
  cases Z:(tpB j r i&&(wL x==area))with
  |false=>exact zA (by simp)
  |true=>
   simp only[bG,cond_false,if_true];refine zB ((zLi j r i l).mono (fun u a=>?_));have ab:u.length<=360:=by rw[a];exact zN4 l _ _ _
   have a:u=zVS j r i:=a;rw[<-a];refine uO (xs:=u) (by omega) (fun k (h:List (Ty.El qD))=>h=z++(u.take k).filterMap (zKy j r i x area)) (by simp) ?_ (fun h c=>by simp_all);intro v e h G c;have H:h.length<=9*7200+7200+360:=by rw[c,aO];have:=bO (zKy j r i x area) (u.take v);have:=List.length_take_le' v u;omega
   obtain⟨a0,a1,q,y,I,n⟩:=qEg L (a▸ae G);have P:e.1=((Ab e.1:Nat):Int):=(bl a0).symm;have Q:e.2.1=((Ab e.2.1:Nat):Int):=(bl a1).symm;refine zB (zK (zM G) ?_);have S:=zF9 l I n area;rw[<-P,<-Q]at S;refine zB (zK S ?_);rw[zSI _ G,<-co,<-c];have K:zKy j r i x area e=if(tpB j (Ab e.1) (Ab e.2.1)&&(wL y==area))=Sb then Sa ((r:Int),e.1,vP x,((i:Int),qJ y,()),())else none:=by unfold zKy;rw[I];simp only;rw[n]
   rw[K]
   cases ad:(tpB j (Ab e.1) (Ab e.2.1)&&(wL y==area))with
   |false=>exact zA (by simp)
   |true=>simp only[bG,cond_false,if_true];have A:=zHR I n;rw[<-P,<-Q]at A;refine zB (zK A ?_);refine zB (xZ (by simp;omega) (zA ?_));rfl
 simp_all[zPr,zKx,z8]
structure qFp(v:Ty.El zI)(area:Int)(r i:Nat)(ro:Ty.El zG)(x:Ty.El zZ)(q j:Nat)(qo:Ty.El zG)(y:Ty.El zZ):Prop where
 hr:(z8 v)[r]?=Sa ro
 hx:(vZ ro)[i]?=Sa x
 tx:tpB v r i=Sb
 ax:wL x=area
 nb:(((q:Int),(j:Int),()):Ty.El zR)∈zVS v r i
 hq:(z8 v)[q]?=Sa qo
 hy:(vZ qo)[j]?=Sa y
 ty:tpB v q j=Sb
 ay:wL y=area
theorem zZN(u:qE J C j){area:Int}{e:Ty.El qD}:
  e∈zEm j area↔ ∃r i g x q d k y,qFp j area r i g x q d k y/\e=((r:Int),(q:Int),vP x,((i:Int),qJ y,()),()):=by
 unfold zEm;rw[bW];constructor
 .rintro⟨r,_,a⟩;unfold zKx at a;split at a
  .rename_i g z;obtain⟨i,_,a⟩:=bW.1 a;unfold zHA at a;split at a
   .rename_i x A;split at a
    .rename_i l;obtain⟨f,m,a⟩:=bu.1 a;obtain⟨B,n,k,y,p,t⟩:=qEg u m;unfold zKy at a;rw[p]at a;simp only at a;rw[t]at a;simp only at a;split at a
     .rename_i c;rw[ak,beq_iff_eq]at l c;have D:((Ab f.1:Nat):Int)=f.1:=bl B;have E:((Ab f.2.1:Nat):Int)=f.2.1:=bl n;refine⟨r,i,g,x,Ab f.1,Ab f.2.1,k,y,⟨z,A,l.1,l.2,?_,p,t,c.1,c.2⟩,?_⟩;all_goals grind
     .cases a
    .cases a
   .cases a
  .cases a
 .rintro⟨r,i,g,x,q,d,k,y,h,rfl⟩;refine⟨r,aV.2 (aa.1 h.hr).1,?_⟩;unfold zKx;rw[h.hr];refine bW.2 ⟨i,aV.2 (aa.1 h.hx).1,?_⟩;unfold zHA;rw[h.hx];simp only;rw[if_pos (by rw[h.tx,h.ax];simp)];refine bu.2 ⟨_,h.nb,?_⟩;unfold zKy;simp only[aC];rw[h.hq];simp only;rw[h.hy];simp only;rw[if_pos (by rw[h.ty,h.ay];simp)]
theorem zP3(c:(z8 j)[g]?=Sa I)(d:(vZ I)[i]?=Sa l)(h:tpB j g i=Sb):zQ1 I=Sb/\xLS l=Sb/\upB j (g:Int) (i:Int)=true:=by simp_all[qDl,ak]
theorem qEp(c:qE J C j)(e:(z8 j)[g]?=Sa I)(f:(vZ I)[i]?=Sa l)(h:xLS l=Sb):(0<=wL l/\wL l<=255)/\1<=vP l/\vP l<=65535:=by
 have n:I∈J.1:=by have:=ae e;unfold z8 at this;rw[c.net]at this;exact this
 exact(((zHt c).rt I n).ifs i l f).ls h
end Go.Ve
namespace Go.Ve
noncomputable section
open Go Go.Proofs
abbrev PT:=Nat×Int×(Int×Int×Int×Int)
def qB7(a:Nat->Bool)(r:Nat)(xs:List (Ty.El zZ))(i:Nat):Option PT:=match xs[i]? with
 |some x=>if a i then Sa (r,wL x,((r:Int),(kF (qJ x) (jZ x)).1,(kF (qJ x) (jZ x)).2.1,vP x))else none
 |none=>none
def zTG(a:Nat->Bool)(r:Nat)(xs:List (Ty.El zZ))(k:Nat):List PT:=(Ad k).filterMap (qB7 a r xs)
def qDX(c:Nat->Nat->Bool)(a:List (List (Ty.El zZ)))(k:Nat):List PT:=(Ad k).flatMap fun r=>zTG (c r) r (a.getD r []) (a.getD r []).length
theorem zUE{α:Type}{l:List α}(h:l.Nodup){i j:Nat}(hi:i<l.length)(a:j<l.length)(c:l[i]=l[j]):i=j:=by
 grind[Nat.lt_trichotomy,Ag,hlt,absurd]
structure zUd(P:List PT)(S:List AR):Prop where
 nd:(S.map AR.num).Nodup
 pt:∀a,a∈S->a.parts=(P.filter (fun p=>p.2.1==a.num)).map (fun p=>p.2.2)
 mem:∀a,a∈S->∀r,a.mem r=Sb↔ ∃p,p∈P/\p.2.1=a.num/\p.1=r
 num:∀z:Int,z∈S.map AR.num↔ ∃p,p∈P/\p.2.1=z
theorem qDE:zUd [] []:=⟨Ai,(fun a h=>by cases h),(fun a h=>by cases h),(fun z=>by simp)⟩
theorem qGF{S:List AR}{num:Int}:(zPW S num=none/\num ∉ S.map AR.num)\/∃j a,zPW S num=Sa j/\S[j]?=Sa a/\a.num=num:=by
 unfold zPW
 cases h:S.findIdx? (fun a=>a.num==num)with
 |none=>
  grind
 |some j=>
  right;obtain⟨c,d,_⟩:=bc.1 h
  grind
theorem zUd.add{P:List PT}{S:List AR}(h:zUd P S)(r:Nat)(num:Int)(pt:Int×Int×Int×Int):zUd (P++[(r,num,pt)]) (xF S r num pt):=by
 unfold xF;have c:∀(z:Int) (g:Nat),(∃p,p∈P++[(r,num,pt)]/\p.2.1=z/\p.1=g)↔(∃p,p∈P/\p.2.1=z/\p.1=g)\/(num=z/\r=g):=by simp_all
 have d:∀z:Int,(∃p,p∈P++[(r,num,pt)]/\p.2.1=z)↔(∃p,p∈P/\p.2.1=z)\/num=z:=by simp_all
 have l:∀z:Int,(P++[(r,num,pt)]).filter (fun p=>p.2.1==z)=P.filter (fun p=>p.2.1==z)++(if num=z then[(r,num,pt)]else[]):=by
  grind
 rcases qGF (S:=S) (num:=num)with⟨C,n⟩|⟨j,a,C,n,q⟩
 .rw[C];simp only;refine⟨?_,fun a ha=>?_,fun a ha g=>?_,fun z=>?_⟩
  .rw[br,Ak];refine⟨h.nd,by simp,fun x hx y hy=>?_⟩
   grind
  .rw[l];rcases aX.1 ha with ha|ha
   .have t:num≠a.num:=fun f=>n (f▸aQ.2 ⟨a,ha,rfl⟩);rw[if_neg t,cj];exact h.pt a ha
   .rw[aM.1 ha];simp only[if_true]
    grind[List.filter_eq_nil_iff]
  .rw[c];rcases aX.1 ha with ha|ha
   .have t:num≠a.num:=fun f=>n (f▸aQ.2 ⟨a,ha,rfl⟩);rw[h.mem a ha g]
    grind
   .rw[aM.1 ha];simp only;constructor
    .grind
    .rintro(⟨p,hp,u,_⟩|⟨_,u⟩)
     .grind[absurd]
     grind
  .rw[br,aX,d,h.num]
   grind
 .rw[C];simp only;rw[n];simp only;obtain⟨hj,rfl⟩:=aa.1 n
  have e:(S.set j ⟨S[j].num,S[j].parts++[pt],fun k=>if k=r then Sb else S[j].mem k⟩).map AR.num=S.map AR.num:=by
   rw[df]
   have:(S.map AR.num).set j S[j].num=S.map AR.num:=by
    have:S[j].num=(S.map AR.num)[j]'(by simpa using hj):=by simp
    rw[this,Ah]
   exact this
  have A:∀a,a∈S.set j ⟨S[j].num,S[j].parts++[pt],fun k=>if k=r then Sb else S[j].mem k⟩->(a∈S/\a.num≠num)\/a=⟨S[j].num,S[j].parts++[pt],fun k=>if k=r then Sb else S[j].mem k⟩:=by
   intro a ha;obtain⟨i,F,rfl⟩:=aB ha;rw[b7]at F;rw[cw];by_cases B:j=i
   .grind
   .rw[if_neg B];refine .inl ⟨aY _,fun H=>B ?_⟩;have D:(S.map AR.num)[i]?=Sa num:=by simp[F,H]
    have E:(S.map AR.num)[j]?=Sa num:=by simp[hj,q]
    obtain⟨i1,D⟩:=aa.1 D;obtain⟨I,E⟩:=aa.1 E;exact zUE h.nd I i1 (E.trans D.symm)
  have m:S[j]∈S:=aY _;refine⟨by rw[e];exact h.nd,fun a ha=>?_,fun a ha g=>?_,fun z=>?_⟩
  .rw[l];rcases A a ha with⟨u,G⟩|rfl
   .rw[if_neg (fun f=>G f.symm),cj];exact h.pt a u
   .simp only;rw[q,if_pos rfl,br,h.pt _ m,q];rfl
  .rw[c];rcases A a ha with⟨u,G⟩|rfl
   .rw[h.mem a u g]
    grind
   .simp only;rw[<-h.mem _ m g,q]
    grind
  .rw[e,h.num,d];refine⟨.inl,fun f=>f.elim id (fun f=>?_)⟩;subst f;rw[<-q];exact(h.num _).1 (aQ.2 ⟨_,m,rfl⟩)
theorem zRV{P:List PT}{S:List AR}(h:zUd P S)(c:Nat->Bool)(e:Int->Int->Int×Int)(d:∀a l,e a l=((kF a l).1,(kF a l).2.1))(r:Nat)(xs:List (Ty.El zZ)):∀k,zUd (P++zTG c r xs k) (wM c e r S xs k)
 |0=>by grind[zTG,wM]
 |k+1=>by
  have f:=zRV h c e d r xs k
  have g:zTG c r xs (k+1)=zTG c r xs k++(qB7 c r xs k).toList:=by
   grind[Al,zTG,qB7]
  rw[g,<-co];simp only[wM,qB7]
  cases xs[k]? with
  |none=>simpa using f
  |some x=>
   simp only
   cases c k with
   |false=>simpa using f
   |true=>simp only[if_true,ce];rw[d];exact f.add r (wL x) _
theorem zRU(d:Nat->Nat->Bool)(e:Int->Int->Int×Int)(c:∀a l,e a l=((kF a l).1,(kF a l).2.1))(f:List (List (Ty.El zZ))):∀k,zUd (qDX d f k) (qV d e f k)
 |0=>qDE
 |k+1=>by have g:=zRU d e c f k;unfold qDX;rw[zPr];exact zRV g (d k) e c k _ _
theorem qEc(a l:Int):zN3 a l=((kF a l).1,(kF a l).2.1):=by unfold zN3;rw[xO]
def zGk(v:Ty.El zI):List PT:=qDX (tpB v) ((z8 v).map vZ) (z8 v).length
def v6(v:Ty.El zI):List Int:=(zCB (qV (tpB v) (fun a l=>((kF a l).1,(kF a l).2.1)) ((z8 v).map vZ) (z8 v).length)).map AR.num
def zBt(v:Ty.El zI)(num:Int)(r:Nat):Bool:=(zGk v).any fun p=>p.2.1==num&&p.1==r
def uH(v:Ty.El zI)(num:Int)(r q:Nat):Int:=if r< (z8 v).length/\zBt v num r=Sb/\q< (z8 v).length then(zGy (z8 v).length (zEm v num) r).getD q 0 else-1
def zCo(v:Ty.El zI)(num:Int):List (Ty.El zJS):=((zGk v).filter (fun p=>p.2.1==num)).map (fun p=>((p.2.2.1,(p.2.2.2.1,p.2.2.2.2.1,()),p.2.2.2.2.2,()):Ty.El zJS))
def zHj(v:Ty.El zI)(num:Int):Ty.El qN:=(num,zCo v num,zEm v num,b8 (zBt v num),i88 (uH v num),())
theorem zO4(v:Ty.El zI):zUd (zGk v) (qV (tpB v) (fun a l=>((kF a l).1,(kF a l).2.1)) ((z8 v).map vZ) (z8 v).length):=zRU _ _ (fun _ _=>rfl) _ _
variable {g:Ty.El zI}
theorem zUD{z:Int}:z∈v6 g↔ ∃p,p∈zGk g/\p.2.1=z:=by rw[<-(zO4 g).num z];unfold v6;exact((cN _ _).map _).mem_iff
theorem zXP(v:Ty.El zI):(v6 v).Pairwise (· < ·):=by
 have d:(v6 v).Nodup:=((cN _ _).map AR.num).nodup_iff.2 (zO4 v).nd;have e:(v6 v).Pairwise (fun a b=>a<=b):=by unfold v6;rw[List.pairwise_map];refine(dp (le:=fun a b:AR=>decide (a.num<=b.num)) (fun a b c d e=>?_) (fun a b=>?_) _).imp (fun h=>?_);all_goals grind
 exact(List.pairwise_and_iff.2 ⟨e,d⟩).imp (fun {a b} h=>by omega)
theorem zGj{p:PT}:p∈zGk g↔ ∃(r i:Nat) (d:Ty.El zG) (x:Ty.El zZ),(z8 g)[r]?=Sa d/\(vZ d)[i]?=Sa x/\tpB g r i=Sb/\p=(r,wL x,((r:Int),(kF (qJ x) (jZ x)).1,(kF (qJ x) (jZ x)).2.1,vP x)):=by
 unfold zGk qDX zTG;rw[bW];constructor
 .rintro⟨r,c,a⟩;have c:=aV.1 c;obtain⟨i,k,a⟩:=bu.1 a;have e:(z8 g)[r]?=Sa (z8 g)[r]:=by simp[c]
  have f:((z8 g).map vZ).getD r []=vZ (z8 g)[r]:=by simp_all
  unfold qB7 at a;rw[f]at a;split at a
  .rename_i x v;split at a
   .rename_i j;exact⟨r,i,_,x,e,v,j,(aZ a).symm⟩
   .cases a
  .cases a
 .rintro⟨r,i,d,x,c,v,j,rfl⟩;have h:=(aa.1 c).1;have f:((z8 g).map vZ).getD r []=vZ d:=by simp_all
  refine⟨r,aV.2 h,bu.2 ⟨i,?_,?_⟩⟩
  .rw[f];exact aV.2 (aa.1 v).1
  simp_all[if_pos,qB7]
theorem zXV{num:Int}{r:Nat}:zBt g num r=Sb↔ ∃(i:Nat) (a:Ty.El zG) (x:Ty.El zZ),(z8 g)[r]?=Sa a/\(vZ a)[i]?=Sa x/\tpB g r i=Sb/\wL x=num:=by
 unfold zBt;rw[bD];constructor
 .rintro⟨p,j,h⟩;rw[ak,beq_iff_eq,beq_iff_eq]at h;obtain⟨k,i,a,x,c,d,e,rfl⟩:=zGj.1 j;obtain⟨f,v⟩:=h;simp only at f v;subst v;exact⟨i,a,x,c,d,e,f⟩
 .rintro⟨i,a,x,c,d,e,f⟩;refine⟨_,zGj.2 ⟨r,i,a,x,c,d,e,rfl⟩,?_⟩
  grind
variable {j:List Int}{i:Ty.El zJ}
theorem zZk(m:qE i j g):Wp (zP5 g (z8 g).length) (fun v=>∀r n c,(z8 g)[r]?=Sa c->n< (vZ c).length->(v.getD r []).getD n Sc=tpB g r n):=by
 unfold zP5;refine(zKl (R:=fun r l=>∀c,(z8 g)[r]?=Sa c->∀n,n< (vZ c).length->l.getD n Sc=tpB g r n) ?_).mono ?_
 .intro r h;have h:=aV.1 h;have e:(z8 g)[r]?=Sa (z8 g)[r]:=by simp[h]
  have p:(z8 g).getD r default=(z8 g)[r]:=by simp_all
  rw[p];refine(zKl (R:=fun n b=>b=tpB g r n) ?_).mono ?_
  .intro n f;have f:=aV.1 f;have k:(vZ (z8 g)[r])[n]?=Sa (vZ (z8 g)[r])[n]:=by simp[f]
   rw[k];exact zK (zF9 m.s e k _) (by simp)
  .rintro l ⟨q,t⟩ c a n f;rw[e]at a;cases a;rw[b6]at q;have d:n<l.length:=by omega
   have:=t n n l[n] (bj f) (by simp[d]);simp_all
 grind
theorem zQc(e c:Nat->Bool)(f d:Int->Int->Int×Int)(r:Nat)(S:List AR)(xs:List (Ty.El zZ))(g:∀a l,f a l=d a l):∀k,(∀i,i<xs.length->e i=c i)->wM e f r S xs k=wM c d r S xs k
 |0,_=>rfl
 |k+1,h=>by
  simp only[wM];rw[zQc e c f d r S xs g k h]
  cases j:xs[k]? with
  |none=>rfl
  |some x=>simp only;rw[h k (aa.1 j).1,g]
theorem zQb(g d:Nat->Nat->Bool)(e c:Int->Int->Int×Int)(f:List (List (Ty.El zZ)))(m:∀a l,e a l=c a l):∀k,(∀r i,r<k->i< (f.getD r []).length->g r i=d r i)->qV g e f k=qV d c f k
 |0,_=>rfl
 |k+1,h=>by simp only[qV];rw[zQb g d e c f m k (fun r i n j=>h r i (by omega) j)];exact zQc _ _ e c k _ _ m _ (fun i j=>h k i (by omega) j)
theorem zZp(d:qE i j g):Wp (zP5 g (z8 g).length) (fun c=>∃S,zTj g (z8 g).length c=S/\S.map AR.num=v6 g/\zUd (zGk g) S):=by
 refine(zZk d).mono (fun c h=>⟨_,rfl,?_⟩)
 have:zTj g (z8 g).length c=zCB (qV (tpB g) (fun a l=>((kF a l).1,(kF a l).2.1)) ((z8 g).map vZ) (z8 g).length):=by
  unfold zTj;congr 1;refine zQb _ _ _ _ _ qEc _ (fun r n k m=>?_)
  grind
 rw[this];refine⟨rfl,?_⟩;have e:=zO4 g;have f:(zCB (qV (tpB g) (fun a l=>((kF a l).1,(kF a l).2.1)) ((z8 g).map vZ) (z8 g).length)).Perm _:=cN _ _;exact⟨(f.map AR.num).nodup_iff.2 e.nd,fun a v=>e.pt a (f.mem_iff.1 v),fun a v=>e.mem a (f.mem_iff.1 v),fun z=>by rw[<-e.num z];grind⟩
def zJI(v:Ty.El zI)(p:Int×Nat):Option (Nat×Ty.El qN):=some (16*(p.2+1)+(z8 v).length,zHj v p.1)
def zTB(v:Ty.El zI):Ty.El qL:=(v,(((z8 v).length:Nat):Int),(v6 v).zipIdx.map (zJI v),())
theorem zXc(c:qE i j g){S:List AR}(h:zUd (zGk g) S){a:AR}(n:a∈S):zDE g (z8 g).length a=Sa (zHj g a.num):=by
 refine jS ?_;have k:(z8 g).length<=9:=c.s.rs;unfold zDE;refine zB (zK (zJX c a.num) ?_);have m:=zIY c.s a.num;have d:∀r,a.mem r=zBt g a.num r:=by intro r;rw[cT,h.mem a n r];simp_all[bD,ak,beq_iff_eq,zBt]
 refine zB ((zKl (R:=fun r l=>a.mem r=Sb->l=zGy (z8 g).length (zEm g a.num) r) ?_).mono ?_)
 .intro r e;have e:=aV.1 e;by_cases t:a.mem r=Sb
  .rw[if_pos t];obtain⟨f,v⟩:=zI1 (es:=zEm g a.num) (show(z8 g).length<=64 by omega) (by omega) e;refine zB (zK f ?_);rw[if_pos v.1];exact zA (fun _=>rfl)
  simp_all[if_neg,zA,absurd]
 .rintro u ⟨x,A⟩;rw[b6]at x;refine zA ?_;unfold zHj;have f:a.parts.map (fun p=>((p.1,(p.2.1,p.2.2.1,()),p.2.2.2,()):Ty.El zJS))=zCo g a.num:=by rw[h.pt a n];simp_all[dh,zCo]
  have v:b8 a.mem=b8 (zBt g a.num):=by
   grind[b8]
  have y:(fun r q=>if r< (z8 g).length/\a.mem r=Sb/\q< (z8 g).length then(u.getD r []).getD q 0 else-1)=uH g a.num:=by
   funext r q;unfold uH
   grind
  rw[f,v,y]
theorem qBn{α β:Type}{f:α->Option β}{g:α->β}:∀(xs:List α),(∀x,x∈xs->f x=Sa (g x))->zCw f xs=Sa (xs.map g)
 |[],_=>rfl
 |x::r,h=>by simp only[zCw];rw[h x (by simp),qBn r (fun z a=>h z (aw _ a))];rfl
theorem zXb(e:qE i j g)(t:0< (z8 g).length):zFf g=Sa ((z8 g).length,zTB g):=by
 refine jS ?_;have c:=zHt e;have n:(z8 g).length<=8:=by have:=c.len;unfold z8;rw[e.net];exact this
 unfold zFf;simp only;rw[if_neg (by omega),if_neg ?_]
 .refine zB ((zZp e).mono ?_);rintro d ⟨S,k,l,m⟩;rw[k];refine zB (zK (qBn (g:=fun a:AR=>zHj g a.num) S (fun a p=>zXc e m p)) (zA ?_));unfold zTB;rw[<-l,Am,Am,dh,dh];rfl
 .rw[bD];rintro⟨r,f,h⟩;have q:r∈i.1:=by unfold z8 at f;rw[e.net]at f;exact f
  have:=(c.rt r q).ifl
  grind
end
end Go.Ve
namespace Go.Ve
open Go Go.Proofs
noncomputable abbrev zAD(v:Ty.El zI):Option (Nat×Ty.El qL):=some ((z8 v).length,zTB v)
theorem zZV{α:Type}(f:Nat->α){r:Nat}(h:r<8):idx [f 0,f 1,f 2,f 3,f 4,f 5,f 6,f 7] (r:Int)=Sa (f r):=by
 refine zM ?_
 match r,h with
 |0,_=>rfl
 |1,_=>rfl
 |2,_=>rfl
 |3,_=>rfl
 |4,_=>rfl
 |5,_=>rfl
 |6,_=>rfl
 |7,_=>rfl
 |n+8,h=>omega
variable {j:List Int}{g:Ty.El zI}{i:Ty.El zJ}
theorem yQ(a:qE i j g):(z8 g).length<=8:=by have:=(zHt a).len;unfold z8;rw[a.net];exact this
theorem yJ(e:qE i j g)(id:Nat)(num:Int)(r q:Nat):
  zV (Sa (id,zHj g num),(r:Int),(q:Int),())=Sa (uH g num r q):=by
 refine jS ?_;have v:=yQ e;unfold zV;have f:∀h:8<=r\/8<=q,uH g num r q= -1:=fun h=>by unfold uH;omega
 by_cases n:8<=r
 .have a:decide ((r:Int)>=(8:Int))=true:=decide_eq_true (by omega);simp_all[cond_true,af,zA]
 .have a:decide ((r:Int)>=(8:Int))=false:=decide_eq_false (by omega);simp only[a,cond_false,af];by_cases d:8<=q
  .have c:decide ((q:Int)>=(8:Int))=true:=decide_eq_true (by omega);simp_all[cond_true,zA]
  .have c:decide ((q:Int)>=(8:Int))=false:=decide_eq_false (by omega);simp only[c,cond_false];refine zB (zK (zZV (fun r=>i8 (uH g num r)) (by omega)) ?_);refine zB (zK (zZV (fun q=>uH g num r q) (by omega)) ?_);exact zA rfl
noncomputable def zJv(v:Ty.El zI)(num:Int):Option (Nat×Ty.El qN):=match(v6 v).findIdx? (· ==num)with
 |some j=>zJI v (num,j)
 |none=>none
variable {l:Nat}{b0:Option (Nat×Ty.El qN)}
theorem qBs(a:((v6 g).zipIdx.map (zJI g))[l]?=Sa b0):∃z,(v6 g)[l]?=Sa z/\b0=zJI g (z,l)/\(v6 g).findIdx? (· ==z)=Sa l:=by
 rw[aA,List.getElem?_zipIdx]at a
 cases c:(v6 g)[l]? with
 |none=>grind
 |some z=>
  rw[c]at a;refine⟨z,rfl,by grind,?_⟩;obtain⟨d,rfl⟩:=aa.1 c
  grind[List.findIdx?_eq_some_iff_getElem,Ag,zXP]
theorem zE0(a:((v6 g).zipIdx.map (zJI g))[l]?=Sa b0):∃z,z∈v6 g/\b0=zJv g z/\b0=Sa (16*(l+1)+(z8 g).length,zHj g z):=by
 obtain⟨z,c,d,e⟩:=qBs a;refine⟨z,ae c,?_,d⟩
 grind[zJv]
theorem zDr(v:Ty.El zI):((v6 v).zipIdx.map (zJI v)).length=(v6 v).length:=by simp
variable {I:Int}
theorem zKK(h:I∈v6 g):∃id,zJv g I=Sa (id,zHj g I)/\id%16=(z8 g).length%16:=by
 unfold zJv
 cases a:(v6 g).findIdx? (· ==I)with
 |none=>
  grind
 |some j=>exact⟨_,rfl,by simp only;omega⟩
theorem zPV(h:I ∉ v6 g):zJv g I=none:=by
 grind[List.findIdx?_eq_some_iff_getElem,List.getElem_mem,zJv,v6,absurd]
variable {C:Ty.El zG}
theorem qA8(c:qE i j g)(h:C∈z8 g):C∈i.1:=by unfold z8 at h;rw[c.net]at h;exact h
theorem zR9(a:qE i j g):(zGk g).length<=64:=by
 unfold zGk qDX
 have c:∀r,(zTG (tpB g r) r (((z8 g).map vZ).getD r []) (((z8 g).map vZ).getD r []).length).length<=8:=by
  intro r;unfold zTG;refine ai (bO _ _) ?_;rw[b6];by_cases h:r< (z8 g).length
  .have e:((z8 g).map vZ).getD r []=vZ (z8 g)[r]:=by simp_all
   rw[e];have v:(z8 g)[r]∈i.1:=qA8 a (aY _);exact((zHt a).rt _ v).ifl
  grind
 have n:=zGu (f:=fun r=>zTG (tpB g r) r (((z8 g).map vZ).getD r []) (((z8 g).map vZ).getD r []).length) (m:=8) c (z8 g).length;have d:=yQ a;omega
theorem zK0{α:Type}[DecidableEq α]:∀{l m:List α},l.Nodup->(∀x,x∈l->x∈m)->l.length<=m.length
 |[],_,_,_=>a7 _
 |x::r,m,h,a=>by
  have c:=a x (by simp)
  have:=zK0 (l:=r) (m:=m.erase x) (List.nodup_cons.1 h).2 (fun y d=>by
   grind)
  grind
theorem zBL(a:qE i j g):(v6 g).length<=64:=by
 refine ai (zK0 (m:=(zGk g).map (fun p=>p.2.1)) ((zXP g).imp (fun h=>by omega)) (fun z c=>?_)) (by rw[aL];exact zR9 a)
 grind[zUD]
theorem zUn(p:qE i j g)(num:Int):w6 (zAD g,num,())=Sa (zJv g num):=by
 refine jS ?_;unfold w6;have D:=zBL p;have q:=zDr g;dsimp only;rw[af];refine zAK (xs:=(v6 g).zipIdx.map (zJI g)) (by omega) (fun n=>∀d h,d<n->((v6 g).zipIdx.map (zJI g))[d]?=Sa h->∀id z,h=Sa (id,z)->z.1≠num) (fun d h e=>by omega) ?_ ?_
 .intro n h f e;obtain⟨z,F,r,m⟩:=zE0 f;refine zB (zK (zM f) ?_);refine zB (zK m ?_);refine zF (fun c=>zA ?_) (fun c=>zA ?_)
  .have c:z=num:=eq_of_beq (show(z==num)=Sb from c);subst c;exact r
  .have v:z≠num:=ne_of_beq_false (show(z==num)=Sc from c);clear c;refine⟨rfl,fun d t u k id x a=>?_⟩;by_cases l:d=n
   .subst l;rw[f]at k;cases k;rw[m]at a;cases a;exact v
   .exact e d t (by omega) k id x a
 .intro e;refine zA (zPV (fun y=>?_)).symm;obtain⟨d,A,B⟩:=aB y
  have C:((v6 g).zipIdx.map (zJI g))[d]?=Sa (zJI g (num,d)):=by
   grind
  exact e d _ (by omega) C _ _ rfl rfl
theorem zVW(h:zBt g I l=Sb):l< (z8 g).length/\I∈v6 g:=by obtain⟨i,c,x,a,d,e,f⟩:=zXV.1 h;exact⟨(aa.1 a).1,zUD.2 ⟨_,zGj.2 ⟨l,i,c,x,a,d,e,rfl⟩,f⟩⟩
theorem qA2(f:qE i j g)(r:Nat)(num:Int):vU (zAD g,(r:Int),num,())=Sa (zBt g num r):=by
 refine jS ?_;have n:=yQ f;unfold vU;refine zB (zK (zUn f num) ?_);have c:zBt g num r≠Sb->zBt g num r=false:=fun h=>by simpa using h
 by_cases e:num∈v6 g
 .obtain⟨id,d,_⟩:=zKK e;rw[d];refine zB ?_;simp only[Aj,dI,cond_true,af];refine zO (fun a=>?_) (fun a=>?_)
  .have a:(r:Int)< (((z8 g).length:Nat):Int):=a;refine zB (zK (zZV (zBt g num) (by omega)) ?_);exact zA (zA rfl)
  .have a:¬(r:Int)< (((z8 g).length:Nat):Int):=a;exact zA (zA (c (fun h=>a (by have:=(zVW h).1;omega))).symm)
 .rw[zPV e];refine zB ?_;simp;exact zA (zA (c (fun h=>e (zVW h).2)).symm)
def zOH(v:Ty.El zI)(r:Nat):Bool:=zBt v 0 r&&(v6 v).any fun z=>z !=0&&zBt v z r
theorem zJY(c:qE i j g)(r:Nat):jI (zAD g,(r:Int),())=Sa (zOH g r):=by
 refine jS ?_;have A:=yQ c;have B:=zBL c;have l:=zDr g;unfold jI zOH;refine zB (zK (qA2 c r 0) ?_)
 cases m:zBt g 0 r with
 |false=>exact zA rfl
 |true=>
  have C:=(zVW m).1;simp only[bG,cond_false,bH];rw[af];refine zAK (xs:=(v6 g).zipIdx.map (zJI g)) (by omega) (fun n=>∀d z,d<n->(v6 g)[d]?=Sa z->(z !=0&&zBt g z r)=Sc) (fun d z f=>by omega) ?_ ?_
  .intro n h v f;obtain⟨z,E,e,F⟩:=qBs v;have e:h=Sa (16*(n+1)+(z8 g).length,zHj g z):=e;subst e;refine zB (zK (zM v) ?_)
   have k:∀b:Bool,b=(z !=0&&zBt g z r)->Wp (bif b then Sa (Sum.inr (Sum.inr Sb))else Sa (Sum.inl (Ac .i64 ((n:Int)+(1:Int)))):Option (Int ⊕ (Unit ⊕ Bool)))
     (vB (fun p=>p=Ac .i64 ((n:Int)+1)/\∀d z,d<n+1->(v6 g)[d]?=Sa z->(z !=0&&zBt g z r)=Sc) (vB (fun _=>False) (fun b=>b=(v6 g).any fun z=>z !=0&&zBt g z r))):=by
    intro b G
    cases q:b with
    |true=>
     refine zA ?_;show Sb=_
     grind
    |false=>
     refine zA ⟨rfl,fun d H t u=>?_⟩
     grind
   refine zB ?_;rw[af];refine zF (fun a=>?_) (fun a=>?_)
   .have a:(z !=0)=true:=a;rw[af];refine zB (zK (zZV (zBt g z) (by omega)) (zA ?_));simp_all
   .have a:(z !=0)=false:=a
    grind[zA]
  .intro f;refine zA ?_;rw[eq_comm,List.any_eq_false];intro z x;obtain⟨d,y,rfl⟩:=aB x;simp_all
def zYK(v:Ty.El zI)(r:Nat)(p:Ty.El zD):Bool:=match(z8 v)[r]? with
 |some a=>(Ad (vZ a).length).any fun i=>match(vZ a)[i]? with
  |some x=>jZ x !=0&&(zB3 (kF (qJ x) (jZ x)) p&&upB v (r:Int) (i:Int))
  |none=>Sc
 |none=>Sc
theorem zEv(D:qE i j g)(E:l< (z8 g).length)(p:Ty.El zD):qO (zAD g,(l:Int),p,())=Sa (zYK g l p):=by
 refine jS ?_;have A:=D.s;have h:(z8 g)[l]?=Sa (z8 g)[l]:=by simp[E]
 generalize (z8 g)[l]=a at h;have q:(vZ a).length<=20:=(A.sm a (ae h)).i1;unfold qO;dsimp only;rw[af];have r:∀(K:Unit->Option Bool) (f:Ty.El zG->Option (Unit ⊕ Bool)),wB (Ae (idx (zTB g).1.1.1 (l:Int)) f) K=wB (f a) K:=by simp_all[zM,af,idx,zTB]
 refine(show Wp _ _ from ?_);erw[r]
 have t:zYK g l p=(Ad (vZ a).length).any fun n=>match(vZ a)[n]? with
  |some x=>jZ x !=0&&(zB3 (kF (qJ x) (jZ x)) p&&upB g (l:Int) (n:Int))
  |none=>false:=by
  simp_all[zYK]
 rw[t];have B:a.2.2.1.length<=20:=q;refine zAK (xs:=a.2.2.1) (by omega) (fun k=>∀d x,d<k->(vZ a)[d]?=Sa x->(jZ x !=0&&(zB3 (kF (qJ x) (jZ x)) p&&upB g (l:Int) (d:Int)))=Sc) (fun d x u=>by omega) ?_ ?_
 .intro n x C u;have m:(vZ a)[n]?=Sa x:=C;refine zB (zK (zM C) ?_)
  have c:∀b:Bool,b=(jZ x !=0&&(zB3 (kF (qJ x) (jZ x)) p&&upB g (l:Int) (n:Int)))->Wp (bif b then Sa (Sum.inr (Sum.inr Sb))else Sa (Sum.inl (Ac .i64 ((n:Int)+(1:Int)))):Option (Int ⊕ (Unit ⊕ Bool)))
    (vB (fun F=>F=Ac .i64 ((n:Int)+1)/\∀d x,d<n+1->(vZ a)[d]?=Sa x->(jZ x !=0&&(zB3 (kF (qJ x) (jZ x)) p&&upB g (l:Int) (d:Int)))=Sc) (vB (fun _=>False) (fun b=>b=(Ad (vZ a).length).any fun n=>match(vZ a)[n]? with
     |some x=>jZ x !=0&&(zB3 (kF (qJ x) (jZ x)) p&&upB g (l:Int) (n:Int))
     |none=>Sc))):=by
   intro b r
   cases y:b with
   |true=>
    refine zA ?_;show Sb=_;rw[eq_comm,bD];refine⟨n,aV.2 (aa.1 m).1,?_⟩;rw[m,<-y];exact r.symm
   |false=>
    refine zA ⟨rfl,fun d G H z=>?_⟩;by_cases I:d=n
    .grind
    .exact u d G (by omega) z
  refine zB ?_;refine zF (fun e=>?_) (fun e=>?_)
  .have e:(jZ x !=0)=true:=e;refine zB (zK (xO _ _) ?_);refine zF (fun v=>?_) (fun v=>?_)
   .have v:zB3 (kF (qJ x) (jZ x)) p=true:=v;rw[af];refine zB ((zIz g l n A).mono (fun b r=>zA (c b ?_)));rw[e,v,r];rfl
   .have v:zB3 (kF (qJ x) (jZ x)) p=false:=v;exact zA (c Sc (by rw[e,v];rfl))
  .have e:(jZ x !=0)=false:=e;exact zA (c Sc (by rw[e];rfl))
 .intro u;refine zA ?_;simp_all
theorem zCr(e:(z8 g)[l]?=Sa C)(d:Int)(c:Ty.El zN):
  qF (zAD g,(l:Int),d,c,())=Sa (c.1,(3:Int),d,zN7 C,c.2.1,(0:Int),(0:Int),(0:Int),[],(0:Int),(0:Int),[],Sc,()):=by
 refine jS ?_;unfold qF;dsimp only;rw[af];exact zB (zK (show idx (zTB g).1.1.1 (l:Int)=Sa C from zM e) (zA rfl))
theorem zO2(l:List (Ty.El zN))(p:Ty.El zD)(a:l.length<0x4000000000000000):vF (l,p,())=Sa (zHw (fun x:Ty.El zN=>zB3 x.1 p) l):=by
 refine jS ?_;unfold vF;refine zB ?_;unfold vM;refine zFA a ?_ (zA rfl);intro i x c;rw[zM c,af];show Ae (u6 (x,p,())) _=_;have:u6 (x,p,())=Sa (zB3 x.1 p):=rfl
 grind
def zOO(l:List (Ty.El zN)):Prop:=(l.map (fun x=>x.1)).Nodup
variable {a0:List (Ty.El zN)}{J:Nat}
theorem qBj(h:zOO a0){x y:Ty.El zN}(a:a0[l]?=Sa x)(c:a0[J]?=Sa y)(d:x.1=y.1):l=J:=by obtain⟨e,rfl⟩:=aa.1 a;obtain⟨f,rfl⟩:=aa.1 c;exact zUE h (i:=l) (j:=J) (by simpa using e) (by simpa using f) (by simpa using d)
structure qBI(l l':List (Ty.El zN))(p:Ty.El zD)(c:Int):Prop where
 once:zOO l'
 len:l'.length<=l.length+1
 at_:∀x,x∈l'↔(x∈l/\x.1≠p)\/(x.1=p/\x.2.1=c)
variable {a2:Ty.El zD}
theorem qBe(h:zOO a0)(e:∀x,x∈a0->zB3 x.1 a2=Sc)(c:Int):qBI a0 (a0++[(a2,c,())]) a2 c:=by
 have d:∀x,x∈a0->x.1≠a2:=fun x f g=>by
  grind[yY]
 refine⟨?_,by simp,fun x=>?_⟩
 .unfold zOO;rw[br,Ak];refine⟨h,by simp,fun a i b j=>?_⟩
  grind
 grind
theorem qBd(h:zOO a0){y:Ty.El zN}(g:a0[l]?=Sa y)(n:zB3 y.1 a2=Sb)(c:Int):qBI a0 (a0.set l (y.1,c,())) a2 c:=by
 have d:y.1=a2:=yY.1 n;obtain⟨r,rfl⟩:=aa.1 g
 have k:(a0.set l (a0[l].1,c,())).map (fun x=>x.1)=a0.map (fun x=>x.1):=by
  grind[List.map_set,Ah]
 refine⟨by grind[zOO],by simp,fun x=>?_⟩;constructor
 .intro e;obtain⟨j,f,rfl⟩:=aB e;rw[b7]at f;rw[cw];by_cases a:l=j
  .grind
  .rw[if_neg a];refine .inl ⟨aY _,fun m=>a ?_⟩;exact qBj h g (ah f) (d.trans m.symm)
 .rintro(⟨e,q⟩|⟨t,u⟩)
  .obtain⟨j,f,rfl⟩:=aB e;have a:l≠j:=fun m=>by grind
   refine ae (i:=j) ?_
   grind
  grind[List.mem_of_getElem?,List.getElem?_set_self]
theorem zLP(l:List (Ty.El zN))(p:Ty.El zD)(c:Int)(h:zOO l)(t:l.length<=1073741824):
  Wp (jC l ((p,c,()),())) (fun k=>∃m,qBI l k p m/\m<=c/\(m=c\/((p,m,()):Ty.El zN)∈l)/\∀e,((p,e,()):Ty.El zN)∈l->m<=e):=by
 unfold jC;refine zB (zK (zO2 l p (by omega)) ?_);rcases zIT (fun x:Ty.El zN=>zB3 x.1 p) l with⟨d,a⟩|⟨i,y,d,a,j,u⟩
 .rw[d];simp;refine xZ (by grind) ⟨c,qBe h a c,dK _,.inl rfl,fun e f=>?_⟩;have:=a _ f;rw[yY.2 rfl]at this;cases this
 .rw[d];have n:decide (((i:Nat):Int)< (0:Int))=false:=decide_eq_false (by omega);simp only[n,cond_false];refine zB (zK (zM a) ?_);rw[aC];have q:y.1=p:=yY.1 j
  have g:∀e,((p,e,()):Ty.El zN)∈l->e=y.2.1:=fun e f=>by
   grind[List.getElem?_of_mem,qBj]
  have r:((p,y.2.1,()):Ty.El zN)∈l:=by
   grind
  refine zA ⟨_,qBd h a j _,?_,?_,fun e f=>?_⟩;all_goals grind
structure zJc(C:Ty.El zD->Int->Prop)(l:List (Ty.El zN)):Prop where
 once:zOO l
 is:∀x,x∈l->C x.1 x.2.1
 le:∀p c,C p c->∃m,((p,m,()):Ty.El zN)∈l/\m<=c
theorem zZQ:zJc (fun _ _=>False) []:=⟨Ai,(fun x h=>by cases h),(fun _ _ h=>False.elim h)⟩
variable {a4:Ty.El zD->Int->Prop}
theorem zJc.iff{D:Ty.El zD->Int->Prop}(h:zJc a4 a0)(a:∀p c,a4 p c↔D p c):zJc D a0:=⟨h.once,fun x hx=>(a _ _).1 (h.is x hx),fun p c hd=>h.le p c ((a p c).2 hd)⟩
theorem zJc.add(h:zJc a4 a0)(p:Ty.El zD)(c:Int)(k:a0.length<=1073741824):
  Wp (jC a0 ((p,c,()),())) (fun g=>zJc (fun q e=>a4 q e\/(q=p/\e=c)) g/\g.length<=a0.length+1):=by
 refine(zLP a0 p c h.once k).mono ?_;rintro g ⟨m,a,n,i,r⟩;refine⟨⟨a.once,fun x hx=>?_,?_⟩,a.len⟩
 .rcases(a.at_ x).1 hx with⟨d,_⟩|⟨d,j⟩
  .exact .inl (h.is x d)
  .rcases i with rfl|i
   .grind
   .left;have:=h.is _ i
    grind
 .rintro q e (hq|⟨rfl,rfl⟩)
  .obtain⟨t,d,j⟩:=h.le q e hq;by_cases f:q=p
   .subst f;exact⟨m,(a.at_ _).2 (.inr ⟨rfl,rfl⟩),dD (r _ d) j⟩
   .exact⟨t,(a.at_ _).2 (.inl ⟨d,f⟩),j⟩
  .exact⟨m,(a.at_ _).2 (.inr ⟨rfl,rfl⟩),n⟩
def qFr(v:Ty.El zI)(num:Int)(r:Nat)(p:Ty.El zD)(c:Int):Prop:=
 ∃(q i:Nat) (a:Ty.El zG) (x:Ty.El zZ),(z8 v)[q]?=Sa a/\(vZ a)[i]?=Sa x/\tpB v q i=Sb/\wL x=num/\kF (qJ x) (jZ x)=p/\0<=uH v num r q/\c=uH v num r q+vP x
theorem zEo(a:qE i j g)(num:Int)(r q:Nat): -1<=uH g num r q/\uH g num r q<=117440505:=by
 have e:=yQ a;unfold uH;split
 .rename_i h;have c:=zIY a.s num;have:=((zI1 (es:=zEm g num) (show(z8 g).length<=64 by omega) (by omega) h.1).2).bnd h.1 h.2.2;omega
 .omega
theorem zEZ{z:Ty.El zJS}:z∈zCo g I↔ ∃(q i:Nat) (a:Ty.El zG) (x:Ty.El zZ),(z8 g)[q]?=Sa a/\(vZ a)[i]?=Sa x/\tpB g q i=Sb/\wL x=I/\z=((q:Int),kF (qJ x) (jZ x),vP x,()):=by
 unfold zCo;rw[aQ];constructor
 .rintro⟨p,f,rfl⟩;obtain⟨v,h⟩:=aW.1 f;obtain⟨q,i,a,x,c,d,e,rfl⟩:=zGj.1 v;exact⟨q,i,a,x,c,d,e,by simpa using h,rfl⟩
 .rintro⟨q,i,a,x,c,d,e,j,rfl⟩;exact⟨_,aW.2 ⟨zGj.2 ⟨q,i,a,x,c,d,e,rfl⟩,by simpa using j⟩,rfl⟩
theorem zQB(a:qE i j g)(num:Int):(zCo g num).length<=64:=by
 grind[An,Nat.le_trans,List.length_filter_le,zR9,zCo]
theorem kY{α:Type}{xs:List α}{x:α}(h:xs[l]?=Sa x){y:α}:y∈xs.take (l+1)↔y∈xs.take l\/y=x:=by rw[bR,h,ce,aX,aM]
theorem zIA(G:qE i j g)(a:Option (Nat×Ty.El qL))(id:Nat)(num:Int)(r:Nat):
  Wp (jA (a,Sa (id,zHj g num),(r:Int),())) (fun l=>zJc (qFr g num r) l/\l.length<=64):=by
 unfold jA;have N:=zQB G num;refine zB ?_;rw[af];refine uO (xs:=zCo g num) (by omega) (fun k (v:List (Ty.El zN))=>zJc (fun p c=>∃z,z∈(zCo g num).take k/\z.2.1=p/\0<=uH g num r z.1.toNat/\c=uH g num r z.1.toNat+z.2.2.1) v/\v.length<=k) ?_ ?_ ?_
 .exact⟨zZQ.iff (fun p c=>by simp),aj _⟩
 .rintro n z v m ⟨C,J⟩;have P:=(aa.1 m).1;obtain⟨q,d,H,x,A,B,D,I,E⟩:=zEZ.1 (ae m);refine zB (zK (zM m) ?_);have F:z.1=(q:Int):=by rw[E]
  have M:zV (Sa (id,zHj g num),(r:Int),z.1,())=Sa (uH g num r q):=by rw[F];exact yJ G id num r q
  refine zB (zK M ?_);have Q:=zEo G num r q;have S:=qEp G A B (zP3 A B D).2.1;have u:z.2.2.1=vP x:=by rw[E]
  refine zO (fun K=>?_) (fun K=>?_)
  .refine zB ((C.add z.2.1 _ (by omega)).mono (fun W L=>zA ?_));refine⟨L.1.iff (fun p c=>?_),by omega⟩;rw[u,zH (by omega) (by omega)];constructor
   .rintro(⟨y,e,f⟩|⟨rfl,rfl⟩)
    .exact⟨y,(kY m).2 (.inl e),f⟩
    .refine⟨z,(kY m).2 (.inr rfl),rfl,?_,?_⟩
     .rw[F];exact K
     .rw[F,u];rfl
   .rintro⟨y,e,f,h,t⟩;rcases(kY m).1 e with e|rfl
    .exact .inl ⟨y,e,f,h,t⟩
    .refine .inr ⟨f.symm,?_⟩;rw[t,F,u];rfl
  .refine zA ⟨C.iff (fun p c=>?_),(show v.length<=n+1 by omega)⟩;constructor
   .rintro⟨y,e,f⟩;exact⟨y,(kY m).2 (.inl e),f⟩
   .rintro⟨y,e,f,h,t⟩;rcases(kY m).1 e with e|rfl
    .exact⟨y,e,f,h,t⟩
    .rw[F]at h;exact absurd h K
 .rintro v ⟨C,J⟩;rw[bC]at C;refine zA ⟨C.iff (fun p c=>?_),by omega⟩;constructor
  .rintro⟨z,e,f,h,t⟩;obtain⟨q,d,H,x,A,B,D,I,rfl⟩:=zEZ.1 e;exact⟨q,d,H,x,A,B,D,I,f,h,t⟩
  .rintro⟨q,d,H,x,A,B,D,I,f,h,t⟩;exact⟨_,zEZ.2 ⟨q,d,H,x,A,B,D,I,rfl⟩,f,h,t⟩
def qGJ(v:Ty.El zI)(r:Nat)(h:Ty.El zP):Prop:=
 ∃a i c x q j d y,qFp v a r i c x q j d y/\h=((i:Int),qJ y,())
structure zDG(v:Ty.El zI)(r:Nat)(l:List (Ty.El zP)):Prop where
 so:l.Pairwise hlt
 ok:∀h,h∈l->qGJ v r h
variable {a9:Ty.El zP}
theorem zTZ(f:qE i j g){m:Int}{n:Nat}(v:zKQ l (zEm g I) J n a9):qGJ g J a9:=by
 obtain⟨_,e,num,_,a,_,_,rfl⟩:=v;obtain⟨c,p,t,x,q,d,u,y,z,rfl⟩:=(zZN f).1 num;have:c=J:=by have a:((c:Nat):Int)=(J:Int):=a;omega
 subst this;exact⟨I,p,t,x,q,d,u,y,z,rfl⟩
def zK6(v:Ty.El zI)(r:Nat):List (Ty.El zP):=(Ad 20).flatMap fun i=>(zVS v r i).filterMap fun e=>(zTm v e).map fun a=>((i:Int),a,())
variable {P:List (Ty.El zP)}
theorem qCs(h:P.Pairwise hlt):P.Nodup:=h.imp (fun {a b} c e=>by subst e;exact zHa.asym _ _ c c)
theorem zAa(c:qE i j g)(h:zDG g l P):P.length<=7200:=by
 have v:(zK6 g l).length<=20*360:=by unfold zK6;refine zGu (m:=360) (fun n=>?_) 20;exact ai (bO _ _) (zN4 c.s _ _ _)
 refine ai (zK0 (m:=zK6 g l) (qCs h.so) (fun x k=>?_)) v;obtain⟨p,n,e,u,q,d,f,y,a,rfl⟩:=h.ok x k;unfold zK6;have z:=(aa.1 a.hx).1;have t:(vZ e).length<=20:=(c.s.sm e (ae a.hr)).i1;refine bW.2 ⟨n,aV.2 (by omega),bu.2 ⟨_,a.nb,?_⟩⟩;unfold zTm;simp only[aC];rw[show g.1.1[q]?=Sa f from a.hq];simp only;rw[show f.2.2.1[d]?=Sa y from a.hy];rfl
structure zWF(v:Ty.El zI)(num:Int)(r q:Nat)(l:List (Ty.El zP)):Prop where
 so:l.Pairwise hlt
 mem:∀h,h∈l↔zKQ (z8 v).length (zEm v num) r q h
theorem zWF.ok(a:qE i j g)(h:zWF g I l J P):zDG g l P:=
 ⟨h.so,fun x hx=>zTZ (m:=0) a ((h.mem x).1 hx)⟩
theorem zGX(e:qE i j g)(f:I∈v6 g)(v:l< (z8 g).length)(p:J< (z8 g).length):
  Wp (qC (zAD g,zJv g I,(l:Int),(J:Int),())) (zWF g I l J):=by
 have t:=yQ e;have h:=zIY e.s I;obtain⟨id,n,u⟩:=zKK f;unfold qC;rw[n];simp only[af];have d:(decide ((zTB g).2.1=((id%16:Nat):Int))&&(decide ((0:Int)<=(l:Int))&&decide ((l:Int)< (8:Int))))=true:=by simp only[ak,decide_eq_true_eq];refine⟨?_,by omega,by omega⟩;show(((z8 g).length:Nat):Int)=_;omega
 rw[d,cond_true];refine zB ((zTv (z8 g).length (zEm g I) l (by omega) (by omega) v).mono ?_);rintro c ⟨x,k⟩;have hlt:decide ((J:Int)>=((Aa c:Nat):Int))=false:=decide_eq_false (by omega);rw[hlt,cond_false];have a:c[J]?=Sa (c[J]'(by omega)):=by simp
 refine zK (zM a) ?_;obtain⟨num,_,m⟩:=k J _ a;exact⟨num,m⟩
theorem zKU(e:qE i j g)(h:zWF g I l J P)(a:J≠l)(c:0<=uH g I l J):P≠[]:=by
 have d:=yQ e;have v:=zIY e.s I;unfold uH at c;split at c
 .rename_i f;obtain⟨x,n⟩:=qCD (by omega) (by omega) f.1 f.2.2 a c;intro k;have:=(h.mem x).2 n
  grind
 .omega
theorem zMl(a b:List (Ty.El zP))(g:a.length<=1048576)(h:b.length<=1048576):Wp (xK (a,b,())) (fun l=>zWH l (a++b)):=by
 unfold xK;have i:(a++b)=([a,b]:List (List (Ty.El zP))).flatten:=by simp
 have d:(a++b).length=a.length+b.length:=aO;refine zB (zK (x:=a++b) ?_ ?_)
 .unfold zDb
  grind
 .have c:(Nat.beq (Aa (a++b)) (Aa (a++b))&&Nat.beq (Aa (a++b)) (Aa (a++b)))=true:=by simp
  rw[c,cond_true];obtain⟨l,e,f⟩:=zRo (a++b) (by omega);refine⟨l,?_,f⟩;rw[<-e];show Ae (jG (a++b) ((),())) _=_
  grind
theorem zWS{b v:List (Ty.El zP)}(h:zWH v (P++b))(d:zDG g l P)(e:zDG g l b):zDG g l v:=
 ⟨h.1,fun x c=>by
  rcases aX.1 ((h.2.2 x).1 c)with c|c
  .exact d.ok x c
  .exact e.ok x c⟩
structure zNh(G:Ty.El zD->Int->Prop)(l:List (Ty.El zN)):Prop where
 once:zOO l
 all:∀x,x∈l->G x.1 x.2.1
theorem zYT:zNh a4 []:=⟨Ai,(fun x h=>by cases h)⟩
theorem zNh.put{a:List (Ty.El zN)}(h:zNh a4 a0)(hp:qBI a0 a a2 I)(e:a4 a2 I):zNh a4 a:=
 ⟨hp.once,fun x hx=>by
  rcases(hp.at_ x).1 hx with⟨d,_⟩|⟨d,f⟩
  .exact h.all x d
  grind⟩
theorem zNh.add(h:zNh a4 a0){p:Ty.El zD}{c:Int}(f:a4 p c)(g:a0.length<=1073741824):
  Wp (jC a0 ((p,c,()),())) (fun a=>zNh a4 a/\a.length<=a0.length+1):=by
 refine(zLP a0 p c h.once g).mono ?_;rintro a ⟨m,e,i,d,j⟩;refine⟨h.put e ?_,e.len⟩;rcases d with rfl|d
 .exact f
 .exact h.all _ d
def zWp(p q:Ty.El zD):Bool:=decide (p.2.1<=q.2.1)&&zJt p q.1
def zLU(a:Ty.El zG)(num:Int)(p:Ty.El zD):Option (Ty.El vY):=(zAI a).find? fun x=>x.1==num&&zWp x.2.1 p
theorem qA9(c:qE i j g)(e:(z8 g)[l]?=Sa C):(zAI C).length<=20:=(c.s.sm C (ae e)).i7
theorem zTz(t:qE i j g)(id:Nat)(num:Int){b:Nat}(q:(z8 g)[b]?=Sa C)(p:Ty.El zD):
  wJ (zAD g,Sa (id,zHj g num),(b:Int),p,())=Sa (match zLU C num p with
   |some x=>(x.2.1,Sb,())
   |none=>(((0:Int),(0:Int),()),Sc,())):=by
 refine jS ?_;have A:=qA9 t q;unfold wJ;simp only[af];have l:idx (zTB g).1.1.1 (b:Int)=Sa C:=zM q;refine jU ?_;refine zB (zK l ?_);refine zF5 (n:=(zAI C).length) (c:=fun _=>(((zAI C).length:Nat):Int)) (by omega) (fun n (_:Ty.El zD)=>∀x,x∈(zAI C).take n->(x.1==num&&zWp x.2.1 p)=Sc) (by simp) (fun _ _ _=>rfl) ?_ ?_
 .intro n v u d;have f:(zAI C)[n]?=Sa (zAI C)[n]:=by simp[u]
  generalize (zAI C)[n]=x at f;refine zB (zK (zM f) ?_)
  have e:∀c:Bool,c=(x.1==num&&zWp x.2.1 p)->Wp (bif c then Sa (Sum.inr (Sum.inr (x.2.1,Sb,())))else Sa (Sum.inl (Ac .i64 ((n:Int)+(1:Int)),v)):Option ((Int×Ty.El zD) ⊕ (Ty.El zD ⊕ (Ty.El zD×Bool×Unit))))
    (vB (fun o=>o.1=Ac .i64 ((n:Int)+(1:Int))/\∀x,x∈(zAI C).take (n+1)->(x.1==num&&zWp x.2.1 p)=Sc) (vB (fun s=>Wp (Sa (((0:Int),(0:Int),()),Sc,())) (fun r=>r=match zLU C num p with
     |some x=>(x.2.1,Sb,())
     |none=>(((0:Int),(0:Int),()),Sc,()))) (fun r=>r=match zLU C num p with
     |some x=>(x.2.1,Sb,())
     |none=>(((0:Int),(0:Int),()),Sc,())))):=by
   intro c z
   cases m:c with
   |true=>
    refine zA ?_;have:zLU C num p=Sa x:=by unfold zLU;rw[List.find?_eq_some_iff_append];refine⟨by rw[<-z,m],(zAI C).take n,(zAI C).drop (n+1),?_,fun y k=>by rw[d y k];rfl⟩;obtain⟨_,rfl⟩:=aa.1 f;simp_all
    show(x.2.1,Sb,())=_;rw[this]
   |false=>
    refine zA ⟨rfl,fun y k=>?_⟩;rcases(kY f).1 k with k|rfl
    .exact d y k
    grind
  refine zB ?_;refine zF (fun h=>?_) (fun h=>?_)
  .have h:(x.1==num)=true:=h;refine zB (zK (zEe _ _) (zA (e _ ?_)));rw[h];rfl
  .have h:(x.1==num)=false:=h;exact zA (e _ (by rw[h];rfl))
 .intro v d;rw[bC]at d;refine zA (e2r (zA ?_));have:zLU C num p=none:=by unfold zLU;rw[List.find?_eq_none];intro x f;rw[d x f];simp
  rw[this]
def qGH(v:Ty.El zI)(num:Int)(b:Nat)(a:Ty.El zG)(p:Ty.El zD)(c:Int):Prop:=
 ∃q,qFr v num b q c/\((zLU a num q=none/\p=q)\/∃x,zLU a num q=Sa x/\p=x.2.1)
theorem zVw(B:qE i j g)(id:Nat)(num:Int){b:Nat}(D:(z8 g)[b]?=Sa C):
  Wp (wQ (zAD g,Sa (id,zHj g num),(b:Int),())) (fun l=>zNh (qGH g num b C) l/\l.length<=64):=by
 unfold wQ;refine zB (zB ((zIA B (zAD g) id num b).mono ?_));rintro E ⟨F,G⟩;refine uO (xs:=E) (by omega) (fun k (v:List (Ty.El zN))=>zNh (qGH g num b C) v/\v.length<=k) ⟨zYT,aj _⟩ ?_ (fun v a=>zA ⟨a.1,by omega⟩);rintro n x v r ⟨a,H⟩;have M:=(aa.1 r).1;have h:=F.is x (ae r);refine zB (zK (zM r) ?_);refine zB (zK (zTz B id num D x.1) ?_)
 cases d:zLU C num x.1 with
 |none=>
  simp only[dI,cond_true];obtain⟨p,c,⟨⟩⟩:=x;refine zB ((a.add (p:=p) (c:=c) ⟨p,h,.inl ⟨d,rfl⟩⟩ (by omega)).mono (fun N t=>zA ⟨t.1,by omega⟩))
 |some m=>
  have u:qGH g num b C m.2.1 x.2.1:=⟨x.1,h,.inr ⟨m,d,rfl⟩⟩
  simp only[bG,cond_false];refine zB (zK (zO2 v m.2.1 (by omega)) ?_);rcases zIT (fun x:Ty.El zN=>zB3 x.1 m.2.1) v with⟨z,e⟩|⟨k,y,z,e,f,O⟩
  .rw[z];simp only[show decide ((-1:Int)>=0)=Sc by decide,cond_false];have A:=qBe a.once e x.2.1;refine zB (xZ (by grind) (zA ⟨a.put A u,by grind⟩))
  .have I:y.1=m.2.1:=yY.1 f;have J:=a.all y (ae e);have P:=(aa.1 e).1;rw[z];have K:decide (((k:Nat):Int)>=(0:Int))=true:=decide_eq_true (by omega);simp only[K,cond_true,aC];have q:atN v k=Sa y:=by grind[atN]
   refine zB (zK (zM e) (zB (zK q (zB (zK (zM e) (zB (zK q (zA ?_))))))));have A:=qBd a.once e f (if x.2.1>y.2.1 then x.2.1 else y.2.1);refine⟨a.put A ?_,by grind⟩;split;all_goals grind
def psL(v:Ty.El zI):List (Ty.El zD):=(z8 v).flatMap fun a=>(vZ a).map (fun x=>kF (qJ x) (jZ x))++(zAI a).map (fun x=>x.2.1)
theorem zUU{α β:Type}{f:α->List β}{m:Nat}:∀(l:List α),(∀x,x∈l->(f x).length<=m)->(l.flatMap f).length<=l.length*m
 |[],_=>by simp
 |x::r,h=>by have c:=h x (by simp);have d:=zUU r (fun y a=>h y (aw _ a));rw[List.flatMap_cons,aO,aI,bI];omega
theorem qF2(e:qE i j g):(psL g).length<=224:=by
 have v:=yQ e
 have:=zUU (f:=fun a=>(vZ a).map (fun x=>kF (qJ x) (jZ x))++(zAI a).map (fun x=>x.2.1)) (m:=28) (z8 g) (fun a c=>by
  have h:=((zHt e).rt a (qA8 e c)).ifl;have n:(zAI a).length<=20:=(e.s.sm a c).i7
  grind)
 have d:(z8 g).length*28<=8*28:=aq _ v;unfold psL;omega
variable {a5:Ty.El zZ}
theorem qF1(c:(z8 g)[l]?=Sa C)(d:(vZ C)[J]?=Sa a5):kF (qJ a5) (jZ a5)∈psL g:=
 bW.2 ⟨C,ae c,cK _ (aQ.2 ⟨a5,ae d,rfl⟩)⟩
theorem qBf{x:Ty.El vY}(c:(z8 g)[l]?=Sa C)(d:x∈zAI C):x.2.1∈psL g:=
 bW.2 ⟨C,ae c,dA _ (aQ.2 ⟨x,d,rfl⟩)⟩
def PC(v:Ty.El zI)(hi:Int)(p:Ty.El zD)(c:Int):Prop:=p∈psL v/\1<=c/\c<=hi
theorem zPX(e:qE i j g)(h:zNh (PC g I) a0):a0.length<=224:=by
 have:=zK0 (m:=psL g) h.once (fun p a=>by
  obtain⟨x,c,rfl⟩:=aQ.1 a
  exact(h.all x c).1)
 grind[An,Nat.le_trans,qF2]
variable {a3:Int}
theorem zYu(f:qE i j g)(h:qFr g I l a2 a3):PC g 117506040 a2 a3:=by obtain⟨q,n,d,x,a,e,v,k,rfl,num,rfl⟩:=h;have m:=zEo f I l q;have t:=qEp f a e (zP3 a e v).2.1;exact⟨qF1 a e,by omega,by omega⟩
theorem qFE(v:qE i j g)(n:(z8 g)[l]?=Sa C)(h:qGH g I l C a2 a3):PC g 117506040 a2 a3:=by
 obtain⟨q,d,a⟩:=h;have f:=zYu v d;rcases a with⟨_,rfl⟩|⟨x,a,rfl⟩
 .exact f
 .exact⟨qBf n (List.mem_of_find?_eq_some a),f.2⟩
abbrev zMs(y:Ty.El zC):List (Ty.El zP):=y.2.2.2.2.2.2.2.2.2.2.2.1
abbrev zVE(y:Ty.El zC):Bool:=y.2.2.2.2.2.2.2.2.2.2.2.2.1
abbrev zDY(y:Ty.El zC):Int:=y.2.2.2.2.1
structure zDV(v:Ty.El zI)(r:Nat)(ro:Ty.El zG)(hi:Int)(y:Ty.El zC):Prop where
 proto:y.2.1=(3:Int)
 adm:y.2.2.2.1=zN7 ro
 inner:y.2.2.2.2.2.1=(0:Int)
 tag:y.2.2.2.2.2.2.1=(0:Int)
 pref:y.2.2.2.2.2.2.2.1=(0:Int)
 path:y.2.2.2.2.2.2.2.2.1=[]
 frm:y.2.2.2.2.2.2.2.2.2.1=(0:Int)
 nxt:y.2.2.2.2.2.2.2.2.2.2.1=(0:Int)
 on:zQ1 ro=Sb
 pre:y.1∈psL v
 att:zYK v r y.1=Sc
 hops:zDG v r (zMs y)
 kind:(zVE y=Sb/\y.2.2.1=(1:Int)/\zDY y=0/\zMs y=[])\/(zVE y=Sc/\(y.2.2.1=(1:Int)\/y.2.2.1=(2:Int))/\1<=zDY y/\zDY y<=hi/\zMs y≠[])
variable {a1:Ty.El zC}
theorem zDV.mono(h:zDV g l C I a1)(d:I<=a3):zDV g l C a3 a1:=
 { h with kind:=h.kind.imp id (fun k=>⟨k.1,k.2.1,k.2.2.1,dD k.2.2.2.1 d,k.2.2.2.2⟩) }
theorem zZM(c:(z8 g)[l]?=Sa C)(h:zBt g I l=Sb):zQ1 C=true:=by obtain⟨i,e,x,d,f,v,_⟩:=zXV.1 h;rw[c]at d;cases d;exact(zP3 c f v).1
theorem qE1(h:0<=uH g I l J):l< (z8 g).length/\zBt g I l=Sb/\J< (z8 g).length:=by
 grind[uH]
theorem qDf(f:qE i j g)(k:(z8 g)[l]?=Sa C)(v:(vZ C)[J]?=Sa a5)(h:upB g (l:Int) (J:Int)=Sb):jZ a5≠0/\qJ a5≠0:=by
 obtain⟨t,⟨_,_,d,p,q,u,m,_⟩,_⟩:=zWf f h;have c:i.1[l]?=Sa d:=by simpa using q
 have n:i.1[l]?=Sa C:=by rw[<-f.net];exact k
 rw[n]at c;cases c;have e:(vZ C)[J]?=Sa p:=by simp_all
 rw[v]at e;cases e;exact⟨m,(((zHt f).rt C (qA8 f (ae k))).ifs J a5 v).addr m⟩
theorem qBE(f:qE i j g)(e:(z8 g)[l]?=Sa C)(a:(vZ C)[J]?=Sa a5)(h:upB g (l:Int) (J:Int)=Sb):zYK g l (kF (qJ a5) (jZ a5))=true:=by unfold zYK;rw[e];simp only;rw[bD];refine⟨J,aV.2 (aa.1 a).1,?_⟩;rw[a];simp only;rw[h,yY.2 rfl];simpa using (qDf f e a h).1
theorem zZm(A:qE i j g)(hr:(z8 g)[l]?=Sa C):
  Wp (vO (zAD g,(l:Int),())) (fun r=>(∀y,y∈r->zDV g l C 117506040 y)/\r.length<=4096):=by
 have Q:=(aa.1 hr).1;have ay:=zBL A;have a0:=zDr g;unfold vO;refine zB ?_;simp only[af];refine uO (xs:=(v6 g).zipIdx.map (zJI g)) (by omega) (fun k (v:List (Ty.El zC))=>(∀y,y∈v->zDV g l C 117506040 y)/\v.length<=64*k) ⟨(fun y h=>by cases h),by simp⟩ ?_ (fun v hg=>zA ⟨hg.1,by omega⟩);rintro a h v p ⟨hg,a1⟩;have a2:=(aa.1 p).1;obtain⟨e,S,hH,W⟩:=zE0 p;refine zB (zK (zM p) ?_);rw[W];refine zB ((zIA A (zAD g) _ e l).mono ?_);rintro cs ⟨hc,a3⟩;refine uO (xs:=cs) (by omega) (fun k (O:List (Ty.El zC))=>(∀y,y∈O->zDV g l C 117506040 y)/\O.length<=64*a+k) ⟨hg,by omega⟩ ?_ (fun O D=>⟨D.1,by omega⟩);rintro d c O I ⟨D,ax⟩;have a4:=(aa.1 I).1;have J:=hc.is c (ae I);have K:=zYu A J;refine zB (zK (zM I) ?_);refine zB (zK (zEv A Q c.1) ?_);refine zF (fun E=>zA ⟨D,(show O.length<=64*a+(d+1) by omega)⟩) (fun E=>?_);refine zB (zK (zCr hr 1 c) ?_);have a5:=zQB A e;refine zB ?_;simp only[af]
 refine uO (xs:=zCo g e) (by omega) (fun k (s:List (Ty.El zC)×Ty.El zC)=>s.1=O/\∃f,s.2=(c.1,(3:Int),(1:Int),zN7 C,c.2.1,(0:Int),(0:Int),(0:Int),[],(0:Int),(0:Int),f,Sc,())/\zDG g l f/\
  ((∃z,z∈(zCo g e).take k/\z.2.1=c.1/\z.1≠(l:Int)/\0<=uH g e l z.1.toNat/\uH g e l z.1.toNat+z.2.2.1=c.2.1)->f≠[])) ?_ ?_ ?_
 .exact⟨rfl,[],rfl,⟨List.Pairwise.nil,(fun h p=>by cases p)⟩,(fun⟨z,Y,_⟩=>by simp at Y)⟩
 .rintro k z ⟨g1,y⟩ Y ⟨Z,f,e2,P,F⟩;simp only at Z e2;subst Z e2;obtain⟨q,n,qo,x,H,L,h5,h6,ab⟩:=zEZ.1 (ae Y);have hq:z.1=(q:Int):=by rw[ab]
  have an:=(aa.1 H).1;have ao:z.2.2.1=vP x:=by rw[ab]
  have hb:=zEo A e l q;have ap:=qEp A H L (zP3 H L h5).2.1;refine zB (zK (zM Y) ?_);simp only;have hd:zV (Sa (16*(a+1)+(z8 g).length,zHj g e),(l:Int),z.1,())=Sa (uH g e l q):=by rw[hq];exact yJ A _ e l q
  refine zB (zK hd ?_)
  have M:∀(ad:¬(z.2.1=c.1/\z.1≠(l:Int)/\0<=uH g e l z.1.toNat/\uH g e l z.1.toNat+z.2.2.1=c.2.1)),(∃z,z∈(zCo g e).take (k+1)/\z.2.1=c.1/\z.1≠(l:Int)/\0<=uH g e l z.1.toNat/\uH g e l z.1.toNat+z.2.2.1=c.2.1)->f≠[]:=by
   rintro ad ⟨z',h1,h2⟩;rcases(kY Y).1 h1 with h1|rfl
   .exact F ⟨z',h1,h2⟩
   .exact absurd h2 ad
  have hw:Ac .i64 (uH g e l q+z.2.2.1)=uH g e l q+z.2.2.1:=by rw[ao];exact zH (by omega) (by omega)
  rw[hw];refine zB ((show Wp _ (fun s:Bool×List (Ty.El zC)=>s.2=g1/\(s.1=Sb↔(z.2.1=c.1/\z.1≠(l:Int)/\0<=uH g e l q/\uH g e l q+z.2.2.1=c.2.1)))from ?_).mono ?_)
  .refine zF (fun G=>?_) (fun G=>zA ⟨rfl,(fun h=>by cases h),fun h=>?_⟩)
   .have G:z.2.1=c.1:=yY.1 G;refine zF (fun B=>?_) (fun B=>zA ⟨rfl,(fun h=>by cases h),fun h=>?_⟩)
    .have B:z.1≠(l:Int):=by intro p;rw[p]at B;have B:(!((l:Int)==(l:Int)))=true:=B;simp at B
     refine zO (fun k3=>zA ⟨rfl,fun k4=>?_,fun h=>?_⟩) (fun k3=>zA ⟨rfl,(fun h=>by cases h),fun h=>absurd h.2.2.1 k3⟩)
     .exact⟨G,B,k3,of_decide_eq_true k4⟩
     .exact decide_eq_true h.2.2.2
    .have B:(!(z.1==(l:Int)))=false:=B
     have:z.1=(l:Int):=by
      have B:(decide (z.1=(l:Int)))=true:=by simpa using B
      exact of_decide_eq_true B
     exact absurd this h.2.1
   .have G:zB3 z.2.1 c.1=false:=G;rw[yY.2 h.1]at G;cases G
  .rintro⟨s1,s2⟩ ⟨rfl,hs⟩;simp only at hs;refine zF (fun m=>?_) (fun m=>?_)
   .have m:s1=true:=m;obtain⟨G,B,k3,k4⟩:=hs.1 m;have N:q≠l:=fun p=>B (by rw[hq,p]);have ht:=zGX A S Q an;rw[hH.symm.trans W]at ht;rw[hq];refine zB (ht.mono ?_);rintro tw ag;have al:=ag.ok A;refine zB ((zMl f tw (ai (zAa A P) (by omega)) (ai (zAa A al) (by omega))).mono ?_);rintro u hu;refine zA ⟨rfl,u,rfl,zWS hu P al,fun _ av=>?_⟩;have hn:=zKU A ag N k3;obtain⟨t,ts,rfl⟩:=cb hn;have:=(hu.2.2 t).2 (dA _ (by simp));rw[av]at this;cases this
   .have m:s1=false:=m;refine zA ⟨rfl,f,rfl,P,M (fun p=>?_)⟩;rw[hq,aC]at p;rw[<-hq]at p;rw[hs.2 p]at m;cases m
 .rintro⟨g1,y⟩ ⟨Z,f,e2,P,F⟩;simp only at Z e2;subst Z e2;rw[bC]at F
  have hn:f≠[]:=by
   obtain⟨q,n,qo,x,H,L,h5,h6,h7,h8,h9⟩:=J;refine F ⟨_,zEZ.2 ⟨q,n,qo,x,H,L,h5,h6,rfl⟩,h7,fun p=>?_,?_,?_⟩
   .have N:q=l:=by have p:((q:Nat):Int)=(l:Int):=p;omega
    subst N;rw[<-h7,qBE A H L (zP3 H L h5).2.2]at E;cases E
   .exact h8
   .exact h9.symm
  refine zB (xZ (by simp;omega) (zA ⟨?_,by simp;omega⟩));intro y hy;rcases aX.1 hy with hy|hy
  .exact D y hy
  .rw[aM.1 hy];obtain⟨q,n,qo,x,H,L,h5,h6,h7,h8,h9⟩:=J;exact⟨rfl,rfl,rfl,rfl,rfl,rfl,rfl,rfl,zZM hr (qE1 h8).2.1,K.1,E,P,.inr ⟨rfl,.inl rfl,K.2.1,K.2.2,hn⟩⟩
theorem zVA(x:Ty.El zN)(g:Ty.El vY):qW (x,g,())=Sa (zWp g.2.1 x.1):=by refine jS ?_;unfold qW;exact zB (zK (zEe _ _) (zA rfl))
theorem zZo(l:List (Ty.El zN))(g:Ty.El vY)(a:l.length<0x4000000000000000):jM (l,(g,()),())=Sa (decide (zHw (fun x:Ty.El zN=>zWp g.2.1 x.1) l>=0)):=by
 refine jS ?_;unfold jM;refine zB ?_;unfold wG;refine zFA (p:=fun x:Ty.El zN=>zWp g.2.1 x.1) a ?_ (zA rfl)
 grind[zM,zVA,qW,zWp]
theorem zZn(l:List (Ty.El zC))(g:Ty.El vY)(a:l.length<0x4000000000000000):wP (l,(g,()),())=Sa (decide (zHw (fun y:Ty.El zC=>zB3 y.1 g.2.1) l>=0)):=by
 refine jS ?_;unfold wP;refine zB ?_;unfold uC;refine zFA (p:=fun y:Ty.El zC=>zB3 y.1 g.2.1) a ?_ (zA rfl);intro i x c;rw[zM c,af];show Ae (jQ (x,g,())) _=_;have:jQ (x,g,())=Sa (zB3 x.1 g.2.1):=rfl
 grind
theorem zTi(h:zOH g l=Sb):zBt g 0 l=true:=by simp_all[ak,zOH]
theorem zTy(m:qE i j g)(d:(z8 g)[l]?=Sa C)(e:List (Ty.El zC))(F:e.length<=1048576):
  Wp (wI (zAD g,(l:Int),e,())) (fun r=>(∀y,y∈r->zDV g l C 117506040 y/\Ty.bare zC y=Sb)/\r.length<=20):=by
 have z:=(aa.1 d).1;have G:=qA9 m d;unfold wI;refine zB (zK (zJY m l) ?_);refine zF (fun u=>zA ⟨(fun y h=>by cases h),by simp⟩) (fun u=>?_);have u:zOH g l=true:=by simpa using u
 have A:=zZM d (zTi u);refine zB ?_;simp only[af];refine zB (zK (show idx (zTB g).1.1.1 (l:Int)=Sa C from zM d) ?_);refine uO (xs:=zAI C) (by omega) (fun k (v:List (Ty.El zC))=>(∀y,y∈v->zDV g l C 117506040 y/\Ty.bare zC y=Sb)/\v.length<=k) ⟨(fun y h=>by cases h),by simp⟩ ?_ (fun v x=>zA ⟨x.1,by omega⟩);rintro k n v B ⟨x,H⟩;have I:=(aa.1 B).1;have c:Wp (Sa v) (fun p=>(∀y,y∈p->zDV g l C 117506040 y/\Ty.bare zC y=Sb)/\p.length<=k+1):=zA ⟨x,by omega⟩;refine zB (zK (zM B) ?_);refine zB (zK (zUn m n.1) ?_);by_cases E:n.1∈v6 g
 .obtain⟨id,J,_⟩:=zKK E;rw[J];simp only[Aj,cond_false];refine zB (zB (zK (zEv m z n.2.1) (zA ?_)));refine zF (fun _=>c) (fun f=>?_);refine zB (zB ((zIA m (zAD g) id n.1 l).mono ?_));rintro K ⟨O,L⟩;refine zB (zK (zZo K n (by omega)) ?_)
  have q:Wp (Ae (qF (zAD g,(l:Int),(1:Int),(n.2.1,(0:Int),()),())) fun(a:Ty.El zD×Int×Int×Int×Int×Int×Int×Int×List Int×Int×Int×List (Ty.El zP)×Bool×Unit)=>
    Ae (app (136:Nat) v [(a.1,a.2.1,a.2.2.1,a.2.2.2.1,a.2.2.2.2.1,a.2.2.2.2.2.1,a.2.2.2.2.2.2.1,a.2.2.2.2.2.2.2.1,a.2.2.2.2.2.2.2.2.1,a.2.2.2.2.2.2.2.2.2.1,a.2.2.2.2.2.2.2.2.2.2.1,a.2.2.2.2.2.2.2.2.2.2.2.1,Sb,())]) fun(D:List (Ty.El zC))=>Sa D)
    (fun p=>(∀y,y∈p->zDV g l C 117506040 y/\Ty.bare zC y=Sb)/\p.length<=k+1):=by
   refine zB (zK (zCr d 1 _) ?_);refine zB (xZ (by simp;omega) (zA ⟨fun y t=>?_,by simp only[aO,bE];omega⟩));rcases aX.1 t with t|t
   .exact x y t
   .rw[aM.1 t];exact⟨⟨rfl,rfl,rfl,rfl,rfl,rfl,rfl,rfl,A,qBf d (ae B),f,⟨List.Pairwise.nil,(fun h M=>by cases M)⟩,.inl ⟨rfl,rfl,rfl,rfl⟩⟩,rfl⟩
  refine zF (fun _=>?_) (fun _=>zA ?_)
  .refine zB (zK (zZn e n (by omega)) (zA ?_));refine zF (fun _=>q) (fun _=>c)
  .exact c
 .rw[zPV E];simp only[Option.isNone_none,cond_true];exact zB (zA c)
theorem zVB(e:qE i j g)(r:Nat)(p:Ty.El zD):Wp (wV (zAD g,(r:Int),p,())) (fun _=>True):=by have d:=zBL e;have k:=zDr g;unfold wV;simp only[af];refine zAK (xs:=(v6 g).zipIdx.map (zJI g)) (by omega) (fun _=>True) trivial ?_ (fun _=>zA trivial);intro n h f _;obtain⟨a,v,t,c⟩:=zE0 f;refine zB (zK (zM f) ?_);rw[c];refine zB ((zIA e (zAD g) _ a r).mono ?_);rintro l ⟨u,m⟩;refine zB (zK (zO2 l p (by omega)) ?_);exact zF (fun _=>zA (e2r (e2r trivial))) (fun _=>zA (e2l ⟨rfl,trivial⟩))
noncomputable def zHx(v:Ty.El zI)(r b:Nat)(num:Int):Bool:=zBt v num r&&(zBt v num b&&(decide (0<=uH v num r b)&&(num==0|| !zBt v 0 r)))
theorem zNA(e:qE i j g)(id:Nat)(num:Int){r b:Nat}(f:r<8)(n:b<8):jW (zAD g,(r:Int),(b:Int),Sa (id,zHj g num),())=Sa (zHx g r b num):=by
 refine jS ?_;unfold jW zHx;refine zB ?_;simp only[af];refine zB (zK (zZV (zBt g num) f) ?_)
 cases zBt g num r with
 |false=>exact zA (zA rfl)
 |true=>
  simp only[cond_true,bH];refine zB (zK (zZV (zBt g num) n) ?_)
  cases zBt g num b with
  |false=>exact zA (zA rfl)
  |true=>
   simp only[cond_true,bH];refine zB (zK (yJ e id num r b) ?_);refine zO (fun c=>?_) (fun c=>zA (zA ?_))
   .have c:0<=uH g num r b:=c;rw[decide_eq_true c,bH];refine zF (fun a=>zA (zA ?_)) (fun a=>?_)
    .have a:(num==0)=true:=a;rw[a];rfl
    .have a:(num==0)=false:=a;rw[a,bX];exact zB (zK (qA2 e r 0) (zA (zA rfl)))
   grind
theorem zHS(f:qE i j g){u:ElS [(.pt qL),tI]->Option (RTy.El (.o zC))}{bo:Ty.El zG}(E:(z8 g)[l]?=Sa bo)(S:I∈v6 g)(W:117506040<=a3)(Y:I≠0->Wp (u (zAD g,(l:Int),())) (fun b=>(∀y,y∈b->zDV g l bo a3 y)/\b.length<=1048576)):
  Wp (jR u (zAD g,(l:Int),zJv g I,())) (zNh (PC g a3)):=by
 have Z:=(aa.1 E).1;have h8:=yQ f;have ab:=zBL f;have ad:=zDr g;unfold jR;simp only[af];refine zB ?_;refine uO (xs:=(v6 g).zipIdx.map (zJI g)) (by omega) (fun _ (v:List (Ty.El zN))=>zNh (PC g a3) v) zYT ?_ ?_
 .intro n h v N k;obtain⟨z,hz,hH,A⟩:=zE0 N;refine zB (zK (zM N) ?_);refine zB ((show Wp _ (fun s:Bool×List (Ty.El zN)=>s.2=v)from ?_).mono ?_)
  .refine zF (fun _=>zA rfl) (fun _=>?_);rw[A,af];exact zB (zK (zZV (zBt g z) (by omega)) (zA rfl))
  .rintro⟨s1,s2⟩ rfl;refine zF (fun _=>zA k) (fun _=>?_);rw[A];refine zB ((zVw f _ z E).mono ?_);rintro B ⟨F,ag⟩;refine zF5 (n:=B.length) (c:=fun _=>(B.length:Int)) (by omega) (fun _ (v:List (Ty.El zN))=>zNh (PC g a3) v) k (fun _ _ _=>rfl) ?_ (fun v k=>zA (e2r k));intro d O G a;have e:B[d]?=Sa B[d]:=by simp[G]
   generalize B[d]=x at e;have H:=F.all x (ae e);have m:=qFE f E H;have num:=zPX f a;refine zB (zK (zM e) ?_);obtain⟨p,c,⟨⟩⟩:=x;refine zB ((a.add (p:=p) (c:=c) ⟨m.1,m.2.1,dD m.2.2 W⟩ (by omega)).mono (fun J r=>zA (e2l ⟨rfl,r.1⟩)))
 .intro v k;obtain⟨id,hid,_⟩:=zKK S;rw[hid,af];refine zF (fun _=>zA k) (fun K=>?_);have K:I≠0:=ne_of_beq_false (show(I==0)=Sc from K);refine zB (zB ((Y K).mono ?_));rintro ls ⟨hl,al⟩;refine zF5 (n:=ls.length) (c:=fun _=>(ls.length:Int)) (by omega) (fun _ (s:List (Ty.El zC)×List (Ty.El zN))=>s.1=ls/\zNh (PC g a3) s.2) ⟨rfl,k⟩ (fun _ _ _=>rfl) ?_ (fun s F=>zA (e2r (zA F.2)));rintro d ⟨C,O⟩ G ⟨P,a⟩;simp only at P a;subst P;have e:C[d]?=Sa C[d]:=by simp[G]
  generalize C[d]=x at e;have D:=hl x (ae e);have num:=zPX f a;have L:atN C (Ab (d:Int))=Sa x:=by rw[aC];exact e
  refine zB (zB (zK (zM e) (zB (zK L ?_))));refine zB ((show Wp _ (fun s:Bool×List (Ty.El zN)×List (Ty.El zC)=>s.2=(O,C)/\(s.1=Sb->x.2.2.1=(2:Int)))from ?_).mono ?_)
  .refine zF (fun t=>?_) (fun t=>zA ⟨rfl,(fun h=>by cases h)⟩);have t:x.2.2.1=(2:Int):=of_decide_eq_true (show decide (x.2.2.1=(2:Int))=Sb from t);exact zB ((zVB f l x.1).mono (fun q _=>zA ⟨rfl,fun _=>t⟩))
  .rintro⟨s1,s2⟩ ⟨e2,M⟩;cases e2;refine zF (fun t=>?_) (fun _=>zA (zA (e2l ⟨rfl,rfl,a⟩)));have an:=M t
   have Q:1<=zDY x/\zDY x<=a3:=by
    rcases D.kind with⟨_,k2,_⟩|⟨_,_,k3,k4,_⟩
    .grind
    omega
   exact zB ((a.add (p:=x.1) (c:=zDY x) ⟨D.pre,Q.1,Q.2⟩ (by omega)).mono (fun J r=>zA (zA (e2l ⟨rfl,rfl,r.1⟩))))
theorem zVc:∀{l:List (Int×Int)},zWs l=0->∀p,p∈l->p.1=p.2
 |[],_,p,hp=>by cases hp
 |(a,b)::r,h,p,hp=>by
  unfold zWs at h;split at h
  .omega
  .split at h
   .omega
   .rcases bg.1 hp with rfl|hp
    .show a=b;omega
    .exact zVc h p hp
theorem qDR(a:a1.2.1=(3:Int)):zFu a1=(a1.2.2.1,a1.2.2.2.2.1,a1.2.2.2.2.2.1,a1.2.2.2.2.2.2.1,(0:Int),(0:Int),(0:Int)):=by
 grind[zFu]
theorem zUy{b:Ty.El zC}(a:a1.2.1=(3:Int))(c:b.2.1=(3:Int))(h:zCK a1 b=0):a1.2.2.1=b.2.2.1/\a1.2.2.2.2.1=b.2.2.2.2.1/\a1.2.2.2.2.2.1=b.2.2.2.2.2.1/\a1.2.2.2.2.2.2.1=b.2.2.2.2.2.2.1:=by unfold zCK at h;rw[qDR a,qDR c]at h;have:=zVc h;simp_all
theorem zUz(b:Ty.El zC):zCK b b=0:=by unfold zCK;simp[zWs]
theorem zCq(x y:Ty.El zC)(a:x.2.1=(3:Int))(f:y.2.1=(3:Int)):zAO (x,y,())=Sa (zCK x y):=by
 refine jS ?_;have c:(x.2.1==(1:Int))=false:=by rw[a];rfl
 have d:(x.2.1==(2:Int))=false:=by rw[a];rfl
 have e:(x.2.1==(3:Int))=true:=by rw[a];rfl
 unfold zAO;dsimp only;rw[c,d,e];simp only[cond_false,cond_true,af];refine zB (zK (zCs _ _) (zB (zK (zCs _ _) (zB (zK (zCs _ _) (zB (zK (zCs _ _) (zB (zK (zQa _ (by simp)) (zA ?_))))))))));have:=zVM [(x.2.2.1,y.2.2.1),(x.2.2.2.2.1,y.2.2.2.2.1),(x.2.2.2.2.2.1,y.2.2.2.2.2.1),(x.2.2.2.2.2.2.1,y.2.2.2.2.2.2.1)];refine this.trans ?_
 grind[qDR,zCK,zWs]
variable {a6:List (Ty.El zC)}
theorem zXT(a:a1∈zBs a6):∃b,b∈a6/\a1=qA5 b (zCz a6 b.1 b):=by
 obtain⟨q,_,h⟩:=zIL.1 a;unfold mrg at h
 cases c:zFl a6 q with
 |none=>grind
 |some b=>
  grind[zYI,Option.some.inj]
theorem qCe(h:∀x,x∈a6->zDV g l C I x):∀z,z∈zBs a6->zDV g l C I z:=by
 intro z q;obtain⟨b,m,rfl⟩:=zXT q;have a:=h b m;have e:=zAb a6 b.1 b;refine⟨a.proto,a.adm,a.inner,a.tag,a.pref,a.path,a.frm,a.nxt,a.on,a.pre,a.att,⟨e,fun x f=>?_⟩,?_⟩
 .obtain⟨y,d,_,_,c⟩:=(xA a6 b.1 b x).1 f;exact(h y d).hops.ok x c
 .rcases a.kind with⟨v,i,j,n⟩|⟨v,i,j,n,u⟩
  .refine .inl ⟨v,i,j,bw.2 (fun x f=>?_)⟩;obtain⟨y,d,_,A,c⟩:=(xA a6 b.1 b x).1 f;obtain⟨_,B,_⟩:=zUy (h y d).proto a.proto A;rcases(h y d).kind with⟨_,_,_,r⟩|⟨_,_,D,_⟩
   all_goals grind
  .refine .inr ⟨v,i,j,n,fun p=>?_⟩;obtain⟨t,E,F⟩:=cb u;have:t∈zCz a6 b.1 b:=(xA a6 b.1 b t).2 ⟨b,m,rfl,zUz b,by grind⟩;have p:zCz a6 b.1 b=[]:=p
   grind
theorem qGe(a:qE i j g)(h:zDV g l C I a1):RtS a1:=
 ⟨by rw[show Aa a1.2.2.2.2.2.2.2.2.1=0 by rw[h.path];rfl];omega,ai (zAa a h.hops) (by omega)⟩
theorem zHg(l:List (Ty.El zP))(h:l.length<=1048576):uU (l,())=Sa l:=by refine jS ?_;unfold uU;exact zB (xZ (by grind) (zA rfl))
theorem zNz(a:qE i j g){G:ElS [(.pt qL),tI,(.pt qN)]->Option (RTy.El (.p (.sl zN)))}(W:(z8 g)[l]?=Sa C){hi:Int}(h1:117506040<=hi)(h2:hi<=4294967296)(hA:∀(b:Nat) (num:Int),b< (z8 g).length->zOH g b=Sb->num∈v6 g->zHx g l b num=Sb->Wp (G (zAD g,(b:Int),zJv g num,())) (zNh (PC g hi))):
  Wp (wU G (zAD g,(l:Int),())) (fun r=>(∀y,y∈r->zDV g l C (hi+117440505) y)/\r.length<=114688):=by
 have H:=(aa.1 W).1;have h8:=yQ a;have ao:=zBL a;have ap:=zDr g;unfold wU;simp only[af];refine zB ?_;refine zNj (n:=(z8 g).length) (c:=fun _=>(((z8 g).length:Nat):Int)) (by omega) (fun k (v:List (Ty.El zC))=>(∀y,y∈v->zDV g l C (hi+117440505) y)/\v.length<=k*14336) ⟨(fun y h=>by cases h),by simp⟩ (fun _ _ _=>rfl) ?_ ?_
 .rintro b v hb ⟨u,Y⟩;have D:(∀y,y∈v->zDV g l C (hi+117440505) y)/\v.length<=(b+1)*14336:=⟨u,by omega⟩
  refine zB ((show Wp _ (fun s:Bool×List (Ty.El zC)=>s.2=v/\(s.1=Sc->b≠l/\zOH g b=Sb))from ?_).mono ?_)
  .refine zF (fun _=>zA ⟨rfl,(fun h=>by cases h)⟩) (fun n=>?_)
   have n:b≠l:=fun F=>by
    grind
   refine zO (fun S=>zA ⟨rfl,(fun h=>by cases h)⟩) (fun _=>?_);refine zB (zK (zJY a b) (zA ⟨rfl,fun F=>⟨n,by simpa using F⟩⟩))
  .rintro⟨s1,s2⟩ ⟨e,hs⟩;simp only at e;subst e;refine zF (fun _=>zA D) (fun Z=>?_);obtain⟨n,ab⟩:=hs Z;refine uO (xs:=(v6 g).zipIdx.map (zJI g)) (by omega) (fun k (v:List (Ty.El zC))=>(∀y,y∈v->zDV g l C (hi+117440505) y)/\v.length<=b*14336+k*224) ⟨u,by omega⟩ ?_ (fun v u=>⟨u.1,by omega⟩);rintro k h g' F ⟨I,an⟩;have av:=(aa.1 F).1;obtain⟨num,x,hH,J⟩:=zE0 F;have d:(∀y,y∈g'->zDV g l C (hi+117440505) y)/\g'.length<=b*14336+(k+1)*224:=⟨I,by omega⟩
   refine zB (zK (zM F) ?_);have K:=zNA a (16*(k+1)+(z8 g).length) num (show l<8 by omega) (show b<8 by omega);rw[<-J]at K;refine zB (zK K ?_);refine zF (fun _=>zA d) (fun E=>?_);have E:zHx g l b num=true:=by simpa using E
   have f:0<=uH g num l b/\zBt g num l=true:=by unfold zHx at E;rw[ak,ak,ak]at E;exact⟨of_decide_eq_true E.2.2.1,E.1⟩
   have ad:=zEo a num l b;have z:=hA b num hb ab x E;rw[<-hH]at z;refine zB (z.mono ?_);rintro cs L;have ax:=zPX a L;refine uO (xs:=cs) (by omega) (fun m (q:List (Ty.El zC))=>(∀y,y∈q->zDV g l C (hi+117440505) y)/\q.length<=b*14336+k*224+m) ⟨I,by omega⟩ ?_ (fun v u=>⟨u.1,by omega⟩);rintro m c q S ⟨A,ag⟩;have ay:=(aa.1 S).1;have M:=L.all c (ae S);refine zB (zK (zM S) ?_);refine zB (zK (zEv a H c.1) ?_);refine zF (fun _=>zA ⟨A,(show q.length<=b*14336+k*224+(m+1) by omega)⟩) (fun al=>?_);have N:=yJ a (16*(k+1)+(z8 g).length) num l b;rw[<-J]at N;refine zB (zK N ?_);have B:=M.2;have hw:Ac .i64 (c.2.1+uH g num l b)=c.2.1+uH g num l b:=zH (by omega) (by omega);rw[hw];refine zB (zK (zCr W 2 _) ?_);have ht:=zGX a x H hb;rw[<-hH]at ht;refine zB (ht.mono ?_);rintro tw O;have P:=O.ok a;refine zB (zK (zHg tw (ai (zAa a P) (by omega))) ?_);refine zB (xZ (by simp;omega) (zA ⟨fun y Q=>?_,by simp;omega⟩));rcases aX.1 Q with Q|Q
   .exact A y Q
   .rw[aM.1 Q];refine⟨rfl,rfl,rfl,rfl,rfl,rfl,rfl,rfl,zZM W f.2,M.1,al,P,.inr ⟨rfl,.inr rfl,?_,?_,zKU a O n f.1⟩⟩
    .exact(fun(t e:Int) (h:1<=t) (h':0<=e)=>(by omega:(1:Int)<=t+e)) _ _ B.1 f.1
    .exact(fun(t e:Int) (h:t<=hi) (h':e<=117440505)=>(by omega:t+e<=hi+117440505)) _ _ B.2 ad.2
 .rintro v ⟨u,Y⟩;refine zA ⟨u,?_⟩;omega
theorem zJf(d:qE i j g){e:ElS [(.pt qL),tI]->Option (RTy.El (.p (.sl zC)))}(h:(z8 g)[l]?=Sa C)(D:117506040<=I)(hi:Wp (e (zAD g,(l:Int),())) (fun r=>(∀y,y∈r->zDV g l C I y)/\r.length<=114688)):
  Wp (j7 e (zAD g,(l:Int),())) (fun r=>(∀y,y∈r->zDV g l C I y)/\r.length<=120000):=by
 unfold j7;refine zB ((zZm d h).mono ?_);rintro n ⟨J,k⟩;refine zB ((zTy d h n (by omega)).mono ?_);rintro f ⟨E,m⟩;have q:RV.plain (RTy.res (RTy.o zC) f)=true:=by show(zC.flat||f.all (Ty.bare zC))=Sb;rw[bJ];right;rw[au];exact fun y c=>(E y c).2
 rw[q,cond_true];have F:Aa n<=4096:=k;have G:Aa f<=20:=m;refine zB (xZ (by omega) ?_);refine zB (hi.mono ?_);rintro t ⟨u,A⟩;have H:Aa t<=114688:=A;refine zB (xZ (by rw[aO];omega) ?_)
 have a:∀y,y∈n++f++t->zDV g l C I y:=by
  intro y c;rcases aX.1 c with c|c
  .rcases aX.1 c with c|c
   .exact(J y c).mono D
   .exact(E y c).1.mono D
  .exact u y c
 have v:(n++f++t).length<=120000:=by rw[aO,aO];omega
 refine zB ((zEd _ (by omega) (fun x B=>qGe d (a x B)) (fun x y B c=>zCq x y (a x B).proto (a y c).proto)).mono ?_);rintro z rfl;exact zA ⟨qCe a,ai (zMJ _) v⟩
theorem zSW(h:zHx g l J I=Sb)(a:zBt g 0 l=Sb):I=0:=by simp_all[ak,zHx]
theorem zRQ(c:qE i j g)(f:(z8 g)[l]?=Sa C)(v:zBt g 0 l=Sb)(k:Nat):
  Wp (j5 (k+1) (zAD g,(l:Int),())) (fun r=>(∀y,y∈r->zDV g l C 234946545 y)/\r.length<=120000):=by
 refine zJf c f (by omega) (zNz (hi:=117506040) c f (by omega) (by omega) (fun b h n d a m=>?_));have p:=zSW m v;exact zHS c (bo:=(z8 g)[b]) (by simp[n]) a (by omega) (fun q=>absurd p q)
theorem zQM(e:qE i j g)(h:(z8 g)[l]?=Sa C)(k:Nat):
  Wp (j5 (k+2) (zAD g,(l:Int),())) (fun v=>(∀y,y∈v->zDV g l C 352387050 y)/\v.length<=120000):=by
 refine zJf e h (by omega) (zNz (hi:=234946545) e h (by omega) (by omega) (fun b n d f a q=>?_));have c:(z8 g)[b]?=Sa (z8 g)[b]:=by simp[d]
 exact zHS e c a (by omega) (fun _=>(zRQ e c (zTi f) k).mono (fun v m=>⟨m.1,by omega⟩))
theorem zTw(c:qE i j g)(e:(z8 g)[l]?=Sa C):
  Wp (qG (zAD g,(l:Int),())) (fun n=>(∀y,y∈n->zDV g l C 352387050 y)/\n.length<=120000):=zQM c e 2
def zFn(v:Ty.El zI)(r:Nat)(hi:Int)(p:Ty.El wD):Prop:=
 (p.1=(-1:Int)/\p.2.1=[])\/((0:Int)<=p.1/\p.1<=hi/\zDG v r p.2.1/\p.2.1≠[])
theorem zLN(n:qE i j g){p:Ty.El wD}(d:zFn g l I p)(y:0<=a3)(A:a3<=I)(f:zDG g l P)(e:P≠[]):
  Wp (kH p (a3,P,())) (fun z=>zFn g l I z.1):=by
 have v:P.length<=1048576:=ai (zAa n f) (by omega);have a:∀x:Ty.El wD,atN [x] (0:Nat)=Sa x:=fun _=>rfl;have k:zFn g l I ((a3,P,()):Ty.El wD):=.inr ⟨y,A,f,e⟩;unfold kH;refine zB (zK (a p) ?_);refine zO (fun B=>?_) (fun B=>?_)
 .grind[zB,zK,zHg,zA]
 .obtain⟨C,D,m,F⟩:(0:Int)<=p.1/\p.1<=I/\zDG g l p.2.1/\p.2.1≠[]:=by
   rcases d with⟨h,_⟩|h;all_goals grind
  refine zB (zK (a p) ?_);refine zO (fun _=>?_) (fun _=>?_)
  .grind[zB,zK,zHg,zA]
  .refine zB (zK (a p) ?_);refine zF (fun _=>?_) (fun _=>zA d);refine zB (zK (a p) ?_);refine zB ((zMl p.2.1 P (ai (zAa n m) (by omega)) v).mono ?_);rintro u q;refine zB (zK (a p) (zA (.inr ⟨C,D,zWS q m f,fun E=>?_⟩)));obtain⟨t,G,rfl⟩:=cb e;have:=(q.2.2 t).2 (dA _ (by simp))
   grind
def zLf(v:Ty.El zI)(r q:Nat)(hi:Int)(z:Int×List (Ty.El zP)×Bool×Unit):Prop:=
 z.2.2.1=Sb->r≠q/\0<=z.1/\z.1<=hi/\zDG v r z.2.1/\z.2.1≠[]
theorem zNy(e:qE i j g){B:Ty.El wD->ElA [.d (.pt qL),.d tI,.d tI]->Option (Ty.El wD×RTy.El (.tu []))}(F:l< (z8 g).length)(G:J< (z8 g).length)(M:117440505<=I)(t:l≠J->∀p,zFn g l I p->Wp (B p (zAD g,(l:Int),(J:Int),())) (fun z=>zFn g l I z.1)):
  Wp (wT B (zAD g,(l:Int),(J:Int),())) (zLf g l J I):=by
 have N:=yQ e;have H:=zBL e;have hi:=zDr g;have a:zLf g l J I ((0:Int),[],Sc,()):=fun h=>by cases h
 unfold wT;simp only[af];refine zB ((show Wp _ (fun b:Bool=>b=Sc->l≠J)from ?_).mono ?_)
 .refine zF (fun _=>zA (fun h=>by cases h)) (fun c=>?_)
  have c:l≠J:=fun v=>by
   grind
  simp_all[zF,zA]
 .intro b q;refine zF (fun _=>zA a) (fun u=>?_);have c:=q u;refine zB ?_;refine uO (xs:=(v6 g).zipIdx.map (zJI g)) (by omega) (fun _ (p:Ty.El wD)=>zFn g l I p) (.inl ⟨rfl,rfl⟩) ?_ ?_
  .intro n h p v d;obtain⟨f,k,K,x⟩:=zE0 v;refine zB (zK (zM v) ?_);have C:=yJ e (16*(n+1)+(z8 g).length) f l J;rw[<-x]at C;refine zB (zK C ?_);have L:=zEo e f l J;refine zO (fun m=>?_) (fun _=>zA d);have m:0<=uH g f l J:=m;have D:=zGX e k F G;rw[<-K]at D;refine zB (D.mono ?_);rintro P r;exact zB ((zLN e d m (by omega) (r.ok e) (zKU e r (fun v=>c v.symm) m)).mono (fun z y=>zA y))
  .intro p d;refine zB ((show Wp _ (fun E:Ty.El wD=>zFn g l I E)from ?_).mono ?_)
   .exact zO (fun _=>zB ((t c p d).mono (fun z y=>zA y))) (fun _=>zA d)
   .intro E A;refine zO (fun _=>zA a) (fun Q=>zA (fun _=>?_));rcases A with⟨h,_⟩|⟨S,W,Y,Z⟩
    all_goals grind
theorem zHQ(a:qE i j g){H:ElS [(.pt qL),tI,(.pt qN),tI]->Option (RTy.El (.p tI))}(M:l< (z8 g).length){hi:Int}(h1:0<=hi)(h2:hi<=4294967296)(N:∀(b:Nat) (num:Int),b< (z8 g).length->zOH g b=Sb->num∈v6 g->zHx g l b num=Sb->Wp (H (zAD g,(b:Int),zJv g num,(J:Int),())) (fun e:Int=>e<=hi)){p:Ty.El wD}(O:zFn g l (hi+117440505) p):
  Wp (jP H p (zAD g,(l:Int),(J:Int),())) (fun z=>zFn g l (hi+117440505) z.1):=by
 have h8:=yQ a;have P:=zBL a;have Q:=zDr g;unfold jP;simp only[af];refine zF5 (n:=(z8 g).length) (c:=fun _=>(((z8 g).length:Nat):Int)) (by omega) (fun _ (p:Ty.El wD)=>zFn g l (hi+117440505) p) O (fun _ _ _=>rfl) ?_ (fun v r=>zA (e2r r));intro b v I r;refine zB ((show Wp _ (fun E:Ty.El wD=>zFn g l (hi+117440505) E)from ?_).mono (fun E S=>zA (e2l ⟨rfl,S⟩)));refine zB ((show Wp _ (fun s:Bool×Ty.El wD=>s.2=v/\(s.1=Sc->b≠l/\zOH g b=Sb))from ?_).mono ?_)
 .refine zF (fun _=>zA ⟨rfl,(fun h=>by cases h)⟩) (fun f=>?_)
  have f:b≠l:=fun m=>by
   grind
  exact zB (zK (zJY a b) (zA ⟨rfl,fun m=>⟨f,by simpa using m⟩⟩))
 .rintro⟨s1,s2⟩ ⟨e,W⟩;simp only at e;subst e;refine zF (fun _=>zA r) (fun F=>?_);obtain⟨f,G⟩:=W F;refine uO (xs:=(v6 g).zipIdx.map (zJI g)) (by omega) (fun _ (v:Ty.El wD)=>zFn g l (hi+117440505) v) r ?_ (fun v r=>r);rintro k h E m d;obtain⟨num,n,q,t⟩:=zE0 m;refine zB (zK (zM m) ?_);have u:=zNA a (16*(k+1)+(z8 g).length) num (show l<8 by omega) (show b<8 by omega);rw[<-t]at u;refine zB (zK u ?_);refine zF (fun _=>zA d) (fun D=>?_);have D:zHx g l b num=true:=by simpa using D
  have y:0<=uH g num l b:=by unfold zHx at D;simp_all
  have Y:=zEo a num l b;have A:=N b num I G n D;rw[<-q]at A;refine zB (A.mono ?_);intro (e:Int) Z;refine zO (fun K=>?_) (fun _=>zA d);have K:(0:Int)<=e:=K;have B:=yJ a (16*(k+1)+(z8 g).length) num l b;rw[<-t]at B;refine zB (zK B ?_);rw[zH (x:=uH g num l b+e) (by omega) (by omega)];have L:=zGX a n M I;rw[<-q]at L;refine zB (L.mono ?_);rintro tw C;exact zB ((zLN a d (by omega) (by omega) (C.ok a) (zKU a C f y)).mono (fun z hz=>zA hz))
theorem zLO(f:qE i j g){a:ElS [(.pt qL),tI,tI]->Option (RTy.El (.tu [tI,(.sl zP),.bool]))}(u:I∈v6 g)(D:117440505<=a3)(x:I≠0->Wp (a (zAD g,(l:Int),(J:Int),())) (zLf g l J a3)):
  Wp (wH a (zAD g,(l:Int),zJv g I,(J:Int),())) (fun e:Int=>e<=a3):=by
 have E:=yQ f;have y:=zBL f;have A:=zDr g;obtain⟨id,hid,_⟩:=zKK u;unfold wH;simp only[af];refine zB ?_;refine uO (xs:=(v6 g).zipIdx.map (zJI g)) (by omega) (fun _ (s:Int)=>s<=a3) (by omega) ?_ ?_
 .intro n h s p v;obtain⟨z,r,G,d⟩:=zE0 p;refine zB (zK (zM p) ?_);have t:=yJ f (16*(n+1)+(z8 g).length) z l J;rw[<-d]at t;refine zB (zK t ?_);have B:=zEo f z l J;refine zB ((show Wp _ (fun _:Bool=>True)from ?_).mono ?_)
  .refine zF (fun _=>?_) (fun _=>zA trivial);refine zO (fun _=>?_) (fun _=>zA trivial);simp_all[zO,zA,trivial]
  .intro c _;exact zF (fun _=>zA (by omega)) (fun _=>zA v)
 .intro s v;rw[hid];simp only[af];refine zB ((show Wp _ (fun c:Bool=>c=Sc->I≠0)from ?_).mono ?_)
  .refine zO (fun _=>zA (fun h=>by cases h)) (fun _=>?_);refine zF (fun _=>zA (fun h=>by cases h)) (fun k=>?_);have k:I≠0:=ne_of_beq_false (show(I==0)=Sc from k);exact zB (zK (yJ f id I l J) (zA (fun _=>k)))
  .intro c C;refine zF (fun _=>zA v) (fun b=>?_);refine zB ((x (C b)).mono ?_);intro z r;exact zF (fun m=>zA (r m).2.2.1) (fun _=>zA (by omega))
theorem zXa(c:qE i j g)(e:l< (z8 g).length)(f:J< (z8 g).length)(v:zBt g 0 l=Sb)(k:Nat):
  Wp (wR (k+1) (zAD g,(l:Int),(J:Int),())) (zLf g l J 234881010):=by
 refine zNy c e f (by omega) (fun _ p h=>?_);refine zHQ (hi:=117440505) c e (by omega) (by omega) (fun b n u d a r=>?_) h;exact zLO c a (by omega) (fun m=>absurd (zSW r v) m)
theorem zVz(c:qE i j g)(f:l< (z8 g).length)(v:J< (z8 g).length)(k:Nat):
  Wp (wR (k+2) (zAD g,(l:Int),(J:Int),())) (zLf g l J 352321515):=by
 refine zNy c f v (by omega) (fun _ p h=>?_);refine zHQ (hi:=234881010) c f (by omega) (by omega) (fun b n d e a m=>?_) h;exact zLO c a (by omega) (fun _=>zXa c d v (zTi e) k)
theorem zZl(a:qE i j g)(c:l< (z8 g).length)(e:J< (z8 g).length):
  Wp (qM (zAD g,(l:Int),(J:Int),())) (zLf g l J 352321515):=zVz a c e 2
structure qFn(ro:Ty.El zG):Prop where
 adm:zQ1 ro=Sb->(1:Int)<=zN7 ro/\zN7 ro<=255
 off:zQ1 ro=Sc->zAI ro=[]
 rng:∀x,x∈zAI ro->zC2 x.2.1=Sb
theorem zT8(a:Ty.El zG)(k:SmR a):Wp (yV (a,())) (fun e=>e=(0:Int)->qFn a):=by
 have B:(zAI a).length<=20:=k.i7;unfold yV;dsimp only
 cases d:zQ1 a with
 |false=>
  have d:a.2.2.2.2.2.2.2.2.1.1=false:=d;refine tt (by rw[d];rfl) ?_;have C:∀m:zAI a=[],qFn a:=fun m=>⟨(fun h=>by grind),(fun _=>m),(fun x g=>by grind)⟩
  refine zB (zF (fun _=>zA (zF (fun _=>zA (fun h=>by cases h)) (fun h=>by cases h))) (fun _=>zO (fun _=>zA (zF (fun _=>zA (fun h=>by cases h)) (fun h=>by cases h))) (fun p=>zA (zF (fun _=>zA (fun h=>by cases h)) (fun _=>zA (fun _=>?_))))));simp_all
 |true=>
  have j:a.2.2.2.2.2.2.2.2.1.1=true:=d;refine ff (by rw[j];rfl) ?_;refine zB (zK (vI _ _ _) (zF (fun _=>zA (fun h=>by cases h)) (fun q=>?_)))
  have q:(1:Int)<=zN7 a/\zN7 a<=255:=by
   grind
  refine zO (fun _=>zA (fun h=>by cases h)) (fun _=>?_);refine zAK (xs:=zAI a) (by omega) (fun i=>∀x,x∈(zAI a).take i->zC2 x.2.1=Sb) (by simp) ?_ ?_
  .intro i x g l;have E:=(aa.1 g).1;refine jU (zB (zB (zK (zM g) (zB (zK (vI _ _ _) ?_)))));refine zF (fun _=>zA (zF (fun _=>zA (fun h=>by cases h)) (fun h=>by cases h))) (fun _=>?_);refine zB (zK (zM g) (zB (zK (zCj _) (zA ?_))));refine zF (fun _=>zA (fun h=>by cases h)) (fun r=>?_);have r:zC2 x.2.1=true:=by simpa using r
   refine zAk (n:=(i:Int)) (fun s t p=>?_) (fun s t p=>zA (e2r (e2l (zA (e2l ⟨rfl,fun y u=>?_⟩)))))
   .have z:(zAI a)[s.toNat]?=Sa ((zAI a)[s.toNat]'(by omega)):=by simp
    have A:s=((s.toNat:Nat):Int):=(bl t).symm
    have f:idx (zAI a) s=Sa ((zAI a)[s.toNat]'(by omega)):=by
     grind[zM]
    refine zB ((show Wp _ (fun _:Bool=>True)from ?_).mono (fun c _=>zF (fun _=>zA (e2r (e2r (fun h=>by cases h)))) (fun _=>zA (e2l (zH (by omega) (by omega))))));refine zB (zK f (zB (zK (zM g) (zF (fun _=>?_) (fun _=>zA trivial)))));exact zB (zK f (zB (zK (zM g) (zB (zK (zGa _ _) (zA trivial))))))
   .rcases(kY g).1 u with u|rfl;all_goals grind
  .intro l;rw[bC]at l;refine zB ((uW _ _ _ _ _ k k.i8).mono (fun e _=>zA (fun _=>⟨fun _=>q,(fun h=>by grind),l⟩)))
theorem qEk(c:qE i j g)(h:C∈z8 g):qFn C:=by
 obtain⟨e,f,n⟩:=zT8 C (c.s.sm C h);rw[((zHt c).rt C (qA8 c h)).ls]at f
 grind
theorem qB8(c:qE i j g)(h:a2∈psL g):zC2 a2=true:=by
 obtain⟨f,a,h⟩:=bW.1 h;rcases aX.1 h with h|h
 .obtain⟨x,_,rfl⟩:=aQ.1 h;exact zZL _ _
 .obtain⟨x,e,rfl⟩:=aQ.1 h;exact(qEk c a).rng x e
theorem qCn(n:P.length<=1048576)(d:P.Pairwise hlt)(j:∀h,h∈P->(0:Int)<=h.1/\h.2.1≠(0:Int)):yW (P,Sc,())=Sa true:=by
 have k:=aU.1 d;refine jS ?_;unfold yW;dsimp only;refine zHk (xs:=P) (P:=fun _=>True) (by omega) ?_ (fun _=>zA rfl);intro i x a;have q:=(aa.1 a).1;obtain⟨m,r⟩:=j x (ae a)
 have e:(!(x.2.1==(0:Int))==Sc)=false:=by
  grind
 refine zB ((show Wp _ (fun s:Bool=>s=Sc)from ?_).mono (fun s d=>zF (fun h=>by grind) (fun _=>zA (e2l ⟨rfl,trivial⟩))));refine zB (zK (zM a) (zO (fun h=>absurd m (Int.not_le.2 h)) (fun _=>zO (fun f=>?_) (fun _=>zB (zK (zM a) (zA e))))));have f:(i:Int)>0:=f;have t:P[i-1]?=Sa (P[i-1]'(by omega)):=by simp
 have u:Ac .i64 ((i:Int) - (1:Int))=((i-1:Nat):Int):=by grind[zH]
 have g:qCt (P[i-1]'(by omega)) x=true:=by
  grind[List.getElem?_eq_some_iff,zSC]
 have c:idx P (Ac .i64 ((i:Int) - (1:Int)))=Sa (P[i-1]'(by omega)):=by grind[zM]
 refine zB (zK c (zB (zK (zM a) (zB (zK (zMo _ _) (zF (fun h=>?_) (fun _=>zB (zK (zM a) (zA e)))))))))
 grind
structure LsR(v:Ty.El zI)(r:Nat)(ro:Ty.El zG)(y:Ty.El zC):Prop where
 proto:y.2.1=(3:Int)
 adm:y.2.2.2.1=zN7 ro
 pref:y.2.2.2.2.2.2.2.1=(0:Int)
 path:y.2.2.2.2.2.2.2.2.1=[]
 frm:y.2.2.2.2.2.2.2.2.2.1=(0:Int)
 nxt:y.2.2.2.2.2.2.2.2.2.2.1=(0:Int)
 on:zQ1 ro=Sb
 pre:zC2 y.1=Sb
 att:zYK v r y.1=Sc
 hops:zDG v r (zMs y)
 tag:(0:Int)<=y.2.2.2.2.2.2.1/\y.2.2.2.2.2.2.1<=(65535:Int)
 met:(0:Int)<=zDY y/\zDY y<=1073741824
 inner:(0:Int)<=y.2.2.2.2.2.1/\y.2.2.2.2.2.1<=(1073741824:Int)
 cls:(1:Int)<=y.2.2.1/\y.2.2.1<=4
 inn4:y.2.2.1≠(4:Int)->y.2.2.2.2.2.1=(0:Int)
 kind:(zVE y=Sb/\y.2.2.1=(1:Int)/\zDY y=0/\y.2.2.2.2.2.2.1=(0:Int)/\zMs y=[])\/(zVE y=Sc/\(y.2.2.1=(1:Int)->1<=zDY y)/\zMs y≠[])
theorem zDV.ls(n:qE i j g)(h:zDV g l C I a1)(d:I<=1073741824):LsR g l C a1:=by
 refine⟨h.proto,h.adm,h.pref,h.path,h.frm,h.nxt,h.on,qB8 n h.pre,h.att,h.hops,?_,?_,?_,?_,fun _=>h.inner,?_⟩
 .rw[h.tag];decide
 .rcases h.kind with⟨_,_,k,_⟩|⟨_,_,a,c,_⟩
  all_goals omega
 .rw[h.inner];decide
 .rcases h.kind with⟨_,k,_⟩|⟨_,k|k,_⟩
  all_goals grind
 .rcases h.kind with⟨f,v,a,c⟩|⟨f,v,a,c,r⟩
  .exact .inl ⟨f,v,a,h.tag,c⟩
  grind
theorem qEs(c:qE i j g)(e:qGJ g l a9):(0:Int)<=a9.1/\a9.2.1≠(0:Int):=by obtain⟨f,n,v,x,q,d,k,y,a,rfl⟩:=e;exact⟨dO n,(qDf c a.hq a.hy (zP3 a.hq a.hy a.ty).2.2).2⟩
theorem bd{hi:Int}(h:a3<=I/\I<=hi):(!(decide (a3<=I)&&decide (I<=hi)))=false:=by
 grind
theorem qG2(f:qE i j g)(A:(z8 g)[l]?=Sa C)(h:LsR g l C a1):zEC (a1,())=Sa true:=by
 have c:=(qEk f (ae A)).adm h.on;have e:(1:Int)<=a1.2.2.2.1/\a1.2.2.2.1<=255:=by rw[h.adm];exact c
 have v:zAH (a1,Sb,Sc,Sc,())=Sa true:=by refine jS ?_;unfold zAH;dsimp only;exact zB (tt rfl (ff rfl (tt (by rw[h.pref];rfl) (tt (by rw[h.path];rfl) (tt (by rw[h.frm];rfl) (ff rfl (zA (zA (by rw[h.nxt];rfl)))))))))
 have d:xT (a1,())=Sa true:=by
  refine jS ?_;unfold xT;dsimp only;refine zB ?_;refine zB (zK (xN _ _ _) (ff (bd h.cls) ?_));refine zB (zK (xN _ _ _) (ff (bd e) ?_));refine zB (zK (xN _ _ _) (ff (bd h.met) ?_));refine zB (zK v (zA (ff rfl ?_)));refine zB ?_;refine zB (zK (xN _ _ _) (ff (bd h.inner) ?_))
  have a:Wp (bif a1.2.2.2.2.2.2.2.2.2.2.2.2.1 then Ae (bif a1.2.2.1==(1:Int)then bif a1.2.2.2.2.1==(0:Int)then bif a1.2.2.2.2.2.2.1==(0:Int)then Sa (((Aa a1.2.2.2.2.2.2.2.2.2.2.2.1:Nat):Int)==(0:Int))else Sa Sc else Sa Sc else Sa Sc) (fun(k:Bool)=>Sa k)
    else Ae (bif decide (((Aa a1.2.2.2.2.2.2.2.2.2.2.2.1:Nat):Int)>(0:Int))then Ae (yW (a1.2.2.2.2.2.2.2.2.2.2.2.1,Sc,())) fun(r:Bool)=>Sa r else Sa Sc) (fun(m:Bool)=>Sa m)) (fun b=>b=Sb):=by
   rcases h.kind with⟨t,B,q,E,F⟩|⟨t,B,q⟩
   .simp_all[tt,zB,zA]
   .refine ff t (zB (tt ?_ (zB (zK (qCn (ai (zAa f h.hops) (by omega)) h.hops.so (fun x D=>qEs f (h.hops.ok x D))) (zA (zA rfl))))))
    grind[decide_eq_true,List.length_pos_iff]
  refine zF (fun G=>zA (ff ?_ a)) (fun _=>zA (ff rfl a));have p:a1.2.2.1≠(4:Int):=fun H=>by grind
  rw[h.inn4 p];rfl
 refine jS ?_;unfold zEC;dsimp only;refine zB ?_;refine zB (zK (zCj _) (ff (by rw[h.pre];rfl) ?_));refine zB (zK (xN _ _ _) (ff (bd h.tag) (zA ?_)));refine ff (by rw[h.path];rfl) ?_;refine zHk (P:=fun _=>True) (by rw[h.path];decide) ?_ (fun _=>?_)
 .intro n z u;rw[h.path]at u;simp at u
 .exact ff (by rw[h.proto];rfl) (ff (by rw[h.proto];rfl) (tt (by rw[h.proto];rfl) (zB (zK d (zA rfl)))))
theorem qEj(h:∀x,x∈a6->LsR g l C x):∀z,z∈zBs a6->LsR g l C z:=by
 intro z p;obtain⟨b,m,rfl⟩:=zXT p;have a:=h b m;have e:=zAb a6 b.1 b;refine⟨a.proto,a.adm,a.pref,a.path,a.frm,a.nxt,a.on,a.pre,a.att,⟨e,fun x f=>?_⟩,a.tag,a.met,a.inner,a.cls,a.inn4,?_⟩
 .obtain⟨y,d,_,_,c⟩:=(xA a6 b.1 b x).1 f;exact(h y d).hops.ok x c
 .rcases a.kind with⟨v,i,q,j,B⟩|⟨v,i,u⟩
  .refine .inl ⟨v,i,q,j,bw.2 (fun x f=>?_)⟩;obtain⟨y,d,_,A,c⟩:=(xA a6 b.1 b x).1 f;obtain⟨r,D,_⟩:=zUy (h y d).proto a.proto A;rcases(h y d).kind with⟨_,_,_,_,E⟩|⟨_,F,_⟩
   all_goals grind
  .refine .inr ⟨v,i,fun n=>?_⟩;obtain⟨t,G,H⟩:=cb u;have:t∈zCz a6 b.1 b:=(xA a6 b.1 b t).2 ⟨b,m,rfl,zUz b,by grind⟩;have n:zCz a6 b.1 b=[]:=n
   grind
structure zY1(x:Ty.El zC):Prop where
 pre:zC2 x.1=Sb
 cls:x.2.2.1=(3:Int)\/x.2.2.1=(4:Int)
 met:(0:Int)<=zDY x/\zDY x<=16777215
 tag:(0:Int)<=x.2.2.2.2.2.2.1/\x.2.2.2.2.2.2.1<=(65535:Int)
theorem zWu(v:Ty.El zI)(q:zFz v)(ext:List (List (Ty.El zC))):Wp (zDo (v,ext,())) (fun b=>b=Sb->ext.length=(z8 v).length/\∀l,l∈ext->l.length<=12/\∀x,x∈l->zY1 x):=by
 have r:(z8 v).length<=9:=q.rs;unfold zDo;dsimp only;refine zF (fun _=>zA (fun h=>by cases h)) (fun t=>?_)
 have t:ext.length=(z8 v).length:=by
  grind
 refine zAK (xs:=ext) (by omega) (fun i=>∀l,l∈ext.take i->l.length<=12/\∀x,x∈l->zY1 x) (by simp) ?_ ?_
 .intro i l e G;have A:=(aa.1 e).1;refine jU (zB (zK (zM e) ?_));refine zO (fun _=>zA (fun h=>by cases h)) (fun f=>?_);have f:l.length<=12:=by omega
  simp only[zM e,af];refine zJO (xs:=l) (by omega) (fun k=>∀x,x∈l.take k->zY1 x) (by simp) ?_ ?_
  .intro k x j m;simp only[zM j,af];refine zB ((show Wp _ (fun b:Bool=>b=Sc->zY1 x)from ?_).mono ?_)
   .refine zB (zK (zCj _) (zF (fun _=>zA (fun h=>by cases h)) (fun a=>?_)));have a:zC2 x.1=true:=by simpa using a
    have c:∀n:(x.2.2.1=(3:Int)\/x.2.2.1=(4:Int)),Wp (bif decide (x.2.2.2.2.1< (0:Int))then Sa Sb else bif decide (x.2.2.2.2.1>(16777215:Int))then Sa Sb else bif decide (x.2.2.2.2.2.2.1< (0:Int))then Sa Sb else Sa (decide (x.2.2.2.2.2.2.1>(65535:Int)))) (fun b:Bool=>b=Sc->zY1 x):=by intro n;refine zO (fun _=>zA (fun h=>by cases h)) (fun B=>zO (fun _=>zA (fun h=>by cases h)) (fun C=>zO (fun _=>zA (fun h=>by cases h)) (fun D=>zA (fun g=>?_))));have g:=of_decide_eq_false g;exact⟨a,n,⟨dF.1 B,dF.1 C⟩,⟨dF.1 D,dF.1 g⟩⟩
    refine zF (fun E=>zF (fun _=>zA (fun h=>by cases h)) (fun H=>c (.inr ?_))) (fun E=>c (.inl ?_));all_goals grind
   .intro b I;refine zF (fun _=>zA (e2r ⟨(fun u h=>by cases h),?_⟩)) (fun F=>zA (e2l ⟨rfl,fun y p=>?_⟩))
    .grind[vB]
    .rcases(kY j).1 p with p|rfl;all_goals grind
  .intro m;rw[bC]at m;refine zA (e2l ⟨rfl,fun J d=>?_⟩);rcases(kY e).1 d with d|rfl;all_goals grind
 grind[List.take_length,zA]
theorem zTx(t:qE i j g)(u:(z8 g)[l]?=Sa C)(a:zQ1 C=Sb)(e:zY1 a1)(y:0<=I)(v:I<=352321515)(k:zDG g l P)(f:P≠[]):
  Wp (vV (zAD g,(l:Int),a1,I,P,())) (fun z=>z.2.1=Sb->LsR g l C z.1):=by
 have m:=(aa.1 u).1;have A:=e.met;unfold vV;refine zB (zK (zEv t m a1.1) ?_);refine zF (fun _=>zA (fun h=>by cases h)) (fun d=>?_);simp;refine zB (zK (show idx (zTB g).1.1.1 (l:Int)=Sa C from zM u) ?_);refine zB (zK (zHg P (ai (zAa t k) (by omega))) ?_);refine jU ?_;have p:(0:Int)<=0/\(0:Int)<=1073741824:=by decide
 refine zF (fun q=>zA (e2l (zA (fun _=>?_)))) (fun q=>zF (fun n=>zA (e2l (zA (fun _=>?_)))) (fun n=>zA (e2r (fun h=>by cases h))))
 .have q:a1.2.2.1=(3:Int):=of_decide_eq_true (show decide (a1.2.2.1=(3:Int))=Sb from q);have B:Ac .i64 (a1.2.2.2.2.1+I)=zDY a1+I:=zH (x:=zDY a1+I) (by omega) (by omega);rw[B]
  exact⟨rfl,rfl,rfl,rfl,rfl,rfl,a,e.pre,d,k,e.tag,(⟨by omega,by omega⟩:(0:Int)<=zDY a1+I/\zDY a1+I<=1073741824),p,(⟨by grind,by grind⟩),fun _=>rfl,
   .inr ⟨rfl,(fun h=>by grind),f⟩⟩
 .have n:a1.2.2.1=(4:Int):=of_decide_eq_true (show decide (a1.2.2.1=(4:Int))=Sb from n)
  exact⟨rfl,rfl,rfl,rfl,rfl,rfl,a,e.pre,d,k,e.tag,(⟨A.1,by omega⟩:(0:Int)<=zDY a1/\zDY a1<=1073741824),(⟨y,by omega⟩:(0:Int)<=I/\I<=1073741824),(⟨by grind,by grind⟩),(fun h=>absurd n h),
   .inr ⟨rfl,(fun h=>by grind),f⟩⟩
theorem qCp(e:(z8 g)[l]?=Sa C)(f:zDG g l P)(a:P≠[]):zQ1 C=true:=by obtain⟨t,k,rfl⟩:=cb a;obtain⟨v,i,h,x,q,j,m,y,c,_⟩:=f.ok t (by simp);have:=c.hr;rw[e]at this;cases this;exact(zP3 e c.hx c.tx).1
theorem zXd(p:qE i j g)(F:(z8 g)[l]?=Sa C){ext:List (List (Ty.El zC))}(al:ext.length=(z8 g).length)(H:∀r,r∈ext->r.length<=12/\∀x,x∈r->zY1 x):
  Wp (zBM (g,ext,(l:Int),())) (fun t=>(∀z,z∈t->LsR g l C z)/\t.Pairwise rlt/\t.length<=1048576):=by
 have I:=(aa.1 F).1;have h8:=yQ p;have J:Aa g.1.1=(z8 g).length:=rfl;unfold zBM zUj;refine zIp ?_;unfold zCx;dsimp only;refine zB ?_;rw[show decide ((l:Int)< (0:Int))=Sc from decide_eq_false (by omega),show decide ((l:Int)>=((Aa g.1.1:Nat):Int))=Sc from decide_eq_false (by rw[J];omega)];simp only[cond_false];refine zA ?_;refine ff rfl ?_;have K:uG Sc (g,())=Sa (Sb,zAD g):=by show(zFf g).map _=_;rw[zXb p (by omega)];rfl
 refine zB (zK K ?_);obtain⟨li,L,M,an⟩:=zTw p F;have N:j6 Sb (zAD g,(l:Int),())=Sa (Sb,li):=by show(qG _).map _=_;rw[L];rfl
 refine zB (zK N ?_);refine zB ?_;refine zNj (n:=(z8 g).length) (c:=fun _=>(if((Aa g.1.1:Nat):Int)< ((Aa ext:Nat):Int)then((Aa g.1.1:Nat):Int)else((Aa ext:Nat):Int))) (by omega) (fun k (v:List (Ty.El zC)×Bool)=>v.2=Sb/\(∀z,z∈v.1->LsR g l C z)/\v.1.length<=120000+12*k) ⟨rfl,fun z n=>(M z n).ls p (by omega),by omega⟩ (fun _ _ _=>by omega) ?_ ?_
 .rintro q ⟨v,b⟩ hq ⟨d,e,u⟩;simp only at d e u;subst d;have m:ext[q]?=Sa (ext[q]'(by omega)):=by simp
  generalize (ext[q]'(by omega))=r at m;obtain⟨ag,O⟩:=H r (ae m);have a:∀b:Bool,b=Sb->Wp (Sa (v,b)) (fun f:List (Ty.El zC)×Bool=>f.2=Sb/\(∀z,z∈f.1->LsR g l C z)/\f.1.length<=120000+12*(q+1)):=fun b d=>zA ⟨d,e,by grind⟩;refine zB (zK (zM m) (zF (fun _=>a Sb rfl) (fun _=>?_)));obtain⟨z,n,P⟩:=zZl p I hq;have Q:wS Sb (zAD g,(l:Int),(q:Int),())=Sa (Sb,z):=by show(qM _).map _=_;rw[n];rfl
  refine zB (zK Q (zF (fun _=>a Sb rfl) (fun A=>?_)));have A:z.2.2.1=true:=by simpa using A
  obtain⟨_,z0,z1,z2,z3⟩:=P A;have S:=qCp F z2 z3;refine zB (zK (zM m) ?_);refine uO (xs:=r) (by omega) (fun k (f:List (Ty.El zC)×Bool)=>f.2=Sb/\(∀z,z∈f.1->LsR g l C z)/\f.1.length<=120000+12*q+k) ⟨rfl,e,by omega⟩ ?_ (fun f h=>⟨h.1,h.2.1,by omega⟩);rintro k x ⟨f,b⟩ W ⟨d,B,D⟩;simp only at d B D;subst d;have ao:=(aa.1 W).1;obtain⟨y,Y,Z⟩:=zTx p F S (O x (ae W)) z0 z1 z2 z3;have ab:zA0 Sb (zAD g,(l:Int),x,z.1,z.2.1,())=Sa (Sb,y):=by show(vV _).map _=_;rw[Y];rfl
  refine zB (zK (zM W) (zB (zK ab (zF (fun ad=>?_) (fun _=>zA ⟨rfl,B,by show f.length<=_;omega⟩)))));refine zB (xZ (by simp;omega) (zA ⟨rfl,fun z n=>?_,by simp;omega⟩));rcases aX.1 n with n|n
  .exact B z n
  .rw[aM.1 n];exact Z ad
 .rintro⟨v,b⟩ ⟨d,e,u⟩;simp only at d e u;have E:∀x,x∈v->RtS x:=fun x G=>⟨by rw[show Aa x.2.2.2.2.2.2.2.2.1=0 by rw[(e x G).path];rfl];omega,ai (zAa p (e x G).hops) (by omega)⟩
  refine zB ((zEd v (by omega) E (fun x y G Y=>zCq x y (e x G).proto (e y Y).proto)).mono ?_);rintro z rfl;exact zA ⟨qEj e,zHu v,ai (zMJ v) (by omega)⟩
theorem qCq(k:qE i j g)(m:(z8 g)[l]?=Sa C)(p:qGJ g l a9):
  ∃(e:Ty.El zR) (x y:Ty.El zZ),zED (g,(l:Int),a9.1,a9.2.1,())=Sa (e,Sb,())/\zGh (g,e,())=Sa y/\xLS y=Sb/\idx (vZ C) a9.1=Sa x/\wL x=wL y:=by
 obtain⟨t,n,u,x,q,d,f,y,a,rfl⟩:=p;have:=a.hr;rw[m]at this;cases this;have c:=a.nb;unfold zVS at c;rw[qEf k]at c;have v:zTm g (((q:Int),(d:Int),()):Ty.El zR)=Sa (qJ y):=by unfold zTm;simp;rw[show g.1.1[q]?=Sa f from a.hq];simp only;rw[show f.2.2.1[d]?=Sa y from a.hy]
 refine⟨((q:Int),(d:Int),()),x,y,jS (zO1 i j g k l n (qJ y) _ c v),jS (zLM g _ f y (dO q) (dO d) ?_ ?_),(zP3 a.hq a.hy a.ty).2.1,zM a.hx,a.ax.trans a.ay.symm⟩
 .show g.1.1[Ab (q:Int)]?=Sa f;rw[aC];exact a.hq
 .show f.2.2.1[Ab (d:Int)]?=Sa y;rw[aC];exact a.hy
theorem qF6(e:qE i j g)(f:(z8 g)[l]?=Sa C)(v:(vZ C)[J]?=Sa a5)(h:zYK g l a2=Sc)(a:upB g (l:Int) (J:Int)=Sb):kF (qJ a5) (jZ a5)≠a2:=by intro r;subst r;rw[qBE e f v a]at h;cases h
theorem zPn(n:Ty.El zJ)(d:List Int)(ext:List (List (Ty.El zC))):Wp (zBN (n,d,ext,())) (fun b=>b=Sb):=by
 unfold zBN;dsimp only;refine zB ((zRJ n d).mono ?_);rintro⟨v,ok,⟨⟩⟩ a;simp only at a;refine zB ((show Wp _ (fun s:Bool=>s=Sc->qE n d v/\ext.length=(z8 v).length/\∀l,l∈ext->l.length<=12/\∀x,x∈l->zY1 x)from ?_).mono ?_)
 .refine zF (fun _=>zA (fun h=>by cases h)) (fun f=>?_);have f:ok=true:=by simpa using f
  have z:=a f;refine zB ((zWu v z.s ext).mono (fun b A=>zA (fun h=>?_)))
  grind
 .intro s m;refine zF (fun _=>zA rfl) (fun B=>?_);obtain⟨a,C,D⟩:=m B;have S:=yQ a;have E:n.1=z8 v:=by unfold z8;rw[a.net]
  rw[E];refine zAK (xs:=z8 v) (by omega) (fun _=>True) trivial ?_ (fun _=>zB (zA (zA rfl)));intro r u g _;have G:(vZ u).length<=20:=(a.s.sm u (ae g)).i1;refine jU (zB ((zXd a g C D).mono ?_));rintro t ⟨H,I,p⟩;refine zB ((zZa p (fun x j=>qG2 a g (H x j)) (fun x j=>(H x j).proto) I).mono ?_);rintro b rfl;refine ff rfl ?_;have K:Aa t<=1048576:=p;refine zJO (xs:=t) (by omega) (fun _=>True) trivial ?_ (fun _=>zA (e2l ⟨rfl,trivial⟩));intro i x j _;have c:=H x (ae j);have M:=zAa a c.hops;simp only[zM j,zM g,af];refine jU ?_;refine ff ?_ ?_
  .have:x.2.2.2.1=zN7 u:=c.adm
   grind
  refine jU ?_;refine(zJO (xs:=zMs x) (by omega) (fun _=>True) trivial ?_ ?_:Wp _ (vB _ _))
  .intro k h q _;simp only[zM q,af];obtain⟨e,N,y,O,L,W,P,Y⟩:=qCq a g (c.hops.ok h (ae q));refine zB (zK O ?_);refine zB ((show Wp _ (fun s:Bool=>s=Sc)from ?_).mono (fun s m=>ff m (zA (e2l ⟨rfl,trivial⟩))));refine ff rfl (zB (zK L ?_));refine ff (by grind) ?_;refine zB (zK P (zB (zK L (zA ?_))))
   grind
  .intro _;show Wp _ _;refine zJO (xs:=vZ u) (by omega) (fun _=>True) trivial ?_ ?_
   .intro k N q _;simp only[zM q,af];refine zB ((show Wp _ (fun s:Bool=>s=Sc)from ?_).mono (fun s m=>ff m (zA (e2l ⟨rfl,trivial⟩))));refine zB ((zLL v r k a.s).mono (fun b A=>?_));refine zF (fun J=>?_) (fun _=>zA rfl);rw[J]at A;refine zB (zK (uA _ _) (zA ?_));have Q:=qF6 a g q c.att A.symm
    grind
   .intro _;show Wp _ _;exact zA (e2l ⟨rfl,trivial⟩)
theorem zKM:∀x:ElS [zJ,.sl tI,.sl (.sl zC)],qBw 1048576 [zJ,.sl tI,.sl (.sl zC)] x->zBN x=Sa true:=by
 grind[jS,zPn]
end Go.Ve
