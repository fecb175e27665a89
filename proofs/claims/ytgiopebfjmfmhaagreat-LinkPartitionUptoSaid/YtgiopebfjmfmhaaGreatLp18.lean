/- law16 -/
import Derived.ChangeSame
import Derived.Below
import Derived.Carry
import Derived.Test.YtgiopebfjmfmhaaGreatLp16
import Derived.Test.YtgiopebfjmfmhaaGreatLp11
import Derived.Test.YtgiopebfjmfmhaaGreatLp13
import Derived.Test.YtgiopebfjmfmhaaGreatLp12
set_option linter.unusedVariables false
open Bool renaming true->Sa
open Option renaming some->Sb
open Go.DataW renaming TrodAll->Aa
set_option maxRecDepth 1000000
set_option maxHeartbeats 4000000
namespace Go.Ve
open Go Go.RowKit
def qAQ(N:Nat):(ts:List Ty)->ElS ts->Prop
 |[],_=>True
 |t::ts,x=>t.fits N x.1/\qAQ N ts x.2
section
variable {H:Type}{enc:TypeId×Value->H}{P:Program}{w:World}{sp:Nat->Bool}{held:Bool}{bk:DataW H->Nat}
theorem zWa{n:Nat}{t:TypeId}{ty:Ty}{v:Value}{x:ty.El}{F:Blk->Prop}{p:Nat}(y:zHx P n t=Sa)(c:zLJ P n t=Sb ty)(e:Value.okWide P w .any p t v)
  (h:CR w F v.cells.toList ty x):Rd w F v (ty.enc x):=by
 cases n with
 |zero=>simp[zHx]at y
 |succ n=>
  simp only[zLJ]at c;simp only[zHx]at y;unfold Value.okWide at e
  have g:ty.cells x=[ty.enc x]->(∀j,v≠ .agg j)->Rd w F v (ty.enc x):=by
   intro G I;have A:v.cells= #[v]:=by cases v<;>first|rfl|exact absurd rfl (I _)
   have D:=h.2;rw[A]at D;exact D 0 v (ty.enc x) rfl (by rw[G];rfl)
  cases J:P.underlying t with
  |none=>grind
  |some K=>
   rw[J]at c y e
   have z:∀(E:ty.cells x=[ty.enc x]),∀j,v=.agg j->∃u,j.toList=[u]:=by
    intro E j B;subst B;have:=h.1;rw[<-kQ ty x,E]at this;simp only[Value.cells,bL]at this
    match L:j.toList,this with
    |[u],_=>grind
   cases K with
   |struct l=>
    obtain⟨j,rfl,_,_⟩:=e;simp only[Value.cells]at h
    have q:∀(l:List Field) (ty:Ty),l.foldr (fun f C=>match zLJ P n f.type,C with
      |some a,Sb b=>Sb (Ty.pair a b)
      |_,_=>none) (Sb .unit)=Sb ty->∀x:ty.El,ty.enc x=.agg (ty.cells x):=by
     intro l ty r x
     cases l with
     |nil=>cases r;rfl
     |cons f l=>
      simp at r;split at r
      .cases r;rfl
      .cases r
    rw[q l.toList ty c x];refine .agg j _ ?_ ?_
    .have:=h.1;grind[kQ]
    .intro i v d B M;exact h.2 i v d (by simpa using B) M
   |bool=>
    cases c;refine g rfl ?_;rintro j rfl;simp[Cell.okWide,Cell.ok]at e
   |int k=>
    cases c;refine g rfl ?_;rintro j rfl;simp[Cell.okWide,Cell.ok]at e
   |string=>
    cases c;refine g rfl ?_;rintro j rfl;simp[Cell.okWide,Cell.ok]at e
   |slice N=>
    simp only at c;split at c
    .cases c;refine g rfl ?_;rintro j rfl;simp[Cell.okWide,Cell.ok]at e
    .cases c
   |array m N=>cases y
   |_=>cases c
theorem zST(r:qEN bk){N f:Nat}:∀(a:List TypeId) (c:List Ty) (vs:List Value) (ds:List (DataW H)) (y:List MemPlace),(∀t∈a,zHx P 12 t=Sa)->a.mapM (zLJ P 12)=Sb c->
  Aa enc P w 0 sp held a vs ds y->(∀(j:Nat) t v,a[j]?=Sb t->vs[j]?=Sb v->Value.okWide P w .any f t v)->(∀d∈ds,bk d<=N)->
  ∃x:ElS c,vs.length=(yF c x).length/\(∀(i:Nat) (v:Value) (d:V),vs[i]?=Sb v->(yF c x)[i]?=Sb d->Rd w (qDv w.heap.size) v d)/\qAQ N c x:=by
 intro a
 induction a with
 |nil=>
  intro c vs ds y _ e h _ _;simp at e;subst e
  match vs,ds,h with
  |[],[],_=>exact⟨(),rfl,fun i v d h=>by simp at h,trivial⟩
 |cons t a D=>
  intro c vs ds y z e h g A;rw[List.mapM_cons]at e;simp[aG]at e;obtain⟨E,B,k,F,rfl⟩:=e
  match vs,ds,h with
  |v::vs,d::ds,h=>
   obtain⟨p,q,⟨l,m⟩,G,rfl⟩:=h;obtain⟨x,I,J⟩:=zYu r 12 t E l _ d p (z t (by simp)) B m;obtain⟨K,L,Q,M⟩:=D k vs ds q (fun t m=>z t (aw _ m)) F G (fun j t v m O=>g (j+1) t v (by simpa using m) (by simpa using O)) (fun d n=>A d (aw _ n));refine⟨(x,K),by simp[yF,L],?_,zOX (A d (by simp)) _ _ J,M⟩;intro i u S C n
   cases i with
   |zero=>
    simp[yF]at C n;subst C n;exact zWa (z t (by simp)) B (g 0 t v rfl rfl) I
   |succ i=>grind[yF]
theorem zSU(l:laidOutB P=Sa){W k:World}(m:Below W.heap.size W k){c:Nat->Bool}:∀(a:List TypeId) (vs:List Value) (ds:List (DataW H)) (e:List MemPlace),
  (∀t∈a,P.readableRec t=Sa/\t<P.types.size)->Aa enc P W 0 (fun _=>Sa) Sa a vs ds e->(∀p∈e,p.block<W.heap.size/\c p.block=Sa)->
  Aa enc P k 0 c Sa a vs ds e:=by
 intro a
 induction a with
 |nil=>intro vs ds e _ h _;match vs,ds,h with|[],[],h=>exact h
 |cons t a n=>
  intro vs ds e g h i
  match vs,ds,h with
  |v::vs,d::ds,h=>obtain⟨p,q,j,r,rfl⟩:=h;refine⟨p,q,?_,n vs ds q (fun t j=>g t (aw _ j)) r (fun x f=>i x (by simp[f])),rfl⟩;exact WideElems.Trod_stays l (g t (by simp)).1 (g t (by simp)).2 j (fun x f=>m.same (i x (by simp[f])).1) (fun x f=>(i x (by simp[f])).2)
theorem zVo{f:FuncId}{fn:Func}{s:ChangeSpec}{a:List Ty}{g:ElS a->Option (RTy.El (.p .bool))}(hl:laidOutB P=Sa)(M:qEN bk){N:Nat}
  (hc:∀t∈fn.params.toList,zHx P 12 t=Sa/\P.readableRec t=Sa/\t<P.types.size) (O:fn.params.toList.mapM (zLJ P 12)=Sb a) (c:s.vars=[])
  (n:∀ds:List (DataW H),ds.length=fn.params.size->s.fn H ds= { results:=[.lit (.bool Sa)],args:=ds })
  {tb:TypeId} (B:fn.resultTypes= #[tb]) (Q:P.underlying tb=Sb .bool)
  (S:∀x:ElS a,qAQ N a x->g x=Sb Sa)
  (Y:jJ jT P (fun _=>none) f (z7 (qQ a (.p .bool) g)))
  {W:World} {C:Nat} {args:Array Value} {ds Z:List (DataW H)} {k:List MemPlace}
  (D:∀(j:Nat) t v,fn.params[j]?=Sb t->args[j]?=Sb v->Value.okWide P W .any C t v)
  (hW:DataW.Whole enc P fn.params.toList s.vars false W args.toList ds Z k) (hN:∀d∈ds,bk d<=N):
  Calls P f args W fun e K=>∃v,e=.returned v/\s.post enc P fn false Sa false false W args v K:=by
 have r:=hW;obtain⟨p,q,hA,L,rfl,av,ax⟩:=hW
 have ab:Z=[]/\q=[]:=by
  rw[c]at L
  match Z,L with
  |[],L=>exact⟨rfl,L⟩
 obtain⟨rfl,rfl⟩:=ab;simp at r;obtain⟨x,ay,ad,ag⟩:=zST (w:=W) M fn.params.toList a args.toList ds p (fun t E=>(hc t E).1) O hA (fun j t v E F=>D j t v (by simpa using E) (by simpa using F)) hN
 have al:ds.length=fn.params.size:=by
  have ap:∀(G:List TypeId) (A:List Value) (ds:List (DataW H)) (ps:List MemPlace),Aa enc P W 0 (fun _=>Sa) Sa G A ds ps->ds.length=G.length:=by
   intro G
   induction G with
   |nil=>intro A ds ps h;match A,ds,h with|[],[],_=>rfl
   |cons t G ih=>
    intro A ds ps h
    match A,ds,h with
    |v::A,d::ds,h=>obtain⟨_,q,_,hq,_⟩:=h;grind
  grind
 have an:z7 (Γ:=jT) (qQ a (.p .bool) g) () (yF a x)=Sb ((),.p (.val (.bool Sa))):=by simp[z7,qQ,vR,zBu];rw[S x ag];rfl
 have u:=Y W (qDv W.heap.size) (fun _=>False) () args (yF a x) () (.p (.val (.bool Sa))) ⟨fun b l=>l,fun _ _ _ h=>h,fun _ h=>h⟩ (fun g cs S=>by cases S) (fun b l=>⟨l,fun h=>h⟩)
  (by omega) (fun i v d F hd=>ad i v d (by simpa using F) hd) an
 refine u.mono ?_;rintro e K ⟨v,F',O',rfl,_,I,_,_,_,J⟩;have F:v=.bool true:=Rd.eq_val J;subst F;refine⟨_,rfl,?_⟩;have l:Below W.heap.size W K:=⟨I.os,I.tape,I.output,I.size,fun b l=>I.block b l (fun h=>h)⟩
 have hlt:∀x∈p,x.block<W.heap.size:=fun x y=>by have:=r.lt x y;exact this
 have ao:∀z:Nat->Bool,(∀x∈p,z x.block=Sa)->Aa enc P K 0 z Sa fn.params.toList args.toList ds p:=fun z hs=>
  zSU hl l fn.params.toList args.toList ds p (fun t E=>(hc t E).2) hA (fun x y=>⟨hlt x y,hs x y⟩)
 have m:=n (ds++[]) (by simpa using al);refine⟨ds,[],p,[],p,[],r,?_,?_,?_,World.keptBut_mono (fun x y=>⟨y,.inr (.inl y)⟩) (l.frame (· ∈p)),fun h=>by cases h⟩
 .rw[m,B];refine⟨[],[],⟨1,?_⟩,rfl,rfl⟩;simp[DataW.trod,Q,Value.cells]
 .grind
 .rw[c,m];rfl
end
end Go.Ve

namespace Go.Ve
open Go
variable {i g:Int}{C:Ty.El zI}{l:Ty.El zS}
theorem qB9{p q:Ty.El zD}(h:zJc C p i l)(f:zJc C q g l):p=q/\i=g:=by obtain⟨_,_,r,x,u,n,_,_,j,k⟩:=h;obtain⟨_,_,m,t,a,c,_,_,d,w⟩:=f;rw[u]at a;cases a;rw[n]at c;cases c;rw[j]at d;exact⟨aX d,k.symm.trans w⟩
theorem qCa(e:Ty.El zS):zIH (e.1,e.2.1,()) e=true:=zNW.2 rfl
variable {I:List Int}{j:Ty.El zF}
theorem zXQ(e:qG C I j)(h:upB j i g=Sa)(m:l∈zBt j i g):uW j l.1 l.2.1=uW j i g:=by
 obtain⟨r,k,O,p⟩:=zKf h;rw[p]at m;have E:List.any r.2.2.1 (zIH (l.1,l.2.1,()))=true:=bq.2 ⟨l,m,qCa l⟩;have q:=aY.1 e.topo.so;obtain⟨t,u⟩:=aa.1 k;rcases zGi (fun I:Ty.El uR=>I.2.2.1.any (zIH (l.1,l.2.1,()))) j.2.1.1 with⟨_,G⟩|⟨v,x,H,F,y,a⟩
 .have:=G r (ae k);rw[E]at this;cases this
 .have z:uW j l.1 l.2.1=(v:Int):=H;rw[z]
  have d:v<=(uW j i g).toNat:=by
   rcases a8 (uW j i g).toNat v with hlt|c
   .have:=a _ r hlt k;rw[E]at this;cases this
   .exact c
  rcases a8 v (uW j i g).toNat with hlt|c
  .exfalso;obtain⟨A,B⟩:=aa.1 F;obtain⟨n,D,J⟩:=bq.1 y;have f:n=l:=zNW.1 J;subst f;have K:=(e.topo.ends x (ae F)).2 n D;have L:=(e.topo.ends r (ae k)).2 n m;obtain⟨M,N⟩:=qB9 K L;have:=q v _ A t hlt;rw[B,u,M,N]at this;exact qBG this
  .omega
theorem qEV(c:qG C I j)(h:upB j i g=Sa)(f:l∈zBt j i g):upB j l.1 l.2.1=true:=by
 have a:=zXQ c h f;have n:zFz j l.1 l.2.1=zFz j i g:=by unfold zFz;rw[a]
 unfold upB;rw[a,n];exact h
theorem qB7(a:qG C I j)(h:upB j i g=Sa)(c:l∈zBt j i g):zBt j l.1 l.2.1=zBt j i g:=by unfold zBt;rw[zXQ a h c]
theorem qEk(h:upB j i g=Sa):((i,g,()):Ty.El zS)∈zBt j i g:=by obtain⟨n,r,v,c⟩:=zKf h;obtain⟨f,a,k⟩:=zQU (p:=fun d:Ty.El uR=>d.2.2.1.any (zIH (i,g,()))) (xs:=j.2.1.1) v;have a:j.2.1.1[(uW j i g).toNat]?=Sb f:=a;rw[r]at a;cases a;obtain⟨e,l,m⟩:=bq.1 k;have:=zNW.1 m;rw[c,<-this];exact l
theorem qFu{p:Ty.El zS->Bool}(h:l∈zHQ j i g p):upB j i g=Sa/\l∈zBt j i g/\p l=true:=by
 unfold zHQ at h
 cases a:upB j i g with
 |false=>rw[a]at h;cases h
 |true=>rw[a]at h;obtain⟨c,d⟩:=aU.1 h;exact⟨rfl,c,d⟩
theorem qDD(f:qG C I j)(h:l∈zHQ j i g (fun l=>l.1 !=i)):((i,g,()):Ty.El zS)∈zHQ j l.1 l.2.1 (fun e'=>e'.1 !=l.1):=by
 obtain⟨a,n,c⟩:=qFu h;unfold zHQ;rw[qEV f a n,qB7 f a n];refine aU.2 ⟨qEk a,?_⟩;have c:(l.1 !=i)=true:=c;have:l.1≠i:=by simpa using c
 have:i≠l.1:=fun h=>this h.symm;simpa using this
end Go.Ve
