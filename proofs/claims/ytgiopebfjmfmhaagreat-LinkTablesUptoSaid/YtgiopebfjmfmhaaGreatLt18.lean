/- law16 -/
import Derived.ChangeSame
import Derived.Below
import Derived.Carry
import Derived.Test.YtgiopebfjmfmhaaGreatLt16
import Derived.Test.YtgiopebfjmfmhaaGreatLt11
import Derived.Test.YtgiopebfjmfmhaaGreatLt13
set_option linter.unusedVariables false
open Bool renaming true->Sa
open Option renaming some->Sb
open Go.DataW renaming TrodAll->Aa
namespace Go.Ve
open Go Go.RowKit
def qBx(N:Nat):(ts:List Ty)->ElS ts->Prop
 |[],_=>True
 |t::ts,x=>t.fits N x.1/\qBx N ts x.2
section
variable {H:Type}{enc:TypeId×Value->H}{P:Program}{w:World}{sp:Nat->Bool}{held:Bool}{bk:DataW H->Nat}
theorem zWO{n:Nat}{t:TypeId}{ty:Ty}{v:Value}{x:ty.El}{F:Blk->Prop}{p:Nat}(y:zHM P n t=Sa)(c:zL8 P n t=Sb ty)(e:Value.okWide P w .any p t v)
  (h:CR w F v.cells.toList ty x):Rd w F v (ty.enc x):=by
 cases n with
 |zero=>simp[zHM]at y
 |succ n=>
  simp only[zL8]at c;simp only[zHM]at y;unfold Value.okWide at e
  have g:ty.cells x=[ty.enc x]->(∀j,v≠ .agg j)->Rd w F v (ty.enc x):=by
   intro G I;have A:v.cells= #[v]:=by cases v<;>first|rfl|exact absurd rfl (I _)
   have D:=h.2;rw[A]at D;exact D 0 v (ty.enc x) rfl (by rw[G];rfl)
  cases J:P.underlying t with
  |none=>grind
  |some K=>
   rw[J]at c y e
   have z:∀(E:ty.cells x=[ty.enc x]),∀j,v=.agg j->∃u,j.toList=[u]:=by
    intro E j B;subst B;have:=h.1;rw[<-kS ty x,E]at this;simp only[Value.cells,bK]at this
    match L:j.toList,this with
    |[u],_=>grind
   cases K with
   |struct l=>
    obtain⟨j,rfl,_,_⟩:=e;simp only[Value.cells]at h
    have q:∀(l:List Field) (ty:Ty),l.foldr (fun f C=>match zL8 P n f.type,C with
      |some a,Sb b=>Sb (Ty.pair a b)
      |_,_=>none) (Sb .unit)=Sb ty->∀x:ty.El,ty.enc x=.agg (ty.cells x):=by
     intro l ty r x
     cases l with
     |nil=>cases r;rfl
     |cons f l=>
      simp at r;split at r
      .cases r;rfl
      .cases r
    rw[q l.toList ty c x];refine .agg j _ ?_ ?_
    .have:=h.1;grind[kS]
    .intro i v d B M;exact h.2 i v d (by simpa using B) M
   |bool=>
    cases c;refine g rfl ?_;rintro j rfl;simp[Cell.okWide,Cell.ok]at e
   |int k=>
    cases c;refine g rfl ?_;rintro j rfl;simp[Cell.okWide,Cell.ok]at e
   |string=>
    cases c;refine g rfl ?_;rintro j rfl;simp[Cell.okWide,Cell.ok]at e
   |slice N=>
    simp only at c;split at c
    .cases c;refine g rfl ?_;rintro j rfl;simp[Cell.okWide,Cell.ok]at e
    .cases c
   |array m N=>cases y
   |_=>cases c
theorem zTt(r:qFt bk){N f:Nat}:∀(a:List TypeId) (c:List Ty) (vs:List Value) (ds:List (DataW H)) (y:List MemPlace),(∀t∈a,zHM P 12 t=Sa)->a.mapM (zL8 P 12)=Sb c->
  Aa enc P w 0 sp held a vs ds y->(∀(j:Nat) t v,a[j]?=Sb t->vs[j]?=Sb v->Value.okWide P w .any f t v)->(∀d∈ds,bk d<=N)->
  ∃x:ElS c,vs.length=(yI c x).length/\(∀(i:Nat) (v:Value) (d:V),vs[i]?=Sb v->(yI c x)[i]?=Sb d->Rd w (qD9 w.heap.size) v d)/\qBx N c x:=by
 intro a
 induction a with
 |nil=>
  intro c vs ds y _ e h _ _;simp at e;subst e
  match vs,ds,h with
  |[],[],_=>exact⟨(),rfl,fun i v d h=>by simp at h,trivial⟩
 |cons t a D=>
  intro c vs ds y z e h g A;rw[List.mapM_cons]at e;simp[aG]at e;obtain⟨E,B,k,F,rfl⟩:=e
  match vs,ds,h with
  |v::vs,d::ds,h=>
   obtain⟨p,q,⟨l,m⟩,G,rfl⟩:=h;obtain⟨x,I,J⟩:=zY8 r 12 t E l _ d p (z t (by simp)) B m;obtain⟨K,L,Q,M⟩:=D k vs ds q (fun t m=>z t (aw _ m)) F G (fun j t v m O=>g (j+1) t v (by simpa using m) (by simpa using O)) (fun d n=>A d (aw _ n));refine⟨(x,K),by simp[yI,L],?_,zPv (A d (by simp)) _ _ J,M⟩;intro i u S C n
   cases i with
   |zero=>
    simp[yI]at C n;subst C n;exact zWO (z t (by simp)) B (g 0 t v rfl rfl) I
   |succ i=>grind[yI]
theorem zTu(l:laidOutB P=Sa){W k:World}(m:Below W.heap.size W k){c:Nat->Bool}:∀(a:List TypeId) (vs:List Value) (ds:List (DataW H)) (e:List MemPlace),
  (∀t∈a,P.readableRec t=Sa/\t<P.types.size)->Aa enc P W 0 (fun _=>Sa) Sa a vs ds e->(∀p∈e,p.block<W.heap.size/\c p.block=Sa)->
  Aa enc P k 0 c Sa a vs ds e:=by
 intro a
 induction a with
 |nil=>intro vs ds e _ h _;match vs,ds,h with|[],[],h=>exact h
 |cons t a n=>
  intro vs ds e g h i
  match vs,ds,h with
  |v::vs,d::ds,h=>obtain⟨p,q,j,r,rfl⟩:=h;refine⟨p,q,?_,n vs ds q (fun t j=>g t (aw _ j)) r (fun x f=>i x (by simp[f])),rfl⟩;exact WideElems.Trod_stays l (g t (by simp)).1 (g t (by simp)).2 j (fun x f=>m.same (i x (by simp[f])).1) (fun x f=>(i x (by simp[f])).2)
theorem zV2{f:FuncId}{fn:Func}{s:ChangeSpec}{a:List Ty}{g:ElS a->Option (RTy.El (.p .bool))}(hl:laidOutB P=Sa)(M:qFt bk){N:Nat}
  (hc:∀t∈fn.params.toList,zHM P 12 t=Sa/\P.readableRec t=Sa/\t<P.types.size) (O:fn.params.toList.mapM (zL8 P 12)=Sb a) (c:s.vars=[])
  (n:∀ds:List (DataW H),ds.length=fn.params.size->s.fn H ds= { results:=[.lit (.bool Sa)],args:=ds })
  {tb:TypeId} (B:fn.resultTypes= #[tb]) (Q:P.underlying tb=Sb .bool)
  (S:∀x:ElS a,qBx N a x->g x=Sb Sa)
  (Y:jK jV P (fun _=>none) f (z6 (qQ a (.p .bool) g)))
  {W:World} {C:Nat} {args:Array Value} {ds Z:List (DataW H)} {k:List MemPlace}
  (D:∀(j:Nat) t v,fn.params[j]?=Sb t->args[j]?=Sb v->Value.okWide P W .any C t v)
  (hW:DataW.Whole enc P fn.params.toList s.vars false W args.toList ds Z k) (hN:∀d∈ds,bk d<=N):
  Calls P f args W fun e K=>∃v,e=.returned v/\s.post enc P fn false Sa false false W args v K:=by
 have r:=hW;obtain⟨p,q,hA,L,rfl,av,ax⟩:=hW
 have ab:Z=[]/\q=[]:=by
  rw[c]at L
  match Z,L with
  |[],L=>exact⟨rfl,L⟩
 obtain⟨rfl,rfl⟩:=ab;simp at r;obtain⟨x,ay,ad,ag⟩:=zTt (w:=W) M fn.params.toList a args.toList ds p (fun t E=>(hc t E).1) O hA (fun j t v E F=>D j t v (by simpa using E) (by simpa using F)) hN
 have al:ds.length=fn.params.size:=by
  have ap:∀(G:List TypeId) (A:List Value) (ds:List (DataW H)) (ps:List MemPlace),Aa enc P W 0 (fun _=>Sa) Sa G A ds ps->ds.length=G.length:=by
   intro G
   induction G with
   |nil=>intro A ds ps h;match A,ds,h with|[],[],_=>rfl
   |cons t G ih=>
    intro A ds ps h
    match A,ds,h with
    |v::A,d::ds,h=>obtain⟨_,q,_,hq,_⟩:=h;grind
  grind
 have an:z6 (Γ:=jV) (qQ a (.p .bool) g) () (yI a x)=Sb ((),.p (.val (.bool Sa))):=by simp[z6,qQ,vT,zBA];rw[S x ag];rfl
 have u:=Y W (qD9 W.heap.size) (fun _=>False) () args (yI a x) () (.p (.val (.bool Sa))) ⟨fun b l=>l,fun _ _ _ h=>h,fun _ h=>h⟩ (fun g cs S=>by cases S) (fun b l=>⟨l,fun h=>h⟩)
  (by omega) (fun i v d F hd=>ad i v d (by simpa using F) hd) an
 refine u.mono ?_;rintro e K ⟨v,F',O',rfl,_,I,_,_,_,J⟩;have F:v=.bool true:=Rd.eq_val J;subst F;refine⟨_,rfl,?_⟩;have l:Below W.heap.size W K:=⟨I.os,I.tape,I.output,I.size,fun b l=>I.block b l (fun h=>h)⟩
 have hlt:∀x∈p,x.block<W.heap.size:=fun x y=>by have:=r.lt x y;exact this
 have ao:∀z:Nat->Bool,(∀x∈p,z x.block=Sa)->Aa enc P K 0 z Sa fn.params.toList args.toList ds p:=fun z hs=>
  zTu hl l fn.params.toList args.toList ds p (fun t E=>(hc t E).2) hA (fun x y=>⟨hlt x y,hs x y⟩)
 have m:=n (ds++[]) (by simpa using al);refine⟨ds,[],p,[],p,[],r,?_,?_,?_,World.keptBut_mono (fun x y=>⟨y,.inr (.inl y)⟩) (l.frame (· ∈p)),fun h=>by cases h⟩
 .rw[m,B];refine⟨[],[],⟨1,?_⟩,rfl,rfl⟩;simp[DataW.trod,Q,Value.cells]
 .grind
 .rw[c,m];rfl
end
end Go.Ve


