/-
  The bridge, part 2: from a contract over typed data to what a law's row asks of a call.
  DistGrows: the law answers true.
  DistFilters: the law answers true.
  Plain laws of path-vector routing: the neighbors of a router.
  Plain laws of path-vector routing: route maps.
-/
import Derived.ChangeSame
import Derived.Below
import Derived.Carry
import Derived.Test.YtcnlcmbchljpgaaGreatPo15
import Derived.Test.YtcnlcmbchljpgaaGreatPo10
import Derived.Test.YtcnlcmbchljpgaaGreatPo13
set_option linter.unusedVariables false
namespace Go.Ve
open Go Go.RowKit
def zVt (N:Nat):(ts:List Ty)→ElS ts→Prop
 |[],_=>True
 |t::ts,x=>t.fits N x.1∧zVt N ts x.2
section
variable {H:Type} {enc:TypeId×Value→H} {P:Program} {w:World} {sp:Nat→Bool} {held:Bool} {bk:DataW H→Nat}
theorem zRC {n:Nat} {t:TypeId} {ty:Ty} {v:Value} {x:ty.El} {F:Blk→Prop} {base:Nat} (hc:zED P n t=true) (hty:zIA P n t=some ty) (hok:Value.okWide P w .any base t v)
  (h:CR w F v.cells.toList ty x):Rd w F v (ty.enc x):=by
 cases n with
 |zero=>simp [zED] at hc
 |succ n=>
  simp only [zIA] at hty
  simp only [zED] at hc
  unfold Value.okWide at hok
  have hone:ty.cells x=[ty.enc x]→(∀cs,v≠ .agg cs)→Rd w F v (ty.enc x):=by
   intro h1 h2
   have hvc:v.cells= #[v]:=by cases v<;>first|rfl|exact absurd rfl (h2 _)
   have h3:=h.2
   rw [hvc] at h3
   exact h3 0 v (ty.enc x) rfl (by rw [h1];rfl)
  cases hu:P.underlying t with
  |none=>rw [hu] at hty;cases hty
  |some td=>
   rw [hu] at hty hc hok
   have hnoagg: ∀ (hs:ty.cells x=[ty.enc x]), ∀cs,v= .agg cs→ ∃u,cs.toList=[u]:=by
    intro hs cs hv
    subst hv
    have:=h.1
    rw [←qZ ty x,hs] at this
    simp only [Value.cells,List.length_singleton] at this
    match hcs:cs.toList,this with
    |[u],_=>exact ⟨u,rfl⟩
   cases td with
   |struct fs=>
    obtain ⟨cs,rfl,_,_⟩:=hok
    simp only [Value.cells] at h
    have hagg: ∀ (fs:List Field) (ty:Ty),fs.foldr (fun f acc=>match zIA P n f.type,acc with
      |some a,some b=>some (Ty.pair a b)
      |_,_=>none) (some .unit)=some ty→ ∀x:ty.El,ty.enc x= .agg (ty.cells x):=by
     intro fs ty hh x
     cases fs with
     |nil=>simp only [List.foldr_nil,Option.some.injEq] at hh;subst hh;rfl
     |cons f fs=>
      simp only [List.foldr_cons] at hh
      split at hh
      ·simp only [Option.some.injEq] at hh;subst hh;rfl
      ·cases hh
    rw [hagg fs.toList ty hty x]
    refine .agg cs _ ?_ ?_
    ·have:=h.1;rw [qZ];simpa using this
    ·intro i v d hv hd
     exact h.2 i v d (by simpa using hv) hd
   |bool=>
    simp only [Option.some.injEq] at hty;subst hty
    refine hone rfl ?_
    rintro cs rfl
    simp [Cell.okWide,Cell.ok,hu] at hok
   |int k=>
    simp only [Option.some.injEq] at hty;subst hty
    refine hone rfl ?_
    rintro cs rfl
    simp [Cell.okWide,Cell.ok,hu] at hok
   |string=>
    simp only [Option.some.injEq] at hty;subst hty
    refine hone rfl ?_
    rintro cs rfl
    simp [Cell.okWide,Cell.ok,hu] at hok
   |slice el=>
    simp only at hty
    split at hty
    ·simp only [Option.some.injEq] at hty;subst hty
     refine hone rfl ?_
     rintro cs rfl
     simp [Cell.okWide,Cell.ok,hu] at hok
    ·cases hty
   |array m el=>cases hc
   |_=>cases hty
theorem zO3 (hbk:zYO bk) {N base:Nat} : ∀ (pts:List TypeId) (tys:List Ty) (vs:List Value) (ds:List (DataW H)) (ps:List MemPlace),(∀t∈pts,zED P 12 t=true)→pts.mapM (zIA P 12)=some tys→
  DataW.TrodAll enc P w 0 sp held pts vs ds ps→(∀ (j:Nat) t v,pts[j]? =some t→vs[j]? =some v→Value.okWide P w .any base t v)→(∀d∈ds,bk d≤N)→
  ∃x:ElS tys,vs.length=(kQ tys x).length∧(∀ (i:Nat) (v:Value) (d:V),vs[i]? =some v→(kQ tys x)[i]? =some d→Rd w (zXC w.heap.size) v d)∧zVt N tys x:=by
 intro pts
 induction pts with
 |nil=>
  intro tys vs ds ps _ hty h _ _
  simp at hty
  subst hty
  match vs,ds,h with
  |[],[],_=>exact ⟨(),rfl,fun i v d h=>by simp at h,trivial⟩
 |cons t pts ih=>
  intro tys vs ds ps hc hty h hok hN
  rw [List.mapM_cons] at hty
  simp only [Option.bind_eq_bind,Option.bind_eq_some_iff,Option.pure_def,Option.some.injEq] at hty
  obtain ⟨ty,h1,tys',h2,rfl⟩:=hty
  match vs,ds,h with
  |v::vs,d::ds,h=>
   obtain ⟨p,q,⟨fuel,ht⟩,hr,rfl⟩:=h
   obtain ⟨x,hx,hf⟩:=zTC hbk 12 t ty fuel _ d p (hc t (by simp)) h1 ht
   obtain ⟨xs,g1,g2,g3⟩:=ih tys' vs ds q (fun t ht=>hc t (List.mem_cons_of_mem _ ht)) h2 hr (fun j t v ht hv=>hok (j+1) t v (by simpa using ht) (by simpa using hv)) (fun d hd=>hN d (List.mem_cons_of_mem _ hd))
   refine ⟨(x,xs),by simp [kQ,g1],?_,zLr (hN d (by simp)) _ _ hf,g3⟩
   intro i u dd hu hd
   cases i with
   |zero=>
    simp [kQ] at hu hd
    subst hu hd
    exact zRC (hc t (by simp)) h1 (hok 0 t v rfl rfl) hx
   |succ i=>exact g2 i u dd (by simpa using hu) (by simpa [kQ] using hd)
theorem zO4 (hl:laidOutB P=true) {W W':World} (hb:Below W.heap.size W W') {sp':Nat→Bool} : ∀ (pts:List TypeId) (vs:List Value) (ds:List (DataW H)) (ps:List MemPlace),
  (∀t∈pts,P.readableRec t=true∧t<P.types.size)→DataW.TrodAll enc P W 0 (fun _=>true) true pts vs ds ps→(∀p∈ps,p.block<W.heap.size∧sp' p.block=true)→
  DataW.TrodAll enc P W' 0 sp' true pts vs ds ps:=by
 intro pts
 induction pts with
 |nil=>intro vs ds ps _ h _;match vs,ds,h with|[],[],h=>exact h
 |cons t pts ih=>
  intro vs ds ps hr h hp
  match vs,ds,h with
  |v::vs,d::ds,h=>
   obtain ⟨p,q,ht,hq,rfl⟩:=h
   refine ⟨p,q,?_,ih vs ds q (fun t ht=>hr t (List.mem_cons_of_mem _ ht)) hq (fun x hx=>hp x (by simp [hx])),rfl⟩
   exact WideElems.Trod_stays hl (hr t (by simp)).1 (hr t (by simp)).2 ht (fun x hx=>hb.same (hp x (by simp [hx])).1) (fun x hx=>(hp x (by simp [hx])).2)
theorem zQY {f:FuncId} {fn:Func} {s:ChangeSpec} {tys:List Ty} {g:ElS tys→Option (RTy.El (.p .bool))} (hl:laidOutB P=true) (hbk:zYO bk) {N:Nat}
  (hc: ∀t∈fn.params.toList,zED P 12 t=true∧P.readableRec t=true∧t<P.types.size) (hty:fn.params.toList.mapM (zIA P 12)=some tys) (hvars:s.vars=[])
  (hspec: ∀ds:List (DataW H),ds.length=fn.params.size→s.fn H ds= { results:=[.lit (.bool true)],args:=ds })
  {tb:TypeId} (hres:fn.resultTypes= #[tb]) (htb:P.underlying tb=some .bool)
  (hg: ∀x:ElS tys,zVt N tys x→g x=some true)
  (hfn:wY jP P (fun _=>none) f (qO (wE tys (.p .bool) g)))
  {W:World} {base:Nat} {args:Array Value} {ds gs:List (DataW H)} {before:List MemPlace}
  (hval: ∀ (j:Nat) t v,fn.params[j]? =some t→args[j]? =some v→Value.okWide P W .any base t v)
  (hW:DataW.Whole enc P fn.params.toList s.vars false W args.toList ds gs before) (hN: ∀d∈ds,bk d≤N):
  Calls P f args W fun e W'=> ∃v,e= .returned v∧s.post enc P fn false true false false W args v W':=by
 have hW0:=hW
 obtain ⟨p,q,hA,hV,rfl,hfz,hnd⟩:=hW
 have hVn:gs=[]∧q=[]:=by
  rw [hvars] at hV
  match gs,hV with
  |[],hV=>exact ⟨rfl,hV⟩
 obtain ⟨rfl,rfl⟩:=hVn
 simp only [List.append_nil] at hW0
 obtain ⟨x,hx1,hx2,hx3⟩:=zO3 (w:=W) hbk fn.params.toList tys args.toList ds p (fun t ht=>(hc t ht).1) hty hA (fun j t v ht hv=>hval j t v (by simpa using ht) (by simpa using hv)) hN
 have hds:ds.length=fn.params.size:=by
  have hlen: ∀ (ts:List TypeId) (vs:List Value) (ds:List (DataW H)) (ps:List MemPlace),DataW.TrodAll enc P W 0 (fun _=>true) true ts vs ds ps→ds.length=ts.length:=by
   intro ts
   induction ts with
   |nil=>intro vs ds ps h;match vs,ds,h with|[],[],_=>rfl
   |cons t ts ih=>
    intro vs ds ps h
    match vs,ds,h with
    |v::vs,d::ds,h=>obtain ⟨_,q,_,hq,_⟩:=h;simp [ih vs ds q hq]
  have:=hlen _ _ _ _ hA
  simpa using this
 have hsp:qO (Γ:=jP) (wE tys (.p .bool) g) () (kQ tys x)=some ((), .p (.val (.bool true))):=by
  simp only [qO,wE,vD,zDR]
  rw [hg x hx3]
  rfl
 have hcall:=hfn W (zXC W.heap.size) (fun _=>False) () args (kQ tys x) () (.p (.val (.bool true))) (fun b hb=>hb) (fun g cs hg=>by cases hg) (fun b hb=>⟨hb,fun h=>h⟩)
  (by have:=hx1;simpa using this) (fun i v d hv hd=>hx2 i v d (by simpa using hv) hd) hsp
 refine hcall.mono ?_
 rintro e W' ⟨v,F',O',rfl,_,hk,_,_,_,hret⟩
 have hv:v= .bool true:=Rd.eq_val hret
 subst hv
 refine ⟨_,rfl,?_⟩
 have hb:Below W.heap.size W W':=⟨hk.os,hk.tape,hk.output,hk.size,fun b hb=>hk.block b hb (fun h=>h)⟩
 have hlt: ∀x∈p,x.block<W.heap.size:=fun x hx=>by
  have:=hW0.lt x hx;exact this
 have hargs: ∀sp':Nat→Bool,(∀x∈p,sp' x.block=true)→DataW.TrodAll enc P W' 0 sp' true fn.params.toList args.toList ds p:=fun sp' hs=>
  zO4 hl hb fn.params.toList args.toList ds p (fun t ht=>(hc t ht).2) hA (fun x hx=>⟨hlt x hx,hs x hx⟩)
 have hfnn:=hspec (ds++[]) (by simpa using hds)
 refine ⟨ds,[],p,[],p,[],hW0,?_,?_,?_,World.keptBut_mono (fun x hx=>⟨hx, .inr (.inl hx)⟩) (hb.frame (· ∈p)),fun h=>by cases h⟩
 ·rw [hfnn,hres]
  refine ⟨[],[],⟨1,?_⟩,rfl,rfl⟩
  simp [DataW.trod,htb,Value.cells]
 ·rw [hfnn]
  simp only [List.append_nil]
  exact hargs _ (fun x hx=>by simpa using hlt x hx)
 ·rw [hvars,hfnn];rfl
end
end Go.Ve

namespace Go.Ve
open Go
set_option maxRecDepth 1000000
set_option maxHeartbeats 4000000
theorem zHt {y:Ty.El zB} (h:Ty.fits 1048576 zB y):RtS y:=
 ⟨h.2.2.2.2.2.2.2.2.1.1,h.2.2.2.2.2.2.2.2.2.2.2.1.1⟩
end Go.Ve

namespace Go.Ve
open Go
set_option maxRecDepth 1000000
set_option maxHeartbeats 4000000
theorem zWv {n:Ty.El zQ} {p q:Ty.El zH} {u w:Int} {e:Ty.El zO} (h:zHm n p u e) (h':zHm n q w e):p=q∧u=w:=by
 obtain ⟨_,_,r,x,a2,a3,_,_,a5,a6⟩:=h
 obtain ⟨_,_,r',x',b2,b3,_,_,b5,b6⟩:=h'
 rw [a2] at b2
 cases b2
 rw [a3] at b3
 cases b3
 rw [a5] at b5
 exact ⟨Option.some.inj b5,a6.symm.trans b6⟩
theorem zWw (e:Ty.El zO):zG9 (e.1,e.2.1,()) e=true:=zKC.2 rfl
theorem zYs {n:Ty.El zQ} {d:List Int} {v:Ty.El zR} (hv:xX n d v) {r i:Int} (h:upB v r i=true) {e:Ty.El zO} (he:e∈vQ v r i):yR v e.1 e.2.1=yR v r i:=by
 obtain ⟨dm,hd,h0,hee⟩:=zKM h
 rw [hee] at he
 have hp:List.any dm.2.2.1 (zG9 (e.1,e.2.1,()))=true:=List.any_eq_true.2 ⟨e,he,zWw e⟩
 have hso:=List.pairwise_iff_getElem.1 hv.topo.so
 obtain ⟨hkl,hke⟩:=List.getElem?_eq_some_iff.1 hd
 rcases zCr (fun d:Ty.El zAt=>d.2.2.1.any (zG9 (e.1,e.2.1,()))) v.2.1.1 with ⟨_,h2⟩|⟨j,x,hj,hx,hpx,hmin⟩
 ·have:=h2 dm (List.mem_of_getElem? hd)
  rw [hp] at this
  cases this
 ·have hdj:yR v e.1 e.2.1=(j:Int):=hj
  rw [hdj]
  have hle:j≤(yR v r i).toNat:=by
   rcases Nat.lt_or_ge (yR v r i).toNat j with hlt|hge
   ·have:=hmin _ dm hlt hd
    rw [hp] at this
    cases this
   ·exact hge
  rcases Nat.lt_or_ge j (yR v r i).toNat with hlt|hge
  ·exfalso
   obtain ⟨hjl,hje⟩:=List.getElem?_eq_some_iff.1 hx
   obtain ⟨e',he',hb⟩:=List.any_eq_true.1 hpx
   have hee':e'=e:=zKC.1 hb
   subst hee'
   have k1:=(hv.topo.ends x (List.mem_of_getElem? hx)).2 e' he'
   have k2:=(hv.topo.ends dm (List.mem_of_getElem? hd)).2 e' he
   obtain ⟨k3,k4⟩:=zWv k1 k2
   have:=hso j _ hjl hkl hlt
   rw [hje,hke,k3,k4] at this
   exact zWc this
  ·omega
theorem zQh {n:Ty.El zQ} {d:List Int} {v:Ty.El zR} (hv:xX n d v) {r i:Int} (h:upB v r i=true) {e:Ty.El zO} (he:e∈vQ v r i):vQ v e.1 e.2.1=vQ v r i:=by
 unfold vQ
 rw [zYs hv h he]
theorem zSY {v:Ty.El zR} {r i:Int} (h:upB v r i=true):((r,i,()):Ty.El zO)∈vQ v r i:=by
 obtain ⟨dm,hd,h0,hee⟩:=zKM h
 obtain ⟨dm',hd',hp⟩:=zHE (p:=fun d:Ty.El zAt=>d.2.2.1.any (zG9 (r,i,()))) (xs:=v.2.1.1) h0
 have hd':v.2.1.1[(yR v r i).toNat]? =some dm':=hd'
 rw [hd] at hd'
 cases hd'
 obtain ⟨e,he,hb⟩:=List.any_eq_true.1 hp
 have:=zKC.1 hb
 rw [hee, ←this]
 exact he
theorem zQS {v:Ty.El zR} {r i:Int} {p:Ty.El zO→Bool} {e:Ty.El zO} (h:e∈zI8 v r i p):upB v r i=true∧e∈vQ v r i∧p e=true:=by
 unfold zI8 at h
 cases hu:upB v r i with
 |false=>rw [hu] at h;cases h
 |true=>
  rw [hu] at h
  obtain ⟨h1,h2⟩:=List.mem_filter.1 h
  exact ⟨rfl,h1,h2⟩
theorem zYq {n:Ty.El zQ} {d:List Int} {v:Ty.El zR} (hv:xX n d v) {r i:Int} (h:upB v r i=true) {e:Ty.El zO} (he:e∈vQ v r i):
  (0:Int)≤e.1∧(0:Int)≤e.2.1∧ ∃q y,v.1.1[Int.toNat e.1]? =some q∧q.2.2.1[Int.toNat e.2.1]? =some y∧y.2.2.1≠0:=by
 obtain ⟨dm,_,hall⟩:=zYp hv h
 obtain ⟨b0,b1,q,y,b2,b3,b4,_⟩:=hall e he
 exact ⟨b0,b1,q,y,by rw [hv.net];exact b2,b3,b4⟩
end Go.Ve

namespace Go.Ve
open Go
set_option maxRecDepth 1000000
set_option maxHeartbeats 4000000
def zU0 (l:List (Ty.El z6)):Prop:= ∀ (i j:Nat) (x y:Ty.El z6),j<i→l[i]? =some x→l[j]? =some y→y.1≠x.1
theorem zIu (r:Ty.El zF) (hr:SmR r):Wp (yE (r,())) (fun e=>e=0→zU0 r.2.2.2.2.2.2.2.2.2.2.1.2.2.2.1):=by
 unfold yE
 dsimp only
 have h20:=hr.i10
 have h20:r.2.2.2.2.2.2.2.2.2.2.1.2.2.2.1.length≤20:=h20
 refine zI (fun _=>zA (fun h=>by cases h)) (fun _=> ?_)
 refine zA5 (by omega) (fun i=> ∀m x,m<i→r.2.2.2.2.2.2.2.2.2.2.1.2.2.2.1[m]? =some x→ ∀j y,j<m→r.2.2.2.2.2.2.2.2.2.2.1.2.2.2.1[j]? =some y→y.1≠x.1) (fun m x hm=>by omega) ?_ (fun hj=>zA (fun _ i j x y hji hx hy=>hj i x (List.getElem?_eq_some_iff.1 hx).1 hx j y hji hy))
 intro i x hx hj
 have hi:=(List.getElem?_eq_some_iff.1 hx).1
 have hi:i<r.2.2.2.2.2.2.2.2.2.2.1.2.2.2.1.length:=hi
 have hrm: ∀nm,Wp (v7 (r,nm,())) (fun _=>True):=fun nm=>(x3 r nm hr).mono (fun _ _=>trivial)
 simp only [zJ hx,Option.bind_some]
 refine qE (zC ((show Wp _ (fun _:Bool=>True) from ?_).mono (fun s _=> ?_)))
 ·exact zD (fun _=>zA trivial) (fun _=>zC (z7 (zY _ _ _) (zA trivial)))
 refine zD (fun _=>zA (fun h=>by cases h)) (fun _=> ?_)
 refine zC ((show Wp _ (fun _:Bool=>True) from ?_).mono (fun s _=> ?_))
 ·refine zD (fun _=>zC ((hrm _).mono (fun k _=>zI (fun _=>zA trivial) (fun _=> ?_)))) (fun _=> ?_)
  ·exact zD (fun _=>zC ((hrm _).mono (fun k _=>zA trivial))) (fun _=>zA trivial)
  ·exact zD (fun _=>zC ((hrm _).mono (fun k _=>zA trivial))) (fun _=>zA trivial)
 refine zD (fun _=>zA (fun h=>by cases h)) (fun _=> ?_)
 refine zBy (n:=i) (P:=fun j=> ∀y,r.2.2.2.2.2.2.2.2.2.2.1.2.2.2.1[j]? =some y→y.1≠x.1) (by omega) ?_ (fun hall=>e2l (zA (e2l ⟨rfl,?_⟩)))
 ·intro j hjl
  obtain ⟨y,hy⟩: ∃y,r.2.2.2.2.2.2.2.2.2.2.1.2.2.2.1[j]? =some y:=⟨_,List.getElem?_eq_getElem (by omega)⟩
  simp only [zJ hy,Option.bind_some]
  refine zD (fun _=>zA (fun h=>by cases h)) (fun hn=>zA (e2l ⟨rfl,?_⟩))
  intro z hz
  rw [hy] at hz
  cases hz
  simpa using hn
 ·intro m z hm hz j y hjm hy
  rcases Nat.lt_or_ge m i with h'|h'
  ·exact hj m z h' hz j y hjm hy
  ·have:m=i:=by omega
   subst this
   rw [hx] at hz
   cases hz
   exact hall j hjm y hy
theorem zON (r:Ty.El zF) (hr:SmR r):Wp (j9 (r,())) (fun e=>e=0→zU0 r.2.2.2.2.2.2.2.2.2.2.1.2.2.2.1):=by
 unfold j9
 dsimp only
 have h1:r.2.2.2.2.2.2.2.2.2.2.1.2.2.2.1.length≤20:=hr.i10
 have h2:r.2.2.2.2.2.2.2.2.2.2.1.2.2.2.2.1.length≤20:=hr.i11
 have h3:r.2.2.2.2.2.2.2.2.2.2.1.2.2.2.2.2.1.length≤20:=hr.i12
 have h4:r.2.2.2.2.2.2.2.2.2.2.1.2.2.2.2.2.2.1.length≤20:=hr.i13
 have h5:r.2.2.2.2.2.2.2.2.2.2.1.2.2.2.2.2.2.2.1.length≤20:=hr.i14
 refine zD (fun _=> ?_) (fun _=> ?_)
 ·refine zC ((show Wp _ (fun s:Bool=>s=false→r.2.2.2.2.2.2.2.2.2.2.1.2.2.2.1.length=0) from ?_).mono (fun s hs=> ?_))
  ·refine zD (fun _=>zA (fun h=>by cases h)) (fun _=>zD (fun _=>zA (fun h=>by cases h)) (fun _=>zA (fun h=> ?_)))
   have h:=of_decide_eq_false h
   rw [zG (x:=(r.2.2.2.2.2.2.2.2.2.2.1.2.2.2.1.length:Int)+(r.2.2.2.2.2.2.2.2.2.2.1.2.2.2.2.1.length:Int)) (by omega) (by omega)] at h
   rw [zG (x:=(r.2.2.2.2.2.2.2.2.2.2.1.2.2.2.1.length:Int)+(r.2.2.2.2.2.2.2.2.2.2.1.2.2.2.2.1.length:Int)+(r.2.2.2.2.2.2.2.2.2.2.1.2.2.2.2.2.1.length:Int)) (by omega) (by omega)] at h
   rw [zG (x:=(r.2.2.2.2.2.2.2.2.2.2.1.2.2.2.1.length:Int)+(r.2.2.2.2.2.2.2.2.2.2.1.2.2.2.2.1.length:Int)+(r.2.2.2.2.2.2.2.2.2.2.1.2.2.2.2.2.1.length:Int)+(r.2.2.2.2.2.2.2.2.2.2.1.2.2.2.2.2.2.1.length:Int)) (by omega) (by omega)] at h
   rw [zG (by omega) (by omega)] at h
   omega
  ·refine zD (fun _=>zA (fun h=>by cases h)) (fun h=>zA (fun _ i j x y _ hx _=> ?_))
   have:=(List.getElem?_eq_some_iff.1 hx).1
   have hz:=hs h
   omega
 ·refine zC ((show Wp _ (fun _:Bool=>True) from ?_).mono (fun s _=> ?_))
  ·exact zD (fun _=>zA trivial) (fun _=>zC (z7 (zY _ _ _) (zD (fun _=>zA trivial) (fun _=>zC (z7 (zY _ _ _) (zA trivial))))))
  refine zD (fun _=>zA (fun h=>by cases h)) (fun _=> ?_)
  refine zC ((zIu r hr).mono (fun y6 hy6=> ?_))
  refine zD (fun hne=>zA (fun h=> ?_)) (fun h6=> ?_)
  ·have h:y6=0:=h
   rw [h] at hne
   cases hne
  have hnb:=hy6 (by simpa using h6)
  refine zC ((zB7 _ ⟨h1,h2,h3,h4,h5⟩).mono (fun y7 _=>zD (fun _=>zA (fun _=>hnb)) (fun _=> ?_)))
  exact zC ((w8 r _ _ _ _ hr h5).mono (fun y8 _=>zA (fun _=>hnb)))
theorem qA9 {r:Ty.El zF} (h:zWQ r) (hs:SmR r):zU0 r.2.2.2.2.2.2.2.2.2.2.1.2.2.2.1:=by
 obtain ⟨e,h1,h2⟩:=zON r hs
 have:=h.pv
 rw [this] at h1
 exact h2 (Option.some.inj h1).symm
def zFC (l:List (Ty.El z6)) (a:Int):Option (Ty.El z6):=l.find? (fun x=>x.1==a)
theorem zM9 {α:Type} {p:α→Bool} : ∀ {l:List α} {i:Nat} {x:α},l[i]? =some x→p x=true→(∀j y,j<i→l[j]? =some y→p y=false)→l.find? p=some x
 |[],i,x,h,_,_=>by simp at h
 |z::l,0,x,h,hp,_=>by
  simp only [List.getElem?_cons_zero,Option.some.injEq] at h
  subst h
  rw [List.find?_cons,hp]
 |z::l,i+1,x,h,hp,hn=>by
  have hz:=hn 0 z (Nat.zero_lt_succ i) rfl
  rw [List.find?_cons,hz]
  exact zM9 (by simpa using h) hp (fun j y hj hy=>hn (j+1) y (by omega) (by simpa using hy))
theorem kF (r:Ty.El zF) (a:Int) (hr:SmR r):
  Wp (jZ (r,a,())) (fun y=>match zFC r.2.2.2.2.2.2.2.2.2.2.1.2.2.2.1 a with
   |some x=>y=(x,true,())
   |none=>y=(((0:Int),(0:Int), { data:= #[] }, { data:= #[] },()),false,())):=by
 have h1:r.2.2.2.2.2.2.2.2.2.2.1.2.2.2.1.length≤20:=hr.i10
 unfold jZ
 dsimp only
 generalize r.2.2.2.2.2.2.2.2.2.2.1.2.2.2.1=l at h1
 have e0:kP (l,())=some l:=by
  refine j2 ?_
  unfold kP
  exact zC (vK (by simp only [List.length_nil];omega) (zA rfl))
 refine qE (zC (z7 e0 ?_))
 refine j7 (fun s:Int×Ty.El z6=> ∃i:Nat,s.1=(i:Int)∧i≤l.length∧ ∀j y,j<i→l[j]? =some y→(y.1==a)=false) (fun s=>((l.length:Int) -s.1).toNat) ⟨0,rfl,Nat.zero_le _,fun j y hj=>by omega⟩ ?_
 rintro ⟨s,d⟩ ⟨i,hi,hil,hn⟩
 simp only at hi
 subst hi
 refine zI (fun h=> ?_) (fun h=>zA (e2r (e2l (zA ?_))))
 ·have h:(i:Int)< (l.length:Int):=h
  obtain ⟨y,hy⟩: ∃y,l[i]? =some y:=⟨_,List.getElem?_eq_getElem (by omega)⟩
  simp only [zJ hy,Option.bind_some]
  refine zD (fun hp=>zA (e2r (e2r ?_))) (fun hp=>zA (e2l ⟨⟨i+1,?_,by omega,?_⟩,?_⟩))
  ·have:zFC l a=some y:=zM9 (p:=fun x:Ty.El z6=>x.1==a) hy hp hn
   rw [this]
  ·simp only;rw [zG (by omega) (by omega)];omega
  ·intro j z hj hz
   rcases Nat.lt_or_ge j i with h'|h'
   ·exact hn j z h' hz
   ·have:j=i:=by omega
    subst this
    rw [hy] at hz
    cases hz
    exact hp
  ·simp only;rw [zG (by omega) (by omega)];omega
 ·have h: ¬(i:Int)< (l.length:Int):=h
  have hnone:zFC l a=none:=by
   unfold zFC
   rw [List.find?_eq_none]
   intro x hx
   obtain ⟨j,hj,rfl⟩:=List.getElem_of_mem hx
   have:=hn j l[j] (by omega) (by simp)
   rw [this]
   decide
  rw [hnone]
def knB (l:List (Ty.El z6)) (a sy:Int):Bool:=l.any (fun x=>x.1==a&&x.2.1==sy)
theorem zXK {l:List (Ty.El z6)} {a:Int} {x:Ty.El z6} (h:zFC l a=some x):x∈l∧x.1=a:=by
 unfold zFC at h
 refine ⟨List.mem_of_find?_eq_some h,?_⟩
 have:=List.find?_some h
 simpa using this
theorem qAt {l:List (Ty.El z6)} (hl:zU0 l) {x y:Ty.El z6} (hx:x∈l) (hy:y∈l) (h:x.1=y.1):x=y:=by
 obtain ⟨i,hi,rfl⟩:=List.getElem_of_mem hx
 obtain ⟨j,hj,rfl⟩:=List.getElem_of_mem hy
 rcases Nat.lt_trichotomy i j with h'|h'|h'
 ·exact absurd h (hl j i _ _ h' (by simp) (by simp))
 ·subst h';rfl
 ·exact absurd h.symm (hl i j _ _ h' (by simp) (by simp))
theorem qAw {l:List (Ty.El z6)} (hl:zU0 l) (a sy:Int):knB l a sy=match zFC l a with
  |some x=>x.2.1==sy
  |none=>false:=by
 cases h:zFC l a with
 |none=>
  unfold zFC at h
  rw [List.find?_eq_none] at h
  unfold knB
  rw [List.any_eq_false]
  intro x hx
  have:=h x hx
  simp only [Bool.not_eq_true] at this
  rw [this]
  simp
 |some x=>
  obtain ⟨h1,h2⟩:=zXK h
  simp only
  rw [Bool.eq_iff_iff]
  unfold knB
  rw [List.any_eq_true]
  constructor
  ·rintro ⟨y,hy,hp⟩
   simp only [Bool.and_eq_true,beq_iff_eq] at hp
   have:=qAt hl h1 hy (h2.trans hp.1.symm)
   rw [this]
   simpa using hp.2
  ·intro hp
   exact ⟨x,h1,by simp only [Bool.and_eq_true,beq_iff_eq];exact ⟨h2,by simpa using hp⟩⟩
theorem zB9 (r:Ty.El zF) (a sy:Int) (hr:SmR r) (hn:zU0 r.2.2.2.2.2.2.2.2.2.2.1.2.2.2.1):Wp (yJ (r,a,sy,())) (fun b=>b=knB r.2.2.2.2.2.2.2.2.2.2.1.2.2.2.1 a sy):=by
 unfold yJ
 dsimp only
 refine zC ((kF r a hr).mono (fun y hy=> ?_))
 rw [qAw hn]
 cases h:zFC r.2.2.2.2.2.2.2.2.2.2.1.2.2.2.1 a with
 |none=>
  rw [h] at hy
  simp only at hy
  subst hy
  exact zC (zA (zA rfl))
 |some x=>
  rw [h] at hy
  simp only at hy
  subst hy
  exact zC (zA (zA rfl))
end Go.Ve

namespace Go.Ve
open Go
set_option maxRecDepth 1000000
set_option maxHeartbeats 4000000
structure zU3 (c:Ty.El kN):Prop where
 met: -1≤c.2.2.2.1∧c.2.2.2.1≤16777215
 tag: -1≤c.2.2.2.2.1∧c.2.2.2.2.1≤65535
 pref: -1≤c.2.2.2.2.2.1∧c.2.2.2.2.2.1≤1000000
 pre:0≤c.2.2.2.2.2.2.1∧c.2.2.2.2.2.2.1≤8
def xZ (r:Ty.El zF):Prop:= ∀m,m∈r.2.2.2.2.1→ ∀c,c∈m.2.1→zU3 c
theorem zPC (r:Ty.El zF) (hr:SmR r):Wp (kI (r,())) (fun e=>e=0→xZ r):=by
 unfold kI
 dsimp only
 have h20:r.2.2.2.2.1.length≤20:=hr.i3
 refine zI (fun _=>zA (fun h=>by cases h)) (fun _=> ?_)
 refine zAb (P:=fun m:Ty.El yW=> ∀c,c∈m.2.1→zU3 c) (by omega) ?_ (fun hall=>zA (fun _=>hall))
 intro i m hm
 have hi:=(List.getElem?_eq_some_iff.1 hm).1
 have hml:=hr.n2 m (List.mem_of_getElem? hm)
 simp only [zJ hm,Option.bind_some]
 refine qE (zC ((v6 _).mono (fun b _=> ?_)))
 refine zD (fun _=>zA (fun h=>by cases h)) (fun _=> ?_)
 refine qE (zBy (n:=i) (P:=fun _=>True) (by omega) ?_ (fun _=> ?_))
 ·intro j hj
  obtain ⟨y,hy⟩: ∃y,r.2.2.2.2.1[j]? =some y:=⟨_,List.getElem?_eq_getElem (by omega)⟩
  simp only [zJ hy,Option.bind_some]
  exact zD (fun _=>zA (fun h=>by cases h)) (fun _=>zA (e2l ⟨rfl,trivial⟩))
 refine e2l (zD (fun _=>zA (fun h=>by cases h)) (fun _=>zI (fun _=>zA (fun h=>by cases h)) (fun _=> ?_)))
 refine zU6 (xs:=m.2.1) (P:=zU3) (by omega) ?_ (fun hall=>e2l (zA (e2l ⟨rfl,hall⟩)))
 intro k c hc
 simp only [zJ hc,Option.bind_some]
 refine zC ((show Wp _ (fun _:Bool=>True) from ?_).mono (fun s _=> ?_))
 ·exact zD (fun _=>zC ((zAN r _ hr).mono (fun _ _=>zA trivial))) (fun _=>zA trivial)
 refine zD (fun _=>zA ⟨(fun u h=>by cases h),(fun h=>by cases h)⟩) (fun _=> ?_)
 refine zC ((show Wp _ (fun s:Bool=>s=false→zU3 c) from ?_).mono (fun s hs=> ?_))
 ·refine zC (z7 (zY _ _ _) (zD (fun _=>zA (fun h=>by cases h)) (fun _=> ?_)))
  refine zC (z7 (zY _ _ _) (zD (fun _=>zA (fun h=>by cases h)) (fun h2=> ?_)))
  refine zC (z7 (zY _ _ _) (zD (fun _=>zA (fun h=>by cases h)) (fun h3=> ?_)))
  refine zC (z7 (zY _ _ _) (zD (fun _=>zA (fun h=>by cases h)) (fun h4=> ?_)))
  refine zC (z7 (zY _ _ _) (zA (fun h5=>⟨by simpa using h3,by simpa using h2,by simpa using h4,by simpa using h5⟩)))
 ·exact zD (fun _=>zA ⟨(fun u h=>by cases h),(fun h=>by cases h)⟩) (fun h=>zA (e2l ⟨rfl,hs h⟩))
theorem zZl {r:Ty.El zF} (h:zWQ r) (hs:SmR r):xZ r:=by
 obtain ⟨e,h1,h2⟩:=zPC r hs
 rw [h.maps] at h1
 exact h2 (Option.some.inj h1).symm
theorem zHF {α:Type} (p:α→Bool) (xs:List α):(xE p xs= -1∧xs.find? p=none)∨ ∃ (i:Nat) (x:α),xE p xs=(i:Int)∧xs[i]? =some x∧xs.find? p=some x:=by
 rcases zCr p xs with ⟨h1,h2⟩|⟨i,x,h1,h2,h3,h4⟩
 ·refine .inl ⟨h1,?_⟩
  rw [List.find?_eq_none]
  intro x hx
  rw [h2 x hx]
  decide
 ·exact .inr ⟨i,x,h1,h2,zM9 h2 h3 h4⟩
def zR9 (r:Ty.El zF) (nm:Ty.El .str):Int:=xE (fun m:Ty.El yW=>m.1==nm) r.2.2.2.2.1
theorem zAO (r:Ty.El zF) (nm:Ty.El .str) (hr:SmR r):Wp (yN (r,nm,())) (fun k=>k=zR9 r nm):=by
 have h20:r.2.2.2.2.1.length≤20:=hr.i3
 unfold yN vL zBT
 dsimp only
 refine zC (Wp.mono (Q:=fun k=>k=zR9 r nm) ?_ (fun k hk=>zA hk))
 refine zAs (p:=fun m:Ty.El yW=>m.1==nm) (by omega) ?_ rfl
 intro i x hx
 simp only [zJ hx,Option.bind_some]
 cases x.1==nm<;>rfl
def clB (r:Ty.El zF) (x:Ty.El zB) (c:Ty.El kN):Bool:=zVn r c.2.1 x.1&&(c.2.2.1==(-1:Int)||c.2.2.1==x.2.2.2.2.2.2.1)
def zOM (r:Ty.El zF) (nm:Ty.El .str) (x:Ty.El zB):Option (Ty.El kN):=(r.2.2.2.2.1.find? (fun m:Ty.El yW=>m.1==nm)).bind (fun m=>m.2.1.find? (clB r x))
def ClI (r:Ty.El zF) (nm:Ty.El .str) (x:Ty.El zB) (k:Int):Prop:=
 (k<0∧zOM r nm x=none)∨ ∃ (i j:Nat) (m:Ty.El yW) (c:Ty.El kN),k=(i:Int)∧zR9 r nm=(j:Int)∧r.2.2.2.2.1[j]? =some m∧m.2.1[i]? =some c∧zOM r nm x=some c
theorem zZI {r:Ty.El zF} {x:Ty.El zB} {c:Ty.El kN} {f:Option Bool} (hf:Wp f (fun b=>b=zVn r c.2.1 x.1)):
  Wp (Option.bind f fun y18=>bif y18 then bif c.2.2.1==(-1:Int) then some true else some (c.2.2.1==x.2.2.2.2.2.2.1) else some false) (fun s=>s=clB r x c):=by
 refine zC (hf.mono (fun b hb=> ?_))
 unfold clB
 refine zD (fun h=>zD (fun h2=>zA ?_) (fun h2=>zA ?_)) (fun h=>zA ?_)
 ·rw [←hb,h,h2];rfl
 ·rw [←hb,h,h2];rfl
 ·rw [←hb,h];rfl
theorem zDA (r:Ty.El zF) (nm:Ty.El .str) (x:Ty.El zB) (hr:SmR r):Wp (zAY (r,nm,x,())) (ClI r nm x):=by
 unfold zAY
 dsimp only
 refine zC ((zAO r nm hr).mono (fun k hk=> ?_))
 subst hk
 rcases zHF (fun m:Ty.El yW=>m.1==nm) r.2.2.2.2.1 with ⟨h1,h2⟩|⟨j,m,h1,h2,h3⟩
 ·have h1:zR9 r nm= -1:=h1
  rw [h1]
  refine tt rfl (zA (.inl ⟨by decide,?_⟩))
  unfold zOM
  rw [h2];rfl
 ·have h1':zR9 r nm=(j:Int):=h1
  rw [h1']
  have hml:=hr.n2 m (List.mem_of_getElem? h2)
  refine zI (fun h=>absurd h (by omega)) (fun _=> ?_)
  simp only [zJ h2,Option.bind_some]
  refine zA5 (xs:=m.2.1) (by omega) (fun i=> ∀k c,k<i→m.2.1[k]? =some c→clB r x c=false) (fun k c hk=>by omega) ?_ (fun hj=>zA (.inl ⟨by decide,?_⟩))
  ·intro i c hc hj
   simp only [zJ hc,Option.bind_some]
   refine zC ((zZI (zHW r _ _ hr)).mono (fun s hs=> ?_))
   refine zD (fun h=>zA (e2r (e2r ?_))) (fun h=>zA (e2l ⟨rfl,?_⟩))
   ·refine .inr ⟨i,j,m,c,rfl,h1',h2,hc,?_⟩
    unfold zOM
    rw [h3]
    exact zM9 hc (by rw [←hs];exact h) hj
   ·intro k z hk hz
    rcases Nat.lt_or_ge k i with h'|h'
    ·exact hj k z h' hz
    ·have:k=i:=by omega
     subst this
     rw [hc] at hz
     cases hz
     rw [←hs];exact h
  ·unfold zOM
   rw [h3]
   show m.2.1.find? (clB r x)=none
   rw [List.find?_eq_none]
   intro c hc
   obtain ⟨k,hk,rfl⟩:=List.getElem_of_mem hc
   rw [hj k _ hk (by simp [hk])]
   decide
theorem zRm {r:Ty.El zF} (hm:xZ r) {nm:Ty.El .str} {x:Ty.El zB} {c:Ty.El kN} (h:zOM r nm x=some c):zU3 c:=by
 unfold zOM at h
 cases hf:r.2.2.2.2.1.find? (fun m:Ty.El yW=>m.1==nm) with
 |none=>rw [hf] at h;cases h
 |some m=>
  rw [hf] at h
  have h:m.2.1.find? (clB r x)=some c:=h
  exact hm m (List.mem_of_find?_eq_some hf) c (List.mem_of_find?_eq_some h)
def zFp (r:Ty.El zF) (nm:Ty.El .str) (x:Ty.El zB):Option (Ty.El kN):=
 match zOM r nm x with
 |some c=>bif c.1 then some c else none
 |none=>none
def zWS:Ty.El zB:=(((0:Int),(0:Int),()),(0:Int),(0:Int),(0:Int),(0:Int),(0:Int),(0:Int),(0:Int),[],(0:Int),(0:Int),[],false,())
theorem zBD (r:Ty.El zF) (nm:Ty.El .str) (x:Ty.El zB) (hr:SmR r):Wp (k8 (r,nm,x,())) (fun y=>match zFp r nm x with
  |some c=>y=(c,true,())
  |none=>y.2.1=false):=by
 unfold k8
 dsimp only
 refine zC ((zDA r nm x hr).mono (fun k hk=> ?_))
 rcases hk with ⟨h1,h2⟩|⟨i,j,m,c,rfl,h2,h3,h4,h5⟩
 ·refine zI (fun _=>zA ?_) (fun h=>absurd h1 h)
  unfold zFp
  rw [h2]
 ·refine zI (fun h=>absurd h (by omega)) (fun _=> ?_)
  refine zC ((zAO r nm hr).mono (fun k hk=> ?_))
  subst hk
  rw [h2]
  simp only [zJ h3,zJ h4,Option.bind_some]
  refine zA ?_
  unfold zFp
  rw [h5]
  cases hc:c.1 with
  |false=>simp [hc]
  |true=>simp [hc]
def zY1 (x:Ty.El zB) (c:Ty.El kN):Ty.El zB:=
 (x.1,x.2.1,x.2.2.1,x.2.2.2.1,(bif c.2.2.2.1==(-1:Int) then x.2.2.2.2.1 else c.2.2.2.1),x.2.2.2.2.2.1,(bif c.2.2.2.2.1==(-1:Int) then x.2.2.2.2.2.2.1 else c.2.2.2.2.1),(bif c.2.2.2.2.2.1==(-1:Int) then x.2.2.2.2.2.2.2.1 else c.2.2.2.2.2.1),x.2.2.2.2.2.2.2.2)
def zEz (r:Ty.El zF) (nm:Ty.El .str) (x:Ty.El zB):Option (Ty.El zB):=
 bif nm==({ data:= #[] } :ByteArray) then some x else (zFp r nm x).map (zY1 x)
theorem zLR (l:List Int) (h:l.length≤1048576):jT (l,())=some l:=by
 refine j2 ?_
 unfold jT
 exact zC (vK (by simp only [List.length_nil];omega) (zA rfl))
theorem zWC (l:List (Ty.El qP)) (h:l.length≤1048576):zAx (l,())=some l:=by
 refine j2 ?_
 unfold zAx
 exact zC (vK (by simp only [List.length_nil];omega) (zA rfl))
theorem zBE (r:Ty.El zF) (nm:Ty.El .str) (x:Ty.El zB) (hr:SmR r) (hx:RtS x):Wp (zBM (r,nm,x,())) (fun y=>y=match zEz r nm x with
  |some z=>(z,true,())
  |none=>(zWS,false,())):=by
 obtain ⟨hp,hh⟩:=hx
 obtain ⟨⟨pa,pl,⟨⟩⟩,pr,cl,ad,me,inn,tg,pf,path,fr,nx,hops,dc,⟨⟩⟩:=x
 simp only at hp hh
 unfold zBM
 dsimp only
 refine zC (z7 (zLR path hp) (zC (z7 (zWC hops hh) ?_)))
 unfold zEz
 refine zD (fun h=>zA ?_) (fun h=> ?_)
 ·rw [h];rfl
 rw [h]
 refine zC ((zBD r nm _ hr).mono (fun y2 hy=> ?_))
 generalize hx:(((pa,pl,()),pr,cl,ad,me,inn,tg,pf,path,fr,nx,hops,dc,()):Ty.El zB)=x at hy
 cases hc:zFp r nm x with
 |none=>
  rw [hc] at hy
  simp only at hy
  rw [hy]
  exact tt rfl (zA rfl)
 |some c=>
  rw [hc] at hy
  simp only at hy
  subst hy
  subst hx
  refine ff rfl ?_
  show Wp _ (fun y=>y=(zY1 _ c,true,()))
  unfold zY1
  dsimp only
  refine zC (zD (fun h1=>zA ?_) (fun h1=>zA ?_))
  all_goals
   refine zC (zD (fun h2=>zA ?_) (fun h2=>zA ?_))
   all_goals
    refine zC (zD (fun h3=>zA (zA ?_)) (fun h3=>zA (zA ?_)))
    all_goals
     have g1:=congrArg not h1
     have g2:=congrArg not h2
     have g3:=congrArg not h3
     simp only [bne,Bool.not_not,Bool.not_true,Bool.not_false] at g1 g2 g3
     rw [g1,g2,g3]
     rfl
def zNK (r:Ty.El zF) (nm:Ty.El .str) (x:Ty.El zB):Int:=
 match zFp r nm x with
 |some c=>c.2.2.2.2.2.2.1
 |none=>0
theorem zVl {r:Ty.El zF} (hm:xZ r) (nm:Ty.El .str) (x:Ty.El zB):0≤zNK r nm x∧zNK r nm x≤8:=by
 unfold zNK zFp
 cases h:zOM r nm x with
 |none=>exact ⟨by decide,by decide⟩
 |some c=>
  have:=(zRm hm h).pre
  cases hc:c.1 with
  |false=>simp [hc]
  |true=>simpa [hc] using this
theorem zHV (r:Ty.El zF) (nm:Ty.El .str) (x:Ty.El zB) (hr:SmR r):Wp (zBK (r,nm,x,())) (fun y=>y=zNK r nm x):=by
 unfold zBK
 dsimp only
 refine zC ((zBD r nm x hr).mono (fun y2 hy=> ?_))
 unfold zNK
 cases hc:zFp r nm x with
 |none=>
  rw [hc] at hy
  simp only at hy
  rw [hy]
  exact tt rfl (zA rfl)
 |some c=>
  rw [hc] at hy
  simp only at hy
  subst hy
  exact ff rfl (zA rfl)
end Go.Ve
