/-
  The bridge, part 2: from a contract over typed data to what a law's row asks of a call.
  DistGrows: the law answers true.
  DistFilters: the law answers true.
  Plain laws of path-vector routing: the neighbors of a router.
  Plain laws of path-vector routing: route maps.
-/
import Derived.ChangeSame
import Derived.Below
import Derived.Carry
import Derived.Test.YtcnlcmbchljpgaaGreatPl14
import Derived.Test.YtcnlcmbchljpgaaGreatPl10
import Derived.Test.YtcnlcmbchljpgaaGreatPl12
set_option linter.unusedVariables false
namespace Go.Ve
open Go Go.RowKit
def zU3 (N:Nat):(ts:List Ty)→ElS ts→Prop
 |[],_=>True
 |t::ts,x=>t.fits N x.1∧zU3 N ts x.2
section
variable {H:Type} {enc:TypeId×Value→H} {P:Program} {w:World} {sp:Nat→Bool} {held:Bool} {bk:DataW H→Nat}
theorem zRn {n:Nat} {t:TypeId} {ty:Ty} {v:Value} {x:ty.El} {F:Blk→Prop} {base:Nat} (hc:zEt P n t=true) (hty:zIf P n t=some ty) (hok:Value.okWide P w .any base t v)
  (h:CR w F v.cells.toList ty x):Rd w F v (ty.enc x):=by
 cases n with
 |zero=>simp [zEt] at hc
 |succ n=>
  simp only [zIf] at hty
  simp only [zEt] at hc
  unfold Value.okWide at hok
  have hone:ty.cells x=[ty.enc x]→(∀cs,v≠ .agg cs)→Rd w F v (ty.enc x):=by
   intro h1 h2
   have hvc:v.cells= #[v]:=by cases v<;>first|rfl|exact absurd rfl (h2 _)
   have h3:=h.2
   rw [hvc] at h3
   exact h3 0 v (ty.enc x) rfl (by rw [h1];rfl)
  cases hu:P.underlying t with
  |none=>rw [hu] at hty;cases hty
  |some td=>
   rw [hu] at hty hc hok
   have hnoagg: ∀ (hs:ty.cells x=[ty.enc x]), ∀cs,v= .agg cs→ ∃u,cs.toList=[u]:=by
    intro hs cs hv
    subst hv
    have:=h.1
    rw [←qW ty x,hs] at this
    simp only [Value.cells,List.length_singleton] at this
    match hcs:cs.toList,this with
    |[u],_=>exact ⟨u,rfl⟩
   cases td with
   |struct fs=>
    obtain ⟨cs,rfl,_,_⟩:=hok
    simp only [Value.cells] at h
    have hagg: ∀ (fs:List Field) (ty:Ty),fs.foldr (fun f acc=>match zIf P n f.type,acc with
      |some a,some b=>some (Ty.pair a b)
      |_,_=>none) (some .unit)=some ty→ ∀x:ty.El,ty.enc x= .agg (ty.cells x):=by
     intro fs ty hh x
     cases fs with
     |nil=>simp only [List.foldr_nil,Option.some.injEq] at hh;subst hh;rfl
     |cons f fs=>
      simp only [List.foldr_cons] at hh
      split at hh
      ·simp only [Option.some.injEq] at hh;subst hh;rfl
      ·cases hh
    rw [hagg fs.toList ty hty x]
    refine .agg cs _ ?_ ?_
    ·have:=h.1;rw [qW];simpa using this
    ·intro i v d hv hd
     exact h.2 i v d (by simpa using hv) hd
   |bool=>
    simp only [Option.some.injEq] at hty;subst hty
    refine hone rfl ?_
    rintro cs rfl
    simp [Cell.okWide,Cell.ok,hu] at hok
   |int k=>
    simp only [Option.some.injEq] at hty;subst hty
    refine hone rfl ?_
    rintro cs rfl
    simp [Cell.okWide,Cell.ok,hu] at hok
   |string=>
    simp only [Option.some.injEq] at hty;subst hty
    refine hone rfl ?_
    rintro cs rfl
    simp [Cell.okWide,Cell.ok,hu] at hok
   |slice el=>
    simp only at hty
    split at hty
    ·simp only [Option.some.injEq] at hty;subst hty
     refine hone rfl ?_
     rintro cs rfl
     simp [Cell.okWide,Cell.ok,hu] at hok
    ·cases hty
   |array m el=>cases hc
   |_=>cases hty
theorem zOO (hbk:zYj bk) {N base:Nat} : ∀ (pts:List TypeId) (tys:List Ty) (vs:List Value) (ds:List (DataW H)) (ps:List MemPlace),(∀t∈pts,zEt P 12 t=true)→pts.mapM (zIf P 12)=some tys→
  DataW.TrodAll enc P w 0 sp held pts vs ds ps→(∀ (j:Nat) t v,pts[j]? =some t→vs[j]? =some v→Value.okWide P w .any base t v)→(∀d∈ds,bk d≤N)→
  ∃x:ElS tys,vs.length=(kA tys x).length∧(∀ (i:Nat) (v:Value) (d:V),vs[i]? =some v→(kA tys x)[i]? =some d→Rd w (zW6 w.heap.size) v d)∧zU3 N tys x:=by
 intro pts
 induction pts with
 |nil=>
  intro tys vs ds ps _ hty h _ _
  simp at hty
  subst hty
  match vs,ds,h with
  |[],[],_=>exact ⟨(),rfl,fun i v d h=>by simp at h,trivial⟩
 |cons t pts ih=>
  intro tys vs ds ps hc hty h hok hN
  rw [List.mapM_cons] at hty
  simp only [Option.bind_eq_bind,Option.bind_eq_some_iff,Option.pure_def,Option.some.injEq] at hty
  obtain ⟨ty,h1,tys',h2,rfl⟩:=hty
  match vs,ds,h with
  |v::vs,d::ds,h=>
   obtain ⟨p,q,⟨fuel,ht⟩,hr,rfl⟩:=h
   obtain ⟨x,hx,hf⟩:=zTf hbk 12 t ty fuel _ d p (hc t (by simp)) h1 ht
   obtain ⟨xs,g1,g2,g3⟩:=ih tys' vs ds q (fun t ht=>hc t (List.mem_cons_of_mem _ ht)) h2 hr (fun j t v ht hv=>hok (j+1) t v (by simpa using ht) (by simpa using hv)) (fun d hd=>hN d (List.mem_cons_of_mem _ hd))
   refine ⟨(x,xs),by simp [kA,g1],?_,zLf (hN d (by simp)) _ _ hf,g3⟩
   intro i u dd hu hd
   cases i with
   |zero=>
    simp [kA] at hu hd
    subst hu hd
    exact zRn (hc t (by simp)) h1 (hok 0 t v rfl rfl) hx
   |succ i=>exact g2 i u dd (by simpa using hu) (by simpa [kA] using hd)
theorem zOP (hl:laidOutB P=true) {W W':World} (hb:Below W.heap.size W W') {sp':Nat→Bool} : ∀ (pts:List TypeId) (vs:List Value) (ds:List (DataW H)) (ps:List MemPlace),
  (∀t∈pts,P.readableRec t=true∧t<P.types.size)→DataW.TrodAll enc P W 0 (fun _=>true) true pts vs ds ps→(∀p∈ps,p.block<W.heap.size∧sp' p.block=true)→
  DataW.TrodAll enc P W' 0 sp' true pts vs ds ps:=by
 intro pts
 induction pts with
 |nil=>intro vs ds ps _ h _;match vs,ds,h with|[],[],h=>exact h
 |cons t pts ih=>
  intro vs ds ps hr h hp
  match vs,ds,h with
  |v::vs,d::ds,h=>
   obtain ⟨p,q,ht,hq,rfl⟩:=h
   refine ⟨p,q,?_,ih vs ds q (fun t ht=>hr t (List.mem_cons_of_mem _ ht)) hq (fun x hx=>hp x (by simp [hx])),rfl⟩
   exact WideElems.Trod_stays hl (hr t (by simp)).1 (hr t (by simp)).2 ht (fun x hx=>hb.same (hp x (by simp [hx])).1) (fun x hx=>(hp x (by simp [hx])).2)
theorem zQK {f:FuncId} {fn:Func} {s:ChangeSpec} {tys:List Ty} {g:ElS tys→Option (RTy.El (.p .bool))} (hl:laidOutB P=true) (hbk:zYj bk) {N:Nat}
  (hc: ∀t∈fn.params.toList,zEt P 12 t=true∧P.readableRec t=true∧t<P.types.size) (hty:fn.params.toList.mapM (zIf P 12)=some tys) (hvars:s.vars=[])
  (hspec: ∀ds:List (DataW H),ds.length=fn.params.size→s.fn H ds= { results:=[.lit (.bool true)],args:=ds })
  {tb:TypeId} (hres:fn.resultTypes= #[tb]) (htb:P.underlying tb=some .bool)
  (hg: ∀x:ElS tys,zU3 N tys x→g x=some true)
  (hfn:wL jL P (fun _=>none) f (qN (j4 tys (.p .bool) g)))
  {W:World} {base:Nat} {args:Array Value} {ds gs:List (DataW H)} {before:List MemPlace}
  (hval: ∀ (j:Nat) t v,fn.params[j]? =some t→args[j]? =some v→Value.okWide P W .any base t v)
  (hW:DataW.Whole enc P fn.params.toList s.vars false W args.toList ds gs before) (hN: ∀d∈ds,bk d≤N):
  Calls P f args W fun e W'=> ∃v,e= .returned v∧s.post enc P fn false true false false W args v W':=by
 have hW0:=hW
 obtain ⟨p,q,hA,hV,rfl,hfz,hnd⟩:=hW
 have hVn:gs=[]∧q=[]:=by
  rw [hvars] at hV
  match gs,hV with
  |[],hV=>exact ⟨rfl,hV⟩
 obtain ⟨rfl,rfl⟩:=hVn
 simp only [List.append_nil] at hW0
 obtain ⟨x,hx1,hx2,hx3⟩:=zOO (w:=W) hbk fn.params.toList tys args.toList ds p (fun t ht=>(hc t ht).1) hty hA (fun j t v ht hv=>hval j t v (by simpa using ht) (by simpa using hv)) hN
 have hds:ds.length=fn.params.size:=by
  have hlen: ∀ (ts:List TypeId) (vs:List Value) (ds:List (DataW H)) (ps:List MemPlace),DataW.TrodAll enc P W 0 (fun _=>true) true ts vs ds ps→ds.length=ts.length:=by
   intro ts
   induction ts with
   |nil=>intro vs ds ps h;match vs,ds,h with|[],[],_=>rfl
   |cons t ts ih=>
    intro vs ds ps h
    match vs,ds,h with
    |v::vs,d::ds,h=>obtain ⟨_,q,_,hq,_⟩:=h;simp [ih vs ds q hq]
  have:=hlen _ _ _ _ hA
  simpa using this
 have hsp:qN (Γ:=jL) (j4 tys (.p .bool) g) () (kA tys x)=some ((), .p (.val (.bool true))):=by
  simp only [qN,j4,wY,zDG]
  rw [hg x hx3]
  rfl
 have hcall:=hfn W (zW6 W.heap.size) (fun _=>False) () args (kA tys x) () (.p (.val (.bool true))) (fun b hb=>hb) (fun g cs hg=>by cases hg) (fun b hb=>⟨hb,fun h=>h⟩)
  (by have:=hx1;simpa using this) (fun i v d hv hd=>hx2 i v d (by simpa using hv) hd) hsp
 refine hcall.mono ?_
 rintro e W' ⟨v,F',O',rfl,_,hk,_,_,_,hret⟩
 have hv:v= .bool true:=Rd.eq_val hret
 subst hv
 refine ⟨_,rfl,?_⟩
 have hb:Below W.heap.size W W':=⟨hk.os,hk.tape,hk.output,hk.size,fun b hb=>hk.block b hb (fun h=>h)⟩
 have hlt: ∀x∈p,x.block<W.heap.size:=fun x hx=>by
  have:=hW0.lt x hx;exact this
 have hargs: ∀sp':Nat→Bool,(∀x∈p,sp' x.block=true)→DataW.TrodAll enc P W' 0 sp' true fn.params.toList args.toList ds p:=fun sp' hs=>
  zOP hl hb fn.params.toList args.toList ds p (fun t ht=>(hc t ht).2) hA (fun x hx=>⟨hlt x hx,hs x hx⟩)
 have hfnn:=hspec (ds++[]) (by simpa using hds)
 refine ⟨ds,[],p,[],p,[],hW0,?_,?_,?_,World.keptBut_mono (fun x hx=>⟨hx, .inr (.inl hx)⟩) (hb.frame (· ∈p)),fun h=>by cases h⟩
 ·rw [hfnn,hres]
  refine ⟨[],[],⟨1,?_⟩,rfl,rfl⟩
  simp [DataW.trod,htb,Value.cells]
 ·rw [hfnn]
  simp only [List.append_nil]
  exact hargs _ (fun x hx=>by simpa using hlt x hx)
 ·rw [hvars,hfnn];rfl
end
end Go.Ve

namespace Go.Ve
open Go
set_option maxRecDepth 1000000
set_option maxHeartbeats 4000000
theorem zVs {y:Ty.El zA} (h:Ty.fits 1048576 zA y):RtS y:=
 ⟨h.2.2.2.2.2.2.2.2.1.1,h.2.2.2.2.2.2.2.2.2.2.2.1.1⟩
end Go.Ve

namespace Go.Ve
open Go
set_option maxRecDepth 1000000
set_option maxHeartbeats 4000000
theorem zXQ {v:Ty.El zR} {r i:Int} (h:upB v r i=true):((r,i,()):Ty.El zL)∈xY v r i:=by
 obtain ⟨dm,hd,h0,hee⟩:=zKB h
 obtain ⟨dm',hd',hp⟩:=zHp (p:=fun d:Ty.El uH=>d.2.2.1.any (zGe (r,i,()))) (xs:=v.2.1.1) h0
 have hd':v.2.1.1[(uC v r i).toNat]? =some dm':=hd'
 rw [hd] at hd'
 cases hd'
 obtain ⟨e,he,hb⟩:=List.any_eq_true.1 hp
 have:=zSE.1 hb
 rw [hee, ←this]
 exact he
theorem zMY {v:Ty.El zR} {r i:Int} {p:Ty.El zL→Bool} {e:Ty.El zL} (h:e∈zGb v r i p):upB v r i=true∧e∈xY v r i∧p e=true:=by
 unfold zGb at h
 cases hu:upB v r i with
 |false=>rw [hu] at h;cases h
 |true=>
  rw [hu] at h
  obtain ⟨h1,h2⟩:=List.mem_filter.1 h
  exact ⟨rfl,h1,h2⟩
theorem zXT {n:Ty.El zV} {d:List Int} {v:Ty.El zR} (hv:zCg n d v) {r i:Int} (h:upB v r i=true) {e:Ty.El zL} (he:e∈xY v r i):
  (0:Int)≤e.1∧(0:Int)≤e.2.1∧ ∃q y,v.1.1[Int.toNat e.1]? =some q∧q.2.2.1[Int.toNat e.2.1]? =some y∧y.2.2.1≠0:=by
 obtain ⟨dm,_,hall⟩:=zXS hv h
 obtain ⟨b0,b1,q,y,b2,b3,b4,_⟩:=hall e he
 exact ⟨b0,b1,q,y,by rw [hv.net];exact b2,b3,b4⟩
end Go.Ve

namespace Go.Ve
open Go
set_option maxRecDepth 1000000
set_option maxHeartbeats 4000000
def zUE (l:List (Ty.El zT)):Prop:= ∀ (i j:Nat) (x y:Ty.El zT),j<i→l[i]? =some x→l[j]? =some y→y.1≠x.1
theorem zPs (r:Ty.El zD) (hr:SmR r):Wp (uW (r,())) (fun e=>e=0→zUE r.2.2.2.2.2.2.2.2.2.2.1.2.2.2.1):=by
 unfold uW
 dsimp only
 have h20:=hr.i10
 have h20:r.2.2.2.2.2.2.2.2.2.2.1.2.2.2.1.length≤20:=h20
 refine zI (fun _=>zB (fun h=>by cases h)) (fun _=> ?_)
 refine zAJ (by omega) (fun i=> ∀m x,m<i→r.2.2.2.2.2.2.2.2.2.2.1.2.2.2.1[m]? =some x→ ∀j y,j<m→r.2.2.2.2.2.2.2.2.2.2.1.2.2.2.1[j]? =some y→y.1≠x.1) (fun m x hm=>by omega) ?_ (fun hj=>zB (fun _ i j x y hji hx hy=>hj i x (List.getElem?_eq_some_iff.1 hx).1 hx j y hji hy))
 intro i x hx hj
 have hi:=(List.getElem?_eq_some_iff.1 hx).1
 have hi:i<r.2.2.2.2.2.2.2.2.2.2.1.2.2.2.1.length:=hi
 have hrm: ∀nm,Wp (vO (r,nm,())) (fun _=>True):=fun nm=>(zBh r nm hr).mono (fun _ _=>trivial)
 simp only [zJ hx,Option.bind_some]
 refine qD (zC ((show Wp _ (fun _:Bool=>True) from ?_).mono (fun s _=> ?_)))
 ·exact zG (fun _=>zB trivial) (fun _=>zC (qJ (qB _ _ _) (zB trivial)))
 refine zG (fun _=>zB (fun h=>by cases h)) (fun _=> ?_)
 refine zC ((show Wp _ (fun _:Bool=>True) from ?_).mono (fun s _=> ?_))
 ·refine zG (fun _=>zC ((hrm _).mono (fun k _=>zI (fun _=>zB trivial) (fun _=> ?_)))) (fun _=> ?_)
  ·exact zG (fun _=>zC ((hrm _).mono (fun k _=>zB trivial))) (fun _=>zB trivial)
  ·exact zG (fun _=>zC ((hrm _).mono (fun k _=>zB trivial))) (fun _=>zB trivial)
 refine zG (fun _=>zB (fun h=>by cases h)) (fun _=> ?_)
 refine zEX (n:=i) (P:=fun j=> ∀y,r.2.2.2.2.2.2.2.2.2.2.1.2.2.2.1[j]? =some y→y.1≠x.1) (by omega) ?_ (fun hall=>e2l (zB (e2l ⟨rfl,?_⟩)))
 ·intro j hjl
  obtain ⟨y,hy⟩: ∃y,r.2.2.2.2.2.2.2.2.2.2.1.2.2.2.1[j]? =some y:=⟨_,List.getElem?_eq_getElem (by omega)⟩
  simp only [zJ hy,Option.bind_some]
  refine zG (fun _=>zB (fun h=>by cases h)) (fun hn=>zB (e2l ⟨rfl,?_⟩))
  intro z hz
  rw [hy] at hz
  cases hz
  simpa using hn
 ·intro m z hm hz j y hjm hy
  rcases Nat.lt_or_ge m i with h'|h'
  ·exact hj m z h' hz j y hjm hy
  ·have:m=i:=by omega
   subst this
   rw [hx] at hz
   cases hz
   exact hall j hjm y hy
theorem zOB (r:Ty.El zD) (hr:SmR r):Wp (vA (r,())) (fun e=>e=0→zUE r.2.2.2.2.2.2.2.2.2.2.1.2.2.2.1):=by
 unfold vA
 dsimp only
 have h1:r.2.2.2.2.2.2.2.2.2.2.1.2.2.2.1.length≤20:=hr.i10
 have h2:r.2.2.2.2.2.2.2.2.2.2.1.2.2.2.2.1.length≤20:=hr.i11
 have h3:r.2.2.2.2.2.2.2.2.2.2.1.2.2.2.2.2.1.length≤20:=hr.i12
 have h4:r.2.2.2.2.2.2.2.2.2.2.1.2.2.2.2.2.2.1.length≤20:=hr.i13
 have h5:r.2.2.2.2.2.2.2.2.2.2.1.2.2.2.2.2.2.2.1.length≤20:=hr.i14
 refine zG (fun _=> ?_) (fun _=> ?_)
 ·refine zC ((show Wp _ (fun s:Bool=>s=false→r.2.2.2.2.2.2.2.2.2.2.1.2.2.2.1.length=0) from ?_).mono (fun s hs=> ?_))
  ·refine zG (fun _=>zB (fun h=>by cases h)) (fun _=>zG (fun _=>zB (fun h=>by cases h)) (fun _=>zB (fun h=> ?_)))
   have h:=of_decide_eq_false h
   rw [zF (x:=(r.2.2.2.2.2.2.2.2.2.2.1.2.2.2.1.length:Int)+(r.2.2.2.2.2.2.2.2.2.2.1.2.2.2.2.1.length:Int)) (by omega) (by omega)] at h
   rw [zF (x:=(r.2.2.2.2.2.2.2.2.2.2.1.2.2.2.1.length:Int)+(r.2.2.2.2.2.2.2.2.2.2.1.2.2.2.2.1.length:Int)+(r.2.2.2.2.2.2.2.2.2.2.1.2.2.2.2.2.1.length:Int)) (by omega) (by omega)] at h
   rw [zF (x:=(r.2.2.2.2.2.2.2.2.2.2.1.2.2.2.1.length:Int)+(r.2.2.2.2.2.2.2.2.2.2.1.2.2.2.2.1.length:Int)+(r.2.2.2.2.2.2.2.2.2.2.1.2.2.2.2.2.1.length:Int)+(r.2.2.2.2.2.2.2.2.2.2.1.2.2.2.2.2.2.1.length:Int)) (by omega) (by omega)] at h
   rw [zF (by omega) (by omega)] at h
   omega
  ·refine zG (fun _=>zB (fun h=>by cases h)) (fun h=>zB (fun _ i j x y _ hx _=> ?_))
   have:=(List.getElem?_eq_some_iff.1 hx).1
   have hz:=hs h
   omega
 ·refine zC ((show Wp _ (fun _:Bool=>True) from ?_).mono (fun s _=> ?_))
  ·exact zG (fun _=>zB trivial) (fun _=>zC (qJ (qB _ _ _) (zG (fun _=>zB trivial) (fun _=>zC (qJ (qB _ _ _) (zB trivial))))))
  refine zG (fun _=>zB (fun h=>by cases h)) (fun _=> ?_)
  refine zC ((zPs r hr).mono (fun y6 hy6=> ?_))
  refine zG (fun hne=>zB (fun h=> ?_)) (fun h6=> ?_)
  ·have h:y6=0:=h
   rw [h] at hne
   cases hne
  have hnb:=hy6 (by simpa using h6)
  refine zC ((zBU _ ⟨h1,h2,h3,h4,h5⟩).mono (fun y7 _=>zG (fun _=>zB (fun _=>hnb)) (fun _=> ?_)))
  exact zC ((wT r _ _ _ _ hr h5).mono (fun y8 _=>zB (fun _=>hnb)))
theorem qAz {r:Ty.El zD} (h:zYd r) (hs:SmR r):zUE r.2.2.2.2.2.2.2.2.2.2.1.2.2.2.1:=by
 obtain ⟨e,h1,h2⟩:=zOB r hs
 have:=h.pv
 rw [this] at h1
 exact h2 (Option.some.inj h1).symm
def zGc (l:List (Ty.El zT)) (a:Int):Option (Ty.El zT):=l.find? (fun x=>x.1==a)
theorem zM0 {α:Type} {p:α→Bool} : ∀ {l:List α} {i:Nat} {x:α},l[i]? =some x→p x=true→(∀j y,j<i→l[j]? =some y→p y=false)→l.find? p=some x
 |[],i,x,h,_,_=>by simp at h
 |z::l,0,x,h,hp,_=>by
  simp only [List.getElem?_cons_zero,Option.some.injEq] at h
  subst h
  rw [List.find?_cons,hp]
 |z::l,i+1,x,h,hp,hn=>by
  have hz:=hn 0 z (Nat.zero_lt_succ i) rfl
  rw [List.find?_cons,hz]
  exact zM0 (by simpa using h) hp (fun j y hj hy=>hn (j+1) y (by omega) (by simpa using hy))
theorem vW (r:Ty.El zD) (a:Int) (hr:SmR r):
  Wp (jU (r,a,())) (fun y=>match zGc r.2.2.2.2.2.2.2.2.2.2.1.2.2.2.1 a with
   |some x=>y=(x,true,())
   |none=>y=(((0:Int),(0:Int), { data:= #[] }, { data:= #[] },()),false,())):=by
 have h1:r.2.2.2.2.2.2.2.2.2.2.1.2.2.2.1.length≤20:=hr.i10
 unfold jU
 dsimp only
 generalize r.2.2.2.2.2.2.2.2.2.2.1.2.2.2.1=l at h1
 have e0:v7 (l,())=some l:=by
  refine wM ?_
  unfold v7
  exact zC (wN (by simp only [List.length_nil];omega) (zB rfl))
 refine qD (zC (qJ e0 ?_))
 refine jY (fun s:Int×Ty.El zT=> ∃i:Nat,s.1=(i:Int)∧i≤l.length∧ ∀j y,j<i→l[j]? =some y→(y.1==a)=false) (fun s=>((l.length:Int) -s.1).toNat) ⟨0,rfl,Nat.zero_le _,fun j y hj=>by omega⟩ ?_
 rintro ⟨s,d⟩ ⟨i,hi,hil,hn⟩
 simp only at hi
 subst hi
 refine zI (fun h=> ?_) (fun h=>zB (e2r (e2l (zB ?_))))
 ·have h:(i:Int)< (l.length:Int):=h
  obtain ⟨y,hy⟩: ∃y,l[i]? =some y:=⟨_,List.getElem?_eq_getElem (by omega)⟩
  simp only [zJ hy,Option.bind_some]
  refine zG (fun hp=>zB (e2r (e2r ?_))) (fun hp=>zB (e2l ⟨⟨i+1,?_,by omega,?_⟩,?_⟩))
  ·have:zGc l a=some y:=zM0 (p:=fun x:Ty.El zT=>x.1==a) hy hp hn
   rw [this]
  ·simp only;rw [zF (by omega) (by omega)];omega
  ·intro j z hj hz
   rcases Nat.lt_or_ge j i with h'|h'
   ·exact hn j z h' hz
   ·have:j=i:=by omega
    subst this
    rw [hy] at hz
    cases hz
    exact hp
  ·simp only;rw [zF (by omega) (by omega)];omega
 ·have h: ¬(i:Int)< (l.length:Int):=h
  have hnone:zGc l a=none:=by
   unfold zGc
   rw [List.find?_eq_none]
   intro x hx
   obtain ⟨j,hj,rfl⟩:=List.getElem_of_mem hx
   have:=hn j l[j] (by omega) (by simp)
   rw [this]
   decide
  rw [hnone]
def knB (l:List (Ty.El zT)) (a sy:Int):Bool:=l.any (fun x=>x.1==a&&x.2.1==sy)
theorem zXe {l:List (Ty.El zT)} {a:Int} {x:Ty.El zT} (h:zGc l a=some x):x∈l∧x.1=a:=by
 unfold zGc at h
 refine ⟨List.mem_of_find?_eq_some h,?_⟩
 have:=List.find?_some h
 simpa using this
theorem zZT {l:List (Ty.El zT)} (hl:zUE l) {x y:Ty.El zT} (hx:x∈l) (hy:y∈l) (h:x.1=y.1):x=y:=by
 obtain ⟨i,hi,rfl⟩:=List.getElem_of_mem hx
 obtain ⟨j,hj,rfl⟩:=List.getElem_of_mem hy
 rcases Nat.lt_trichotomy i j with h'|h'|h'
 ·exact absurd h (hl j i _ _ h' (by simp) (by simp))
 ·subst h';rfl
 ·exact absurd h.symm (hl i j _ _ h' (by simp) (by simp))
theorem zZW {l:List (Ty.El zT)} (hl:zUE l) (a sy:Int):knB l a sy=match zGc l a with
  |some x=>x.2.1==sy
  |none=>false:=by
 cases h:zGc l a with
 |none=>
  unfold zGc at h
  rw [List.find?_eq_none] at h
  unfold knB
  rw [List.any_eq_false]
  intro x hx
  have:=h x hx
  simp only [Bool.not_eq_true] at this
  rw [this]
  simp
 |some x=>
  obtain ⟨h1,h2⟩:=zXe h
  simp only
  rw [Bool.eq_iff_iff]
  unfold knB
  rw [List.any_eq_true]
  constructor
  ·rintro ⟨y,hy,hp⟩
   simp only [Bool.and_eq_true,beq_iff_eq] at hp
   have:=zZT hl h1 hy (h2.trans hp.1.symm)
   rw [this]
   simpa using hp.2
  ·intro hp
   exact ⟨x,h1,by simp only [Bool.and_eq_true,beq_iff_eq];exact ⟨h2,by simpa using hp⟩⟩
theorem zBW (r:Ty.El zD) (a sy:Int) (hr:SmR r) (hn:zUE r.2.2.2.2.2.2.2.2.2.2.1.2.2.2.1):Wp (u5 (r,a,sy,())) (fun b=>b=knB r.2.2.2.2.2.2.2.2.2.2.1.2.2.2.1 a sy):=by
 unfold u5
 dsimp only
 refine zC ((vW r a hr).mono (fun y hy=> ?_))
 rw [zZW hn]
 cases h:zGc r.2.2.2.2.2.2.2.2.2.2.1.2.2.2.1 a with
 |none=>
  rw [h] at hy
  simp only at hy
  subst hy
  exact zC (zB (zB rfl))
 |some x=>
  rw [h] at hy
  simp only at hy
  subst hy
  exact zC (zB (zB rfl))
theorem zFM (r:Ty.El zD) (a sy:Int) (hr:SmR r):Wp (zDr (r,a,sy,())) (fun k=>k=yH (fun x:Ty.El zT=>x.1==a&&x.2.1==sy) r.2.2.2.2.2.2.2.2.2.2.1.2.2.2.1):=by
 have h1:r.2.2.2.2.2.2.2.2.2.2.1.2.2.2.1.length≤20:=hr.i10
 unfold zDr
 dsimp only
 refine xH (p:=fun x:Ty.El zT=>x.1==a&&x.2.1==sy) (by omega) ?_ rfl
 intro i x hx
 simp only [zJ hx,Option.bind_some]
 cases x.1==a<;>cases x.2.1==sy<;>rfl
theorem zND (l:List (Ty.El zT)) (a sy:Int):decide (yH (fun x:Ty.El zT=>x.1==a&&x.2.1==sy) l≥(0:Int))=knB l a sy:=by
 rw [Bool.eq_iff_iff,decide_eq_true_eq]
 exact zD7
end Go.Ve

namespace Go.Ve
open Go
set_option maxRecDepth 1000000
set_option maxHeartbeats 4000000
structure zWn (c:Ty.El kE):Prop where
 met: -1≤c.2.2.2.1∧c.2.2.2.1≤16777215
 tag: -1≤c.2.2.2.2.1∧c.2.2.2.2.1≤65535
 pref: -1≤c.2.2.2.2.2.1∧c.2.2.2.2.2.1≤1000000
 pre:0≤c.2.2.2.2.2.2.1∧c.2.2.2.2.2.2.1≤8
def zA1 (r:Ty.El zD):Prop:= ∀m,m∈r.2.2.2.2.1→ ∀c,c∈m.2.1→zWn c
theorem zPr (r:Ty.El zD) (hr:SmR r):Wp (vZ (r,())) (fun e=>e=0→zA1 r):=by
 unfold vZ
 dsimp only
 have h20:r.2.2.2.2.1.length≤20:=hr.i3
 refine zI (fun _=>zB (fun h=>by cases h)) (fun _=> ?_)
 refine zEb (P:=fun m:Ty.El yI=> ∀c,c∈m.2.1→zWn c) (by omega) ?_ (fun hall=>zB (fun _=>hall))
 intro i m hm
 have hi:=(List.getElem?_eq_some_iff.1 hm).1
 have hml:=hr.n2 m (List.mem_of_getElem? hm)
 simp only [zJ hm,Option.bind_some]
 refine qD (zC ((vN _).mono (fun b _=> ?_)))
 refine zG (fun _=>zB (fun h=>by cases h)) (fun _=> ?_)
 refine qD (zEX (n:=i) (P:=fun _=>True) (by omega) ?_ (fun _=> ?_))
 ·intro j hj
  obtain ⟨y,hy⟩: ∃y,r.2.2.2.2.1[j]? =some y:=⟨_,List.getElem?_eq_getElem (by omega)⟩
  simp only [zJ hy,Option.bind_some]
  exact zG (fun _=>zB (fun h=>by cases h)) (fun _=>zB (e2l ⟨rfl,trivial⟩))
 refine e2l (zG (fun _=>zB (fun h=>by cases h)) (fun _=>zI (fun _=>zB (fun h=>by cases h)) (fun _=> ?_)))
 refine zQe (xs:=m.2.1) (P:=zWn) (by omega) ?_ (fun hall=>e2l (zB (e2l ⟨rfl,hall⟩)))
 intro k c hc
 simp only [zJ hc,Option.bind_some]
 refine zC ((show Wp _ (fun _:Bool=>True) from ?_).mono (fun s _=> ?_))
 ·exact zG (fun _=>zC ((zAq r _ hr).mono (fun _ _=>zB trivial))) (fun _=>zB trivial)
 refine zG (fun _=>zB ⟨(fun u h=>by cases h),(fun h=>by cases h)⟩) (fun _=> ?_)
 refine zC ((show Wp _ (fun s:Bool=>s=false→zWn c) from ?_).mono (fun s hs=> ?_))
 ·refine zC (qJ (qB _ _ _) (zG (fun _=>zB (fun h=>by cases h)) (fun _=> ?_)))
  refine zC (qJ (qB _ _ _) (zG (fun _=>zB (fun h=>by cases h)) (fun h2=> ?_)))
  refine zC (qJ (qB _ _ _) (zG (fun _=>zB (fun h=>by cases h)) (fun h3=> ?_)))
  refine zC (qJ (qB _ _ _) (zG (fun _=>zB (fun h=>by cases h)) (fun h4=> ?_)))
  refine zC (qJ (qB _ _ _) (zB (fun h5=>⟨by simpa using h3,by simpa using h2,by simpa using h4,by simpa using h5⟩)))
 ·exact zG (fun _=>zB ⟨(fun u h=>by cases h),(fun h=>by cases h)⟩) (fun h=>zB (e2l ⟨rfl,hs h⟩))
theorem zYP {r:Ty.El zD} (h:zYd r) (hs:SmR r):zA1 r:=by
 obtain ⟨e,h1,h2⟩:=zPr r hs
 rw [h.maps] at h1
 exact h2 (Option.some.inj h1).symm
theorem zLj {α:Type} (p:α→Bool) (xs:List α):(yH p xs= -1∧xs.find? p=none)∨ ∃ (i:Nat) (x:α),yH p xs=(i:Int)∧xs[i]? =some x∧xs.find? p=some x:=by
 rcases zDA p xs with ⟨h1,h2⟩|⟨i,x,h1,h2,h3,h4⟩
 ·refine .inl ⟨h1,?_⟩
  rw [List.find?_eq_none]
  intro x hx
  rw [h2 x hx]
  decide
 ·exact .inr ⟨i,x,h1,h2,zM0 h2 h3 h4⟩
def zRT (r:Ty.El zD) (nm:Ty.El .str):Int:=yH (fun m:Ty.El yI=>m.1==nm) r.2.2.2.2.1
theorem zAr (r:Ty.El zD) (nm:Ty.El .str) (hr:SmR r):Wp (u9 (r,nm,())) (fun k=>k=zRT r nm):=by
 have h20:r.2.2.2.2.1.length≤20:=hr.i3
 unfold u9 w9 zBH
 dsimp only
 refine zC (Wp.mono (Q:=fun k=>k=zRT r nm) ?_ (fun k hk=>zB hk))
 refine xH (p:=fun m:Ty.El yI=>m.1==nm) (by omega) ?_ rfl
 intro i x hx
 simp only [zJ hx,Option.bind_some]
 cases x.1==nm<;>rfl
def clB (r:Ty.El zD) (x:Ty.El zA) (c:Ty.El kE):Bool:=zUY r c.2.1 x.1&&(c.2.2.1==(-1:Int)||c.2.2.1==x.2.2.2.2.2.2.1)
def zPq (r:Ty.El zD) (nm:Ty.El .str) (x:Ty.El zA):Option (Ty.El kE):=(r.2.2.2.2.1.find? (fun m:Ty.El yI=>m.1==nm)).bind (fun m=>m.2.1.find? (clB r x))
def ClI (r:Ty.El zD) (nm:Ty.El .str) (x:Ty.El zA) (k:Int):Prop:=
 (k<0∧zPq r nm x=none)∨ ∃ (i j:Nat) (m:Ty.El yI) (c:Ty.El kE),k=(i:Int)∧zRT r nm=(j:Int)∧r.2.2.2.2.1[j]? =some m∧m.2.1[i]? =some c∧zPq r nm x=some c
theorem zZb {r:Ty.El zD} {x:Ty.El zA} {c:Ty.El kE} {f:Option Bool} (hf:Wp f (fun b=>b=zUY r c.2.1 x.1)):
  Wp (Option.bind f fun y18=>bif y18 then bif c.2.2.1==(-1:Int) then some true else some (c.2.2.1==x.2.2.2.2.2.2.1) else some false) (fun s=>s=clB r x c):=by
 refine zC (hf.mono (fun b hb=> ?_))
 unfold clB
 refine zG (fun h=>zG (fun h2=>zB ?_) (fun h2=>zB ?_)) (fun h=>zB ?_)
 ·rw [←hb,h,h2];rfl
 ·rw [←hb,h,h2];rfl
 ·rw [←hb,h];rfl
theorem zDm (r:Ty.El zD) (nm:Ty.El .str) (x:Ty.El zA) (hr:SmR r):Wp (zAB (r,nm,x,())) (ClI r nm x):=by
 unfold zAB
 dsimp only
 refine zC ((zAr r nm hr).mono (fun k hk=> ?_))
 subst hk
 rcases zLj (fun m:Ty.El yI=>m.1==nm) r.2.2.2.2.1 with ⟨h1,h2⟩|⟨j,m,h1,h2,h3⟩
 ·have h1:zRT r nm= -1:=h1
  rw [h1]
  refine tt rfl (zB (.inl ⟨by decide,?_⟩))
  unfold zPq
  rw [h2];rfl
 ·have h1':zRT r nm=(j:Int):=h1
  rw [h1']
  have hml:=hr.n2 m (List.mem_of_getElem? h2)
  refine zI (fun h=>absurd h (by omega)) (fun _=> ?_)
  simp only [zJ h2,Option.bind_some]
  refine zAJ (xs:=m.2.1) (by omega) (fun i=> ∀k c,k<i→m.2.1[k]? =some c→clB r x c=false) (fun k c hk=>by omega) ?_ (fun hj=>zB (.inl ⟨by decide,?_⟩))
  ·intro i c hc hj
   simp only [zJ hc,Option.bind_some]
   refine zC ((zZb (zHE r _ _ hr)).mono (fun s hs=> ?_))
   refine zG (fun h=>zB (e2r (e2r ?_))) (fun h=>zB (e2l ⟨rfl,?_⟩))
   ·refine .inr ⟨i,j,m,c,rfl,h1',h2,hc,?_⟩
    unfold zPq
    rw [h3]
    exact zM0 hc (by rw [←hs];exact h) hj
   ·intro k z hk hz
    rcases Nat.lt_or_ge k i with h'|h'
    ·exact hj k z h' hz
    ·have:k=i:=by omega
     subst this
     rw [hc] at hz
     cases hz
     rw [←hs];exact h
  ·unfold zPq
   rw [h3]
   show m.2.1.find? (clB r x)=none
   rw [List.find?_eq_none]
   intro c hc
   obtain ⟨k,hk,rfl⟩:=List.getElem_of_mem hc
   rw [hj k _ hk (by simp [hk])]
   decide
theorem zVa {r:Ty.El zD} (hm:zA1 r) {nm:Ty.El .str} {x:Ty.El zA} {c:Ty.El kE} (h:zPq r nm x=some c):zWn c:=by
 unfold zPq at h
 cases hf:r.2.2.2.2.1.find? (fun m:Ty.El yI=>m.1==nm) with
 |none=>rw [hf] at h;cases h
 |some m=>
  rw [hf] at h
  have h:m.2.1.find? (clB r x)=some c:=h
  exact hm m (List.mem_of_find?_eq_some hf) c (List.mem_of_find?_eq_some h)
def zIG (r:Ty.El zD) (nm:Ty.El .str) (x:Ty.El zA):Option (Ty.El kE):=
 match zPq r nm x with
 |some c=>bif c.1 then some c else none
 |none=>none
def zWo:Ty.El zA:=(((0:Int),(0:Int),()),(0:Int),(0:Int),(0:Int),(0:Int),(0:Int),(0:Int),(0:Int),[],(0:Int),(0:Int),[],false,())
theorem zBm (r:Ty.El zD) (nm:Ty.El .str) (x:Ty.El zA) (hr:SmR r):Wp (kK (r,nm,x,())) (fun y=>match zIG r nm x with
  |some c=>y=(c,true,())
  |none=>y.2.1=false):=by
 unfold kK
 dsimp only
 refine zC ((zDm r nm x hr).mono (fun k hk=> ?_))
 rcases hk with ⟨h1,h2⟩|⟨i,j,m,c,rfl,h2,h3,h4,h5⟩
 ·refine zI (fun _=>zB ?_) (fun h=>absurd h1 h)
  unfold zIG
  rw [h2]
 ·refine zI (fun h=>absurd h (by omega)) (fun _=> ?_)
  refine zC ((zAr r nm hr).mono (fun k hk=> ?_))
  subst hk
  rw [h2]
  simp only [zJ h3,zJ h4,Option.bind_some]
  refine zB ?_
  unfold zIG
  rw [h5]
  cases hc:c.1 with
  |false=>simp [hc]
  |true=>simp [hc]
def zYx (x:Ty.El zA) (c:Ty.El kE):Ty.El zA:=
 (x.1,x.2.1,x.2.2.1,x.2.2.2.1,(bif c.2.2.2.1==(-1:Int) then x.2.2.2.2.1 else c.2.2.2.1),x.2.2.2.2.2.1,(bif c.2.2.2.2.1==(-1:Int) then x.2.2.2.2.2.2.1 else c.2.2.2.2.1),(bif c.2.2.2.2.2.1==(-1:Int) then x.2.2.2.2.2.2.2.1 else c.2.2.2.2.2.1),x.2.2.2.2.2.2.2.2)
def zG4 (r:Ty.El zD) (nm:Ty.El .str) (x:Ty.El zA):Option (Ty.El zA):=
 bif nm==({ data:= #[] } :ByteArray) then some x else (zIG r nm x).map (zYx x)
theorem zLG (l:List Int) (h:l.length≤1048576):jO (l,())=some l:=by
 refine wM ?_
 unfold jO
 exact zC (wN (by simp only [List.length_nil];omega) (zB rfl))
theorem zWb (l:List (Ty.El qQ)) (h:l.length≤1048576):x8 (l,())=some l:=by
 refine wM ?_
 unfold x8
 exact zC (wN (by simp only [List.length_nil];omega) (zB rfl))
theorem zBn (r:Ty.El zD) (nm:Ty.El .str) (x:Ty.El zA) (hr:SmR r) (hx:RtS x):Wp (zBA (r,nm,x,())) (fun y=>y=match zG4 r nm x with
  |some z=>(z,true,())
  |none=>(zWo,false,())):=by
 obtain ⟨hp,hh⟩:=hx
 obtain ⟨⟨pa,pl,⟨⟩⟩,pr,cl,ad,me,inn,tg,pf,path,fr,nx,hops,dc,⟨⟩⟩:=x
 simp only at hp hh
 unfold zBA
 dsimp only
 refine zC (qJ (zLG path hp) (zC (qJ (zWb hops hh) ?_)))
 unfold zG4
 refine zG (fun h=>zB ?_) (fun h=> ?_)
 ·rw [h];rfl
 rw [h]
 refine zC ((zBm r nm _ hr).mono (fun y2 hy=> ?_))
 generalize hx:(((pa,pl,()),pr,cl,ad,me,inn,tg,pf,path,fr,nx,hops,dc,()):Ty.El zA)=x at hy
 cases hc:zIG r nm x with
 |none=>
  rw [hc] at hy
  simp only at hy
  rw [hy]
  exact tt rfl (zB rfl)
 |some c=>
  rw [hc] at hy
  simp only at hy
  subst hy
  subst hx
  refine ff rfl ?_
  show Wp _ (fun y=>y=(zYx _ c,true,()))
  unfold zYx
  dsimp only
  refine zC (zG (fun h1=>zB ?_) (fun h1=>zB ?_))
  all_goals
   refine zC (zG (fun h2=>zB ?_) (fun h2=>zB ?_))
   all_goals
    refine zC (zG (fun h3=>zB (zB ?_)) (fun h3=>zB (zB ?_)))
    all_goals
     have g1:=congrArg not h1
     have g2:=congrArg not h2
     have g3:=congrArg not h3
     simp only [bne,Bool.not_not,Bool.not_true,Bool.not_false] at g1 g2 g3
     rw [g1,g2,g3]
     rfl
def zOZ (r:Ty.El zD) (nm:Ty.El .str) (x:Ty.El zA):Int:=
 match zIG r nm x with
 |some c=>c.2.2.2.2.2.2.1
 |none=>0
theorem zUW {r:Ty.El zD} (hm:zA1 r) (nm:Ty.El .str) (x:Ty.El zA):0≤zOZ r nm x∧zOZ r nm x≤8:=by
 unfold zOZ zIG
 cases h:zPq r nm x with
 |none=>exact ⟨by decide,by decide⟩
 |some c=>
  have:=(zVa hm h).pre
  cases hc:c.1 with
  |false=>simp [hc]
  |true=>simpa [hc] using this
theorem zHD (r:Ty.El zD) (nm:Ty.El .str) (x:Ty.El zA) (hr:SmR r):Wp (zBy (r,nm,x,())) (fun y=>y=zOZ r nm x):=by
 unfold zBy
 dsimp only
 refine zC ((zBm r nm x hr).mono (fun y2 hy=> ?_))
 unfold zOZ
 cases hc:zIG r nm x with
 |none=>
  rw [hc] at hy
  simp only at hy
  rw [hy]
  exact tt rfl (zB rfl)
 |some c=>
  rw [hc] at hy
  simp only at hy
  subst hy
  exact ff rfl (zB rfl)
end Go.Ve
