/-
  The bridge, part 2: from a contract over typed data to what a law's row asks of a call.
  DistGrows: the law answers true.
  DistFilters: the law answers true.
  Plain laws of path-vector routing: the neighbors of a router.
  Plain laws of path-vector routing: route maps.
-/
import Derived.ChangeSame
import Derived.Below
import Derived.Carry
import Derived.Test.YtcnlcmbchljpgaaGreatPx16
import Derived.Test.YtcnlcmbchljpgaaGreatPx11
import Derived.Test.YtcnlcmbchljpgaaGreatPx14
set_option linter.unusedVariables false
namespace Go.Ve
open Go Go.RowKit
def zV5 (N:Nat):(ts:List Ty)→ElS ts→Prop
 |[],_=>True
 |t::ts,x=>t.fits N x.1∧zV5 N ts x.2
section
variable {H:Type} {enc:TypeId×Value→H} {P:Program} {w:World} {sp:Nat→Bool} {held:Bool} {bk:DataW H→Nat}
theorem zSg {n:Nat} {t:TypeId} {ty:Ty} {v:Value} {x:ty.El} {F:Blk→Prop} {base:Nat} (hc:zE1 P n t=true) (hty:zI4 P n t=some ty) (hok:Value.okWide P w .any base t v)
  (h:CR w F v.cells.toList ty x):Rd w F v (ty.enc x):=by
 cases n with
 |zero=>simp [zE1] at hc
 |succ n=>
  simp only [zI4] at hty
  simp only [zE1] at hc
  unfold Value.okWide at hok
  have hone:ty.cells x=[ty.enc x]→(∀cs,v≠ .agg cs)→Rd w F v (ty.enc x):=by
   intro h1 h2
   have hvc:v.cells= #[v]:=by cases v<;>first|rfl|exact absurd rfl (h2 _)
   have h3:=h.2
   rw [hvc] at h3
   exact h3 0 v (ty.enc x) rfl (by rw [h1];rfl)
  cases hu:P.underlying t with
  |none=>rw [hu] at hty;cases hty
  |some td=>
   rw [hu] at hty hc hok
   have hnoagg: ∀ (hs:ty.cells x=[ty.enc x]), ∀cs,v= .agg cs→ ∃u,cs.toList=[u]:=by
    intro hs cs hv
    subst hv
    have:=h.1
    rw [←q9 ty x,hs] at this
    simp only [Value.cells,List.length_singleton] at this
    match hcs:cs.toList,this with
    |[u],_=>exact ⟨u,rfl⟩
   cases td with
   |struct fs=>
    obtain ⟨cs,rfl,_,_⟩:=hok
    simp only [Value.cells] at h
    have hagg: ∀ (fs:List Field) (ty:Ty),fs.foldr (fun f acc=>match zI4 P n f.type,acc with
      |some a,some b=>some (Ty.pair a b)
      |_,_=>none) (some .unit)=some ty→ ∀x:ty.El,ty.enc x= .agg (ty.cells x):=by
     intro fs ty hh x
     cases fs with
     |nil=>simp only [List.foldr_nil,Option.some.injEq] at hh;subst hh;rfl
     |cons f fs=>
      simp only [List.foldr_cons] at hh
      split at hh
      ·simp only [Option.some.injEq] at hh;subst hh;rfl
      ·cases hh
    rw [hagg fs.toList ty hty x]
    refine .agg cs _ ?_ ?_
    ·have:=h.1;rw [q9];simpa using this
    ·intro i v d hv hd
     exact h.2 i v d (by simpa using hv) hd
   |bool=>
    simp only [Option.some.injEq] at hty;subst hty
    refine hone rfl ?_
    rintro cs rfl
    simp [Cell.okWide,Cell.ok,hu] at hok
   |int k=>
    simp only [Option.some.injEq] at hty;subst hty
    refine hone rfl ?_
    rintro cs rfl
    simp [Cell.okWide,Cell.ok,hu] at hok
   |string=>
    simp only [Option.some.injEq] at hty;subst hty
    refine hone rfl ?_
    rintro cs rfl
    simp [Cell.okWide,Cell.ok,hu] at hok
   |slice el=>
    simp only at hty
    split at hty
    ·simp only [Option.some.injEq] at hty;subst hty
     refine hone rfl ?_
     rintro cs rfl
     simp [Cell.okWide,Cell.ok,hu] at hok
    ·cases hty
   |array m el=>cases hc
   |_=>cases hty
theorem zPI (hbk:zZr bk) {N base:Nat} : ∀ (pts:List TypeId) (tys:List Ty) (vs:List Value) (ds:List (DataW H)) (ps:List MemPlace),(∀t∈pts,zE1 P 12 t=true)→pts.mapM (zI4 P 12)=some tys→
  DataW.TrodAll enc P w 0 sp held pts vs ds ps→(∀ (j:Nat) t v,pts[j]? =some t→vs[j]? =some v→Value.okWide P w .any base t v)→(∀d∈ds,bk d≤N)→
  ∃x:ElS tys,vs.length=(kJ tys x).length∧(∀ (i:Nat) (v:Value) (d:V),vs[i]? =some v→(kJ tys x)[i]? =some d→Rd w (zYe w.heap.size) v d)∧zV5 N tys x:=by
 intro pts
 induction pts with
 |nil=>
  intro tys vs ds ps _ hty h _ _
  simp at hty
  subst hty
  match vs,ds,h with
  |[],[],_=>exact ⟨(),rfl,fun i v d h=>by simp at h,trivial⟩
 |cons t pts ih=>
  intro tys vs ds ps hc hty h hok hN
  rw [List.mapM_cons] at hty
  simp only [Option.bind_eq_bind,Option.bind_eq_some_iff,Option.pure_def,Option.some.injEq] at hty
  obtain ⟨ty,h1,tys',h2,rfl⟩:=hty
  match vs,ds,h with
  |v::vs,d::ds,h=>
   obtain ⟨p,q,⟨fuel,ht⟩,hr,rfl⟩:=h
   obtain ⟨x,hx,hf⟩:=zUg hbk 12 t ty fuel _ d p (hc t (by simp)) h1 ht
   obtain ⟨xs,g1,g2,g3⟩:=ih tys' vs ds q (fun t ht=>hc t (List.mem_cons_of_mem _ ht)) h2 hr (fun j t v ht hv=>hok (j+1) t v (by simpa using ht) (by simpa using hv)) (fun d hd=>hN d (List.mem_cons_of_mem _ hd))
   refine ⟨(x,xs),by simp [kJ,g1],?_,zL2 (hN d (by simp)) _ _ hf,g3⟩
   intro i u dd hu hd
   cases i with
   |zero=>
    simp [kJ] at hu hd
    subst hu hd
    exact zSg (hc t (by simp)) h1 (hok 0 t v rfl rfl) hx
   |succ i=>exact g2 i u dd (by simpa using hu) (by simpa [kJ] using hd)
theorem zPJ (hl:laidOutB P=true) {W W':World} (hb:Below W.heap.size W W') {sp':Nat→Bool} : ∀ (pts:List TypeId) (vs:List Value) (ds:List (DataW H)) (ps:List MemPlace),
  (∀t∈pts,P.readableRec t=true∧t<P.types.size)→DataW.TrodAll enc P W 0 (fun _=>true) true pts vs ds ps→(∀p∈ps,p.block<W.heap.size∧sp' p.block=true)→
  DataW.TrodAll enc P W' 0 sp' true pts vs ds ps:=by
 intro pts
 induction pts with
 |nil=>intro vs ds ps _ h _;match vs,ds,h with|[],[],h=>exact h
 |cons t pts ih=>
  intro vs ds ps hr h hp
  match vs,ds,h with
  |v::vs,d::ds,h=>
   obtain ⟨p,q,ht,hq,rfl⟩:=h
   refine ⟨p,q,?_,ih vs ds q (fun t ht=>hr t (List.mem_cons_of_mem _ ht)) hq (fun x hx=>hp x (by simp [hx])),rfl⟩
   exact WideElems.Trod_stays hl (hr t (by simp)).1 (hr t (by simp)).2 ht (fun x hx=>hb.same (hp x (by simp [hx])).1) (fun x hx=>(hp x (by simp [hx])).2)
theorem zRE {f:FuncId} {fn:Func} {s:ChangeSpec} {tys:List Ty} {g:ElS tys→Option (RTy.El (.p .bool))} (hl:laidOutB P=true) (hbk:zZr bk) {N:Nat}
  (hc: ∀t∈fn.params.toList,zE1 P 12 t=true∧P.readableRec t=true∧t<P.types.size) (hty:fn.params.toList.mapM (zI4 P 12)=some tys) (hvars:s.vars=[])
  (hspec: ∀ds:List (DataW H),ds.length=fn.params.size→s.fn H ds= { results:=[.lit (.bool true)],args:=ds })
  {tb:TypeId} (hres:fn.resultTypes= #[tb]) (htb:P.underlying tb=some .bool)
  (hg: ∀x:ElS tys,zV5 N tys x→g x=some true)
  (hfn:wV jV P (fun _=>none) f (qP (wF tys (.p .bool) g)))
  {W:World} {base:Nat} {args:Array Value} {ds gs:List (DataW H)} {before:List MemPlace}
  (hval: ∀ (j:Nat) t v,fn.params[j]? =some t→args[j]? =some v→Value.okWide P W .any base t v)
  (hW:DataW.Whole enc P fn.params.toList s.vars false W args.toList ds gs before) (hN: ∀d∈ds,bk d≤N):
  Calls P f args W fun e W'=> ∃v,e= .returned v∧s.post enc P fn false true false false W args v W':=by
 have hW0:=hW
 obtain ⟨p,q,hA,hV,rfl,hfz,hnd⟩:=hW
 have hVn:gs=[]∧q=[]:=by
  rw [hvars] at hV
  match gs,hV with
  |[],hV=>exact ⟨rfl,hV⟩
 obtain ⟨rfl,rfl⟩:=hVn
 simp only [List.append_nil] at hW0
 obtain ⟨x,hx1,hx2,hx3⟩:=zPI (w:=W) hbk fn.params.toList tys args.toList ds p (fun t ht=>(hc t ht).1) hty hA (fun j t v ht hv=>hval j t v (by simpa using ht) (by simpa using hv)) hN
 have hds:ds.length=fn.params.size:=by
  have hlen: ∀ (ts:List TypeId) (vs:List Value) (ds:List (DataW H)) (ps:List MemPlace),DataW.TrodAll enc P W 0 (fun _=>true) true ts vs ds ps→ds.length=ts.length:=by
   intro ts
   induction ts with
   |nil=>intro vs ds ps h;match vs,ds,h with|[],[],_=>rfl
   |cons t ts ih=>
    intro vs ds ps h
    match vs,ds,h with
    |v::vs,d::ds,h=>obtain ⟨_,q,_,hq,_⟩:=h;simp [ih vs ds q hq]
  have:=hlen _ _ _ _ hA
  simpa using this
 have hsp:qP (Γ:=jV) (wF tys (.p .bool) g) () (kJ tys x)=some ((), .p (.val (.bool true))):=by
  simp only [qP,wF,vA,zEc]
  rw [hg x hx3]
  rfl
 have hcall:=hfn W (zYe W.heap.size) (fun _=>False) () args (kJ tys x) () (.p (.val (.bool true))) (fun b hb=>hb) (fun g cs hg=>by cases hg) (fun b hb=>⟨hb,fun h=>h⟩)
  (by have:=hx1;simpa using this) (fun i v d hv hd=>hx2 i v d (by simpa using hv) hd) hsp
 refine hcall.mono ?_
 rintro e W' ⟨v,F',O',rfl,_,hk,_,_,_,hret⟩
 have hv:v= .bool true:=Rd.eq_val hret
 subst hv
 refine ⟨_,rfl,?_⟩
 have hb:Below W.heap.size W W':=⟨hk.os,hk.tape,hk.output,hk.size,fun b hb=>hk.block b hb (fun h=>h)⟩
 have hlt: ∀x∈p,x.block<W.heap.size:=fun x hx=>by
  have:=hW0.lt x hx;exact this
 have hargs: ∀sp':Nat→Bool,(∀x∈p,sp' x.block=true)→DataW.TrodAll enc P W' 0 sp' true fn.params.toList args.toList ds p:=fun sp' hs=>
  zPJ hl hb fn.params.toList args.toList ds p (fun t ht=>(hc t ht).2) hA (fun x hx=>⟨hlt x hx,hs x hx⟩)
 have hfnn:=hspec (ds++[]) (by simpa using hds)
 refine ⟨ds,[],p,[],p,[],hW0,?_,?_,?_,World.keptBut_mono (fun x hx=>⟨hx, .inr (.inl hx)⟩) (hb.frame (· ∈p)),fun h=>by cases h⟩
 ·rw [hfnn,hres]
  refine ⟨[],[],⟨1,?_⟩,rfl,rfl⟩
  simp [DataW.trod,htb,Value.cells]
 ·rw [hfnn]
  simp only [List.append_nil]
  exact hargs _ (fun x hx=>by simpa using hlt x hx)
 ·rw [hvars,hfnn];rfl
end
end Go.Ve

namespace Go.Ve
open Go
set_option maxRecDepth 1000000
set_option maxHeartbeats 4000000
theorem zWw {y:Ty.El zA} (h:Ty.fits 1048576 zA y):RtS y:=
 ⟨h.2.2.2.2.2.2.2.2.1.1,h.2.2.2.2.2.2.2.2.2.2.2.1.1⟩
end Go.Ve

namespace Go.Ve
open Go
set_option maxRecDepth 1000000
set_option maxHeartbeats 4000000
theorem zYY {v:Ty.El zS} {r i:Int} (h:upB v r i=true):((r,i,()):Ty.El zM)∈zAl v r i:=by
 obtain ⟨dm,hd,h0,hee⟩:=zLr h
 obtain ⟨dm',hd',hp⟩:=zEE (p:=fun d:Ty.El uX=>d.2.2.1.any (zG0 (r,i,()))) (xs:=v.2.1.1) h0
 have hd':v.2.1.1[(uR v r i).toNat]? =some dm':=hd'
 rw [hd] at hd'
 cases hd'
 obtain ⟨e,he,hb⟩:=List.any_eq_true.1 hp
 have:=zTC.1 hb
 rw [hee, ←this]
 exact he
theorem zNP {v:Ty.El zS} {r i:Int} {p:Ty.El zM→Bool} {e:Ty.El zM} (h:e∈zGY v r i p):upB v r i=true∧e∈zAl v r i∧p e=true:=by
 unfold zGY at h
 cases hu:upB v r i with
 |false=>rw [hu] at h;cases h
 |true=>
  rw [hu] at h
  obtain ⟨h1,h2⟩:=List.mem_filter.1 h
  exact ⟨rfl,h1,h2⟩
theorem zY1 {n:Ty.El zW} {d:List Int} {v:Ty.El zS} (hv:zCJ n d v) {r i:Int} (h:upB v r i=true) {e:Ty.El zM} (he:e∈zAl v r i):
  (0:Int)≤e.1∧(0:Int)≤e.2.1∧ ∃q y,v.1.1[Int.toNat e.1]? =some q∧q.2.2.1[Int.toNat e.2.1]? =some y∧y.2.2.1≠0:=by
 obtain ⟨dm,_,hall⟩:=zY0 hv h
 obtain ⟨b0,b1,q,y,b2,b3,b4,_⟩:=hall e he
 exact ⟨b0,b1,q,y,by rw [hv.net];exact b2,b3,b4⟩
end Go.Ve

namespace Go.Ve
open Go
set_option maxRecDepth 1000000
set_option maxHeartbeats 4000000
def zT8 (l:List (Ty.El zU)):Prop:= ∀ (i j:Nat) (x y:Ty.El zU),j<i→l[i]? =some x→l[j]? =some y→y.1≠x.1
theorem zQj (r:Ty.El zD) (hr:SmR r):Wp (yH (r,())) (fun e=>e=0→zT8 r.2.2.2.2.2.2.2.2.2.2.1.2.2.2.1):=by
 unfold yH
 dsimp only
 have h20:=hr.i10
 have h20:r.2.2.2.2.2.2.2.2.2.2.1.2.2.2.1.length≤20:=h20
 refine zI (fun _=>zB (fun h=>by cases h)) (fun _=> ?_)
 refine x3 (by omega) (fun i=> ∀m x,m<i→r.2.2.2.2.2.2.2.2.2.2.1.2.2.2.1[m]? =some x→ ∀j y,j<m→r.2.2.2.2.2.2.2.2.2.2.1.2.2.2.1[j]? =some y→y.1≠x.1) (fun m x hm=>by omega) ?_ (fun hj=>zB (fun _ i j x y hji hx hy=>hj i x (List.getElem?_eq_some_iff.1 hx).1 hx j y hji hy))
 intro i x hx hj
 have hi:=(List.getElem?_eq_some_iff.1 hx).1
 have hi:i<r.2.2.2.2.2.2.2.2.2.2.1.2.2.2.1.length:=hi
 have hrm: ∀nm,Wp (jP (r,nm,())) (fun _=>True):=fun nm=>(zBG r nm hr).mono (fun _ _=>trivial)
 simp only [zJ hx,Option.bind_some]
 refine qF (zC ((show Wp _ (fun _:Bool=>True) from ?_).mono (fun s _=> ?_)))
 ·exact zG (fun _=>zB trivial) (fun _=>zC (qI (qD _ _ _) (zB trivial)))
 refine zG (fun _=>zB (fun h=>by cases h)) (fun _=> ?_)
 refine zC ((show Wp _ (fun _:Bool=>True) from ?_).mono (fun s _=> ?_))
 ·refine zG (fun _=>zC ((hrm _).mono (fun k _=>zI (fun _=>zB trivial) (fun _=> ?_)))) (fun _=> ?_)
  ·exact zG (fun _=>zC ((hrm _).mono (fun k _=>zB trivial))) (fun _=>zB trivial)
  ·exact zG (fun _=>zC ((hrm _).mono (fun k _=>zB trivial))) (fun _=>zB trivial)
 refine zG (fun _=>zB (fun h=>by cases h)) (fun _=> ?_)
 refine zFB (n:=i) (P:=fun j=> ∀y,r.2.2.2.2.2.2.2.2.2.2.1.2.2.2.1[j]? =some y→y.1≠x.1) (by omega) ?_ (fun hall=>e2l (zB (e2l ⟨rfl,?_⟩)))
 ·intro j hjl
  obtain ⟨y,hy⟩: ∃y,r.2.2.2.2.2.2.2.2.2.2.1.2.2.2.1[j]? =some y:=⟨_,List.getElem?_eq_getElem (by omega)⟩
  simp only [zJ hy,Option.bind_some]
  refine zG (fun _=>zB (fun h=>by cases h)) (fun hn=>zB (e2l ⟨rfl,?_⟩))
  intro z hz
  rw [hy] at hz
  cases hz
  simpa using hn
 ·intro m z hm hz j y hjm hy
  rcases Nat.lt_or_ge m i with h'|h'
  ·exact hj m z h' hz j y hjm hy
  ·have:m=i:=by omega
   subst this
   rw [hx] at hz
   cases hz
   exact hall j hjm y hy
theorem zPx (r:Ty.El zD) (hr:SmR r):Wp (vI (r,())) (fun e=>e=0→zT8 r.2.2.2.2.2.2.2.2.2.2.1.2.2.2.1):=by
 unfold vI
 dsimp only
 have h1:r.2.2.2.2.2.2.2.2.2.2.1.2.2.2.1.length≤20:=hr.i10
 have h2:r.2.2.2.2.2.2.2.2.2.2.1.2.2.2.2.1.length≤20:=hr.i11
 have h3:r.2.2.2.2.2.2.2.2.2.2.1.2.2.2.2.2.1.length≤20:=hr.i12
 have h4:r.2.2.2.2.2.2.2.2.2.2.1.2.2.2.2.2.2.1.length≤20:=hr.i13
 have h5:r.2.2.2.2.2.2.2.2.2.2.1.2.2.2.2.2.2.2.1.length≤20:=hr.i14
 refine zG (fun _=> ?_) (fun _=> ?_)
 ·refine zC ((show Wp _ (fun s:Bool=>s=false→r.2.2.2.2.2.2.2.2.2.2.1.2.2.2.1.length=0) from ?_).mono (fun s hs=> ?_))
  ·refine zG (fun _=>zB (fun h=>by cases h)) (fun _=>zG (fun _=>zB (fun h=>by cases h)) (fun _=>zB (fun h=> ?_)))
   have h:=of_decide_eq_false h
   rw [zF (x:=(r.2.2.2.2.2.2.2.2.2.2.1.2.2.2.1.length:Int)+(r.2.2.2.2.2.2.2.2.2.2.1.2.2.2.2.1.length:Int)) (by omega) (by omega)] at h
   rw [zF (x:=(r.2.2.2.2.2.2.2.2.2.2.1.2.2.2.1.length:Int)+(r.2.2.2.2.2.2.2.2.2.2.1.2.2.2.2.1.length:Int)+(r.2.2.2.2.2.2.2.2.2.2.1.2.2.2.2.2.1.length:Int)) (by omega) (by omega)] at h
   rw [zF (x:=(r.2.2.2.2.2.2.2.2.2.2.1.2.2.2.1.length:Int)+(r.2.2.2.2.2.2.2.2.2.2.1.2.2.2.2.1.length:Int)+(r.2.2.2.2.2.2.2.2.2.2.1.2.2.2.2.2.1.length:Int)+(r.2.2.2.2.2.2.2.2.2.2.1.2.2.2.2.2.2.1.length:Int)) (by omega) (by omega)] at h
   rw [zF (by omega) (by omega)] at h
   omega
  ·refine zG (fun _=>zB (fun h=>by cases h)) (fun h=>zB (fun _ i j x y _ hx _=> ?_))
   have:=(List.getElem?_eq_some_iff.1 hx).1
   have hz:=hs h
   omega
 ·refine zC ((show Wp _ (fun _:Bool=>True) from ?_).mono (fun s _=> ?_))
  ·exact zG (fun _=>zB trivial) (fun _=>zC (qI (qD _ _ _) (zG (fun _=>zB trivial) (fun _=>zC (qI (qD _ _ _) (zB trivial))))))
  refine zG (fun _=>zB (fun h=>by cases h)) (fun _=> ?_)
  refine zC ((zQj r hr).mono (fun y6 hy6=> ?_))
  refine zG (fun hne=>zB (fun h=> ?_)) (fun h6=> ?_)
  ·have h:y6=0:=h
   rw [h] at hne
   cases hne
  have hnb:=hy6 (by simpa using h6)
  refine zC ((zCn _ ⟨h1,h2,h3,h4,h5⟩).mono (fun y7 _=>zG (fun _=>zB (fun _=>hnb)) (fun _=> ?_)))
  exact zC ((w6 r _ _ _ _ hr h5).mono (fun y8 _=>zB (fun _=>hnb)))
theorem qBK {r:Ty.El zD} (h:zZl r) (hs:SmR r):zT8 r.2.2.2.2.2.2.2.2.2.2.1.2.2.2.1:=by
 obtain ⟨e,h1,h2⟩:=zPx r hs
 have:=h.pv
 rw [this] at h1
 exact h2 (Option.some.inj h1).symm
def zEn (l:List (Ty.El zU)) (a:Int):Option (Ty.El zU):=l.find? (fun x=>x.1==a)
theorem zLb {α:Type} {p:α→Bool} : ∀ {l:List α} {i:Nat} {x:α},l[i]? =some x→p x=true→(∀j y,j<i→l[j]? =some y→p y=false)→l.find? p=some x
 |[],i,x,h,_,_=>by simp at h
 |z::l,0,x,h,hp,_=>by
  simp only [List.getElem?_cons_zero,Option.some.injEq] at h
  subst h
  rw [List.find?_cons,hp]
 |z::l,i+1,x,h,hp,hn=>by
  have hz:=hn 0 z (Nat.zero_lt_succ i) rfl
  rw [List.find?_cons,hz]
  exact zLb (by simpa using h) hp (fun j y hj hy=>hn (j+1) y (by omega) (by simpa using hy))
theorem kA (r:Ty.El zD) (a:Int) (hr:SmR r):
  Wp (j8 (r,a,())) (fun y=>match zEn r.2.2.2.2.2.2.2.2.2.2.1.2.2.2.1 a with
   |some x=>y=(x,true,())
   |none=>y=(((0:Int),(0:Int), { data:= #[] }, { data:= #[] },()),false,())):=by
 have h1:r.2.2.2.2.2.2.2.2.2.2.1.2.2.2.1.length≤20:=hr.i10
 unfold j8
 dsimp only
 generalize r.2.2.2.2.2.2.2.2.2.2.1.2.2.2.1=l at h1
 have e0:kH (l,())=some l:=by
  refine w9 ?_
  unfold kH
  exact zC (wD (by simp only [List.length_nil];omega) (zB rfl))
 refine qF (zC (qI e0 ?_))
 refine jU (fun s:Int×Ty.El zU=> ∃i:Nat,s.1=(i:Int)∧i≤l.length∧ ∀j y,j<i→l[j]? =some y→(y.1==a)=false) (fun s=>((l.length:Int) -s.1).toNat) ⟨0,rfl,Nat.zero_le _,fun j y hj=>by omega⟩ ?_
 rintro ⟨s,d⟩ ⟨i,hi,hil,hn⟩
 simp only at hi
 subst hi
 refine zI (fun h=> ?_) (fun h=>zB (e2r (e2l (zB ?_))))
 ·have h:(i:Int)< (l.length:Int):=h
  obtain ⟨y,hy⟩: ∃y,l[i]? =some y:=⟨_,List.getElem?_eq_getElem (by omega)⟩
  simp only [zJ hy,Option.bind_some]
  refine zG (fun hp=>zB (e2r (e2r ?_))) (fun hp=>zB (e2l ⟨⟨i+1,?_,by omega,?_⟩,?_⟩))
  ·have:zEn l a=some y:=zLb (p:=fun x:Ty.El zU=>x.1==a) hy hp hn
   rw [this]
  ·simp only;rw [zF (by omega) (by omega)];omega
  ·intro j z hj hz
   rcases Nat.lt_or_ge j i with h'|h'
   ·exact hn j z h' hz
   ·have:j=i:=by omega
    subst this
    rw [hy] at hz
    cases hz
    exact hp
  ·simp only;rw [zF (by omega) (by omega)];omega
 ·have h: ¬(i:Int)< (l.length:Int):=h
  have hnone:zEn l a=none:=by
   unfold zEn
   rw [List.find?_eq_none]
   intro x hx
   obtain ⟨j,hj,rfl⟩:=List.getElem_of_mem hx
   have:=hn j l[j] (by omega) (by simp)
   rw [this]
   decide
  rw [hnone]
def knB (l:List (Ty.El zU)) (a sy:Int):Bool:=l.any (fun x=>x.1==a&&x.2.1==sy)
theorem zS9 {l:List (Ty.El zU)} {a:Int} {x:Ty.El zU} (h:zEn l a=some x):x∈l∧x.1=a:=by
 unfold zEn at h
 refine ⟨List.mem_of_find?_eq_some h,?_⟩
 have:=List.find?_some h
 simpa using this
theorem zYm {l:List (Ty.El zU)} (hl:zT8 l) {x y:Ty.El zU} (hx:x∈l) (hy:y∈l) (h:x.1=y.1):x=y:=by
 obtain ⟨i,hi,rfl⟩:=List.getElem_of_mem hx
 obtain ⟨j,hj,rfl⟩:=List.getElem_of_mem hy
 rcases Nat.lt_trichotomy i j with h'|h'|h'
 ·exact absurd h (hl j i _ _ h' (by simp) (by simp))
 ·subst h';rfl
 ·exact absurd h.symm (hl i j _ _ h' (by simp) (by simp))
theorem qA7 {l:List (Ty.El zU)} (hl:zT8 l) (a sy:Int):knB l a sy=match zEn l a with
  |some x=>x.2.1==sy
  |none=>false:=by
 cases h:zEn l a with
 |none=>
  unfold zEn at h
  rw [List.find?_eq_none] at h
  unfold knB
  rw [List.any_eq_false]
  intro x hx
  have:=h x hx
  simp only [Bool.not_eq_true] at this
  rw [this]
  simp
 |some x=>
  obtain ⟨h1,h2⟩:=zS9 h
  simp only
  rw [Bool.eq_iff_iff]
  unfold knB
  rw [List.any_eq_true]
  constructor
  ·rintro ⟨y,hy,hp⟩
   simp only [Bool.and_eq_true,beq_iff_eq] at hp
   have:=zYm hl h1 hy (h2.trans hp.1.symm)
   rw [this]
   simpa using hp.2
  ·intro hp
   exact ⟨x,h1,by simp only [Bool.and_eq_true,beq_iff_eq];exact ⟨h2,by simpa using hp⟩⟩
theorem zCp (r:Ty.El zD) (a sy:Int) (hr:SmR r) (hn:zT8 r.2.2.2.2.2.2.2.2.2.2.1.2.2.2.1):Wp (yM (r,a,sy,())) (fun b=>b=knB r.2.2.2.2.2.2.2.2.2.2.1.2.2.2.1 a sy):=by
 unfold yM
 dsimp only
 refine zC ((kA r a hr).mono (fun y hy=> ?_))
 rw [qA7 hn]
 cases h:zEn r.2.2.2.2.2.2.2.2.2.2.1.2.2.2.1 a with
 |none=>
  rw [h] at hy
  simp only at hy
  subst hy
  exact zC (zB (zB rfl))
 |some x=>
  rw [h] at hy
  simp only at hy
  subst hy
  exact zC (zB (zB rfl))
theorem zA5 (r:Ty.El zD) (a sy:Int) (hr:SmR r):Wp (zBe (r,a,sy,())) (fun k=>k=uE (fun x:Ty.El zU=>x.1==a&&x.2.1==sy) r.2.2.2.2.2.2.2.2.2.2.1.2.2.2.1):=by
 have h1:r.2.2.2.2.2.2.2.2.2.2.1.2.2.2.1.length≤20:=hr.i10
 unfold zBe
 dsimp only
 refine kP (p:=fun x:Ty.El zU=>x.1==a&&x.2.1==sy) (by omega) ?_ rfl
 intro i x hx
 simp only [zJ hx,Option.bind_some]
 cases x.1==a<;>cases x.2.1==sy<;>rfl
theorem zOu (l:List (Ty.El zU)) (a sy:Int):decide (uE (fun x:Ty.El zU=>x.1==a&&x.2.1==sy) l≥(0:Int))=knB l a sy:=by
 rw [Bool.eq_iff_iff,decide_eq_true_eq]
 exact zED
end Go.Ve

namespace Go.Ve
open Go
set_option maxRecDepth 1000000
set_option maxHeartbeats 4000000
structure zXr (c:Ty.El vE):Prop where
 met: -1≤c.2.2.2.1∧c.2.2.2.1≤16777215
 tag: -1≤c.2.2.2.2.1∧c.2.2.2.2.1≤65535
 pref: -1≤c.2.2.2.2.2.1∧c.2.2.2.2.2.1≤1000000
 pre:0≤c.2.2.2.2.2.2.1∧c.2.2.2.2.2.2.1≤8
def xI (r:Ty.El zD):Prop:= ∀m,m∈r.2.2.2.2.1→ ∀c,c∈m.2.1→zXr c
theorem zQi (r:Ty.El zD) (hr:SmR r):Wp (kD (r,())) (fun e=>e=0→xI r):=by
 unfold kD
 dsimp only
 have h20:r.2.2.2.2.1.length≤20:=hr.i3
 refine zI (fun _=>zB (fun h=>by cases h)) (fun _=> ?_)
 refine zFC (P:=fun m:Ty.El vW=> ∀c,c∈m.2.1→zXr c) (by omega) ?_ (fun hall=>zB (fun _=>hall))
 intro i m hm
 have hi:=(List.getElem?_eq_some_iff.1 hm).1
 have hml:=hr.n2 m (List.mem_of_getElem? hm)
 simp only [zJ hm,Option.bind_some]
 refine qF (zC ((vV _).mono (fun b _=> ?_)))
 refine zG (fun _=>zB (fun h=>by cases h)) (fun _=> ?_)
 refine qF (zFB (n:=i) (P:=fun _=>True) (by omega) ?_ (fun _=> ?_))
 ·intro j hj
  obtain ⟨y,hy⟩: ∃y,r.2.2.2.2.1[j]? =some y:=⟨_,List.getElem?_eq_getElem (by omega)⟩
  simp only [zJ hy,Option.bind_some]
  exact zG (fun _=>zB (fun h=>by cases h)) (fun _=>zB (e2l ⟨rfl,trivial⟩))
 refine e2l (zG (fun _=>zB (fun h=>by cases h)) (fun _=>zI (fun _=>zB (fun h=>by cases h)) (fun _=> ?_)))
 refine zVI (xs:=m.2.1) (P:=zXr) (by omega) ?_ (fun hall=>e2l (zB (e2l ⟨rfl,hall⟩)))
 intro k c hc
 simp only [zJ hc,Option.bind_some]
 refine zC ((show Wp _ (fun _:Bool=>True) from ?_).mono (fun s _=> ?_))
 ·exact zG (fun _=>zC ((zAL r _ hr).mono (fun _ _=>zB trivial))) (fun _=>zB trivial)
 refine zG (fun _=>zB ⟨(fun u h=>by cases h),(fun h=>by cases h)⟩) (fun _=> ?_)
 refine zC ((show Wp _ (fun s:Bool=>s=false→zXr c) from ?_).mono (fun s hs=> ?_))
 ·refine zC (qI (qD _ _ _) (zG (fun _=>zB (fun h=>by cases h)) (fun _=> ?_)))
  refine zC (qI (qD _ _ _) (zG (fun _=>zB (fun h=>by cases h)) (fun h2=> ?_)))
  refine zC (qI (qD _ _ _) (zG (fun _=>zB (fun h=>by cases h)) (fun h3=> ?_)))
  refine zC (qI (qD _ _ _) (zG (fun _=>zB (fun h=>by cases h)) (fun h4=> ?_)))
  refine zC (qI (qD _ _ _) (zB (fun h5=>⟨by simpa using h3,by simpa using h2,by simpa using h4,by simpa using h5⟩)))
 ·exact zG (fun _=>zB ⟨(fun u h=>by cases h),(fun h=>by cases h)⟩) (fun h=>zB (e2l ⟨rfl,hs h⟩))
theorem zZZ {r:Ty.El zD} (h:zZl r) (hs:SmR r):xI r:=by
 obtain ⟨e,h1,h2⟩:=zQi r hs
 rw [h.maps] at h1
 exact h2 (Option.some.inj h1).symm
theorem zFn {α:Type} (p:α→Bool) (xs:List α):(uE p xs= -1∧xs.find? p=none)∨ ∃ (i:Nat) (x:α),uE p xs=(i:Int)∧xs[i]? =some x∧xs.find? p=some x:=by
 rcases zD6 p xs with ⟨h1,h2⟩|⟨i,x,h1,h2,h3,h4⟩
 ·refine .inl ⟨h1,?_⟩
  rw [List.find?_eq_none]
  intro x hx
  rw [h2 x hx]
  decide
 ·exact .inr ⟨i,x,h1,h2,zLb h2 h3 h4⟩
def zMI (r:Ty.El zD) (nm:Ty.El .str):Int:=uE (fun m:Ty.El vW=>m.1==nm) r.2.2.2.2.1
theorem zAM (r:Ty.El zD) (nm:Ty.El .str) (hr:SmR r):Wp (yO (r,nm,())) (fun k=>k=zMI r nm):=by
 have h20:r.2.2.2.2.1.length≤20:=hr.i3
 unfold yO vH zB6
 dsimp only
 refine zC (Wp.mono (Q:=fun k=>k=zMI r nm) ?_ (fun k hk=>zB hk))
 refine kP (p:=fun m:Ty.El vW=>m.1==nm) (by omega) ?_ rfl
 intro i x hx
 simp only [zJ hx,Option.bind_some]
 cases x.1==nm<;>rfl
theorem zBc (r:Ty.El zD) (nm:Ty.El .str) (hr:SmR r):Wp (jP (r,nm,())) (fun k=>k=zMI r nm):=by
 have h20:r.2.2.2.2.1.length≤20:=hr.i3
 unfold jP
 dsimp only
 refine kP (p:=fun m:Ty.El vW=>m.1==nm) (by omega) ?_ rfl
 intro i x hx
 simp only [zJ hx,Option.bind_some]
 cases x.1==nm<;>rfl
def clB (r:Ty.El zD) (x:Ty.El zA) (c:Ty.El vE):Bool:=zQB r c.2.1 x.1&&(c.2.2.1==(-1:Int)||c.2.2.1==x.2.2.2.2.2.2.1)
def zMu (r:Ty.El zD) (nm:Ty.El .str) (x:Ty.El zA):Option (Ty.El vE):=(r.2.2.2.2.1.find? (fun m:Ty.El vW=>m.1==nm)).bind (fun m=>m.2.1.find? (clB r x))
def ClI (r:Ty.El zD) (nm:Ty.El .str) (x:Ty.El zA) (k:Int):Prop:=
 (k<0∧zMu r nm x=none)∨ ∃ (i j:Nat) (m:Ty.El vW) (c:Ty.El vE),k=(i:Int)∧zMI r nm=(j:Int)∧r.2.2.2.2.1[j]? =some m∧m.2.1[i]? =some c∧zMu r nm x=some c
theorem zWd {r:Ty.El zD} {x:Ty.El zA} {c:Ty.El vE} {f:Option Bool} (hf:Wp f (fun b=>b=zQB r c.2.1 x.1)):
  Wp (Option.bind f fun y18=>bif y18 then bif c.2.2.1==(-1:Int) then some true else some (c.2.2.1==x.2.2.2.2.2.2.1) else some false) (fun s=>s=clB r x c):=by
 refine zC (hf.mono (fun b hb=> ?_))
 unfold clB
 refine zG (fun h=>zG (fun h2=>zB ?_) (fun h2=>zB ?_)) (fun h=>zB ?_)
 ·rw [←hb,h,h2];rfl
 ·rw [←hb,h,h2];rfl
 ·rw [←hb,h];rfl
theorem zDT (r:Ty.El zD) (nm:Ty.El .str) (x:Ty.El zA) (hr:SmR r):Wp (zAW (r,nm,x,())) (ClI r nm x):=by
 unfold zAW
 dsimp only
 refine zC ((zAM r nm hr).mono (fun k hk=> ?_))
 subst hk
 rcases zFn (fun m:Ty.El vW=>m.1==nm) r.2.2.2.2.1 with ⟨h1,h2⟩|⟨j,m,h1,h2,h3⟩
 ·have h1:zMI r nm= -1:=h1
  rw [h1]
  refine tt rfl (zB (.inl ⟨by decide,?_⟩))
  unfold zMu
  rw [h2];rfl
 ·have h1':zMI r nm=(j:Int):=h1
  rw [h1']
  have hml:=hr.n2 m (List.mem_of_getElem? h2)
  refine zI (fun h=>absurd h (by omega)) (fun _=> ?_)
  simp only [zJ h2,Option.bind_some]
  refine x3 (xs:=m.2.1) (by omega) (fun i=> ∀k c,k<i→m.2.1[k]? =some c→clB r x c=false) (fun k c hk=>by omega) ?_ (fun hj=>zB (.inl ⟨by decide,?_⟩))
  ·intro i c hc hj
   simp only [zJ hc,Option.bind_some]
   refine zC ((zWd (zIq r _ _ hr)).mono (fun s hs=> ?_))
   refine zG (fun h=>zB (e2r (e2r ?_))) (fun h=>zB (e2l ⟨rfl,?_⟩))
   ·refine .inr ⟨i,j,m,c,rfl,h1',h2,hc,?_⟩
    unfold zMu
    rw [h3]
    exact zLb hc (by rw [←hs];exact h) hj
   ·intro k z hk hz
    rcases Nat.lt_or_ge k i with h'|h'
    ·exact hj k z h' hz
    ·have:k=i:=by omega
     subst this
     rw [hc] at hz
     cases hz
     rw [←hs];exact h
  ·unfold zMu
   rw [h3]
   show m.2.1.find? (clB r x)=none
   rw [List.find?_eq_none]
   intro c hc
   obtain ⟨k,hk,rfl⟩:=List.getElem_of_mem hc
   rw [hj k _ hk (by simp [hk])]
   decide
theorem zE9 (r:Ty.El zD) (nm:Ty.El .str) (x:Ty.El zA) (hr:SmR r):Wp (zCU (r,nm,x,())) (ClI r nm x):=by
 unfold zCU
 dsimp only
 refine zC ((zBc r nm hr).mono (fun k hk=> ?_))
 subst hk
 rcases zFn (fun m:Ty.El vW=>m.1==nm) r.2.2.2.2.1 with ⟨h1,h2⟩|⟨j,m,h1,h2,h3⟩
 ·have h1:zMI r nm= -1:=h1
  rw [h1]
  refine tt rfl (zB (.inl ⟨by decide,?_⟩))
  unfold zMu
  rw [h2];rfl
 ·have h1':zMI r nm=(j:Int):=h1
  rw [h1']
  have hml:=hr.n2 m (List.mem_of_getElem? h2)
  refine zI (fun h=>absurd h (by omega)) (fun _=> ?_)
  simp only [zJ h2,Option.bind_some]
  refine x3 (xs:=m.2.1) (by omega) (fun i=> ∀k c,k<i→m.2.1[k]? =some c→clB r x c=false) (fun k c hk=>by omega) ?_ (fun hj=>zB (.inl ⟨by decide,?_⟩))
  ·intro i c hc hj
   simp only [zJ hc,Option.bind_some]
   refine zC ((zWd (zE7 r _ _ hr)).mono (fun s hs=> ?_))
   refine zG (fun h=>zB (e2r (e2r ?_))) (fun h=>zB (e2l ⟨rfl,?_⟩))
   ·refine .inr ⟨i,j,m,c,rfl,h1',h2,hc,?_⟩
    unfold zMu
    rw [h3]
    exact zLb hc (by rw [←hs];exact h) hj
   ·intro k z hk hz
    rcases Nat.lt_or_ge k i with h'|h'
    ·exact hj k z h' hz
    ·have:k=i:=by omega
     subst this
     rw [hc] at hz
     cases hz
     rw [←hs];exact h
  ·unfold zMu
   rw [h3]
   show m.2.1.find? (clB r x)=none
   rw [List.find?_eq_none]
   intro c hc
   obtain ⟨k,hk,rfl⟩:=List.getElem_of_mem hc
   rw [hj k _ hk (by simp [hk])]
   decide
theorem zR3 {r:Ty.El zD} (hm:xI r) {nm:Ty.El .str} {x:Ty.El zA} {c:Ty.El vE} (h:zMu r nm x=some c):zXr c:=by
 unfold zMu at h
 cases hf:r.2.2.2.2.1.find? (fun m:Ty.El vW=>m.1==nm) with
 |none=>rw [hf] at h;cases h
 |some m=>
  rw [hf] at h
  have h:m.2.1.find? (clB r x)=some c:=h
  exact hm m (List.mem_of_find?_eq_some hf) c (List.mem_of_find?_eq_some h)
def zGR (r:Ty.El zD) (nm:Ty.El .str) (x:Ty.El zA):Option (Ty.El vE):=
 match zMu r nm x with
 |some c=>bif c.1 then some c else none
 |none=>none
def zQl:Ty.El zA:=(((0:Int),(0:Int),()),(0:Int),(0:Int),(0:Int),(0:Int),(0:Int),(0:Int),(0:Int),[],(0:Int),(0:Int),[],false,())
theorem zBL (r:Ty.El zD) (nm:Ty.El .str) (x:Ty.El zA) (hr:SmR r):Wp (kX (r,nm,x,())) (fun y=>match zGR r nm x with
  |some c=>y=(c,true,())
  |none=>y.2.1=false):=by
 unfold kX
 dsimp only
 refine zC ((zDT r nm x hr).mono (fun k hk=> ?_))
 rcases hk with ⟨h1,h2⟩|⟨i,j,m,c,rfl,h2,h3,h4,h5⟩
 ·refine zI (fun _=>zB ?_) (fun h=>absurd h1 h)
  unfold zGR
  rw [h2]
 ·refine zI (fun h=>absurd h (by omega)) (fun _=> ?_)
  refine zC ((zAM r nm hr).mono (fun k hk=> ?_))
  subst hk
  rw [h2]
  simp only [zJ h3,zJ h4,Option.bind_some]
  refine zB ?_
  unfold zGR
  rw [h5]
  cases hc:c.1 with
  |false=>simp [hc]
  |true=>simp [hc]
def zWs (x:Ty.El zA) (c:Ty.El vE):Ty.El zA:=
 (x.1,x.2.1,x.2.2.1,x.2.2.2.1,(bif c.2.2.2.1==(-1:Int) then x.2.2.2.2.1 else c.2.2.2.1),x.2.2.2.2.2.1,(bif c.2.2.2.2.1==(-1:Int) then x.2.2.2.2.2.2.1 else c.2.2.2.2.1),(bif c.2.2.2.2.2.1==(-1:Int) then x.2.2.2.2.2.2.2.1 else c.2.2.2.2.2.1),x.2.2.2.2.2.2.2.2)
def zFy (r:Ty.El zD) (nm:Ty.El .str) (x:Ty.El zA):Option (Ty.El zA):=
 bif nm==({ data:= #[] } :ByteArray) then some x else (zGR r nm x).map (zWs x)
theorem zMt (l:List Int) (h:l.length≤1048576):j2 (l,())=some l:=by
 refine w9 ?_
 unfold j2
 exact zC (wD (by simp only [List.length_nil];omega) (zB rfl))
theorem zXf (l:List (Ty.El qS)) (h:l.length≤1048576):zAr (l,())=some l:=by
 refine w9 ?_
 unfold zAr
 exact zC (wD (by simp only [List.length_nil];omega) (zB rfl))
theorem zBM (r:Ty.El zD) (nm:Ty.El .str) (x:Ty.El zA) (hr:SmR r) (hx:RtS x):Wp (zBZ (r,nm,x,())) (fun y=>y=match zFy r nm x with
  |some z=>(z,true,())
  |none=>(zQl,false,())):=by
 obtain ⟨hp,hh⟩:=hx
 obtain ⟨⟨pa,pl,⟨⟩⟩,pr,cl,ad,me,inn,tg,pf,path,fr,nx,hops,dc,⟨⟩⟩:=x
 simp only at hp hh
 unfold zBZ
 dsimp only
 refine zC (qI (zMt path hp) (zC (qI (zXf hops hh) ?_)))
 unfold zFy
 refine zG (fun h=>zB ?_) (fun h=> ?_)
 ·rw [h];rfl
 rw [h]
 refine zC ((zBL r nm _ hr).mono (fun y2 hy=> ?_))
 generalize hx:(((pa,pl,()),pr,cl,ad,me,inn,tg,pf,path,fr,nx,hops,dc,()):Ty.El zA)=x at hy
 cases hc:zGR r nm x with
 |none=>
  rw [hc] at hy
  simp only at hy
  rw [hy]
  exact tt rfl (zB rfl)
 |some c=>
  rw [hc] at hy
  simp only at hy
  subst hy
  subst hx
  refine ff rfl ?_
  show Wp _ (fun y=>y=(zWs _ c,true,()))
  unfold zWs
  dsimp only
  refine zC (zG (fun h1=>zB ?_) (fun h1=>zB ?_))
  all_goals
   refine zC (zG (fun h2=>zB ?_) (fun h2=>zB ?_))
   all_goals
    refine zC (zG (fun h3=>zB (zB ?_)) (fun h3=>zB (zB ?_)))
    all_goals
     have g1:=congrArg not h1
     have g2:=congrArg not h2
     have g3:=congrArg not h3
     simp only [bne,Bool.not_not,Bool.not_true,Bool.not_false] at g1 g2 g3
     rw [g1,g2,g3]
     rfl
theorem zDc (r:Ty.El zD) (nm:Ty.El .str) (x:Ty.El zA) (hr:SmR r) (hm:xI r):Wp (zDW (r,nm,x,())) (fun y=>y=match zFy r nm x with
  |some z=>(z,true,())
  |none=>(zQl,false,())):=by
 unfold zDW
 dsimp only
 unfold zFy
 refine zG (fun h=>zB ?_) (fun h=> ?_)
 ·rw [h];rfl
 rw [h]
 refine zC ((zE9 r nm x hr).mono (fun k hk=> ?_))
 rcases hk with ⟨h1,h2⟩|⟨i,j,m,c,rfl,h2,h3,h4,h5⟩
 ·refine zI (fun _=>zB ?_) (fun h=>absurd h1 h)
  unfold zGR
  rw [h2]
  rfl
 ·have hok:=zR3 hm h5
  refine zI (fun h=>absurd h (by omega)) (fun _=> ?_)
  refine zC ((zBc r nm hr).mono (fun k hk=> ?_))
  subst hk
  rw [h2]
  simp only [zJ h3,zJ h4,Option.bind_some]
  unfold zGR
  rw [h5]
  simp only
  refine zG (fun hc=>zB ?_) (fun hc=> ?_)
  ·have hc:c.1=false:=by simpa using hc
   rw [hc];rfl
  have hc:c.1=true:=by simpa using hc
  rw [hc]
  show Wp _ (fun y=>y=(zWs x c,true,()))
  have key: ∀a:Int, -1≤a→decide (a≥(0:Int))= !(a==(-1:Int)):=by
   intro a ha
   by_cases h0:a= -1
   ·subst h0;rfl
   ·have h1:(a==(-1:Int))=false:=by simpa using h0
    have h2:a≥0:=by omega
    rw [h1,decide_eq_true h2];rfl
  have k1:decide (c.2.2.2.1≥(0:Int))= !(c.2.2.2.1==(-1:Int)):=key _ hok.met.1
  have k2:decide (c.2.2.2.2.1≥(0:Int))= !(c.2.2.2.2.1==(-1:Int)):=key _ hok.tag.1
  have k3:decide (c.2.2.2.2.2.1≥(0:Int))= !(c.2.2.2.2.2.1==(-1:Int)):=key _ hok.pref.1
  rw [k1,k2,k3]
  unfold zWs
  cases c.2.2.2.1==(-1:Int)<;>cases c.2.2.2.2.1==(-1:Int)<;>cases c.2.2.2.2.2.1==(-1:Int)<;>exact zB rfl
def zKD (r:Ty.El zD) (nm:Ty.El .str) (x:Ty.El zA):Int:=
 match zGR r nm x with
 |some c=>c.2.2.2.2.2.2.1
 |none=>0
theorem zRt {r:Ty.El zD} (hm:xI r) (nm:Ty.El .str) (x:Ty.El zA):0≤zKD r nm x∧zKD r nm x≤8:=by
 unfold zKD zGR
 cases h:zMu r nm x with
 |none=>exact ⟨by decide,by decide⟩
 |some c=>
  have:=(zR3 hm h).pre
  cases hc:c.1 with
  |false=>simp [hc]
  |true=>simpa [hc] using this
theorem zIp (r:Ty.El zD) (nm:Ty.El .str) (x:Ty.El zA) (hr:SmR r):Wp (zBX (r,nm,x,())) (fun y=>y=zKD r nm x):=by
 unfold zBX
 dsimp only
 refine zC ((zBL r nm x hr).mono (fun y2 hy=> ?_))
 unfold zKD
 cases hc:zGR r nm x with
 |none=>
  rw [hc] at hy
  simp only at hy
  rw [hy]
  exact tt rfl (zB rfl)
 |some c=>
  rw [hc] at hy
  simp only at hy
  subst hy
  exact ff rfl (zB rfl)
theorem zKk (r:Ty.El zD) (nm:Ty.El .str) (x:Ty.El zA) (hr:SmR r):Wp (zBU (r,nm,x,())) (fun y=>y=zKD r nm x):=by
 unfold zBU
 dsimp only
 refine zC ((zE9 r nm x hr).mono (fun k hk=> ?_))
 unfold zKD zGR
 rcases hk with ⟨h1,h2⟩|⟨i,j,m,c,rfl,h2,h3,h4,h5⟩
 ·refine zI (fun _=>zB ?_) (fun h=>absurd h1 h)
  rw [h2]
 ·refine zI (fun h=>absurd h (by omega)) (fun _=> ?_)
  refine zC ((zBc r nm hr).mono (fun k hk=> ?_))
  subst hk
  rw [h2]
  simp only [zJ h3,zJ h4,Option.bind_some]
  rw [h5]
  refine zG (fun hc=>zB ?_) (fun hc=>zB ?_)
  ·have hc:c.1=false:=by simpa using hc
   simp [hc]
  ·have hc:c.1=true:=by simpa using hc
   simp [hc]
end Go.Ve
