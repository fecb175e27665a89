/-
  The bridge, part 2: from a contract over typed data to what a law's row asks of a call.
  DistGrows: the law answers true.
  DistFilters: the law answers true.
  Plain laws of path-vector routing: the neighbors of a router.
  Plain laws of path-vector routing: route maps.
-/
import Derived.ChangeSame
import Derived.Below
import Derived.Carry
import Derived.Test.YtcnlcmbchljpgaaGreatPt16
import Derived.Test.YtcnlcmbchljpgaaGreatPt10
import Derived.Test.YtcnlcmbchljpgaaGreatPt14
set_option linter.unusedVariables false
namespace Go.Ve
open Go Go.RowKit
def zXH (N:Nat):(ts:List Ty)→ElS ts→Prop
 |[],_=>True
 |t::ts,x=>t.fits N x.1∧zXH N ts x.2
section
variable {H:Type} {enc:TypeId×Value→H} {P:Program} {w:World} {sp:Nat→Bool} {held:Bool} {bk:DataW H→Nat}
theorem zT0 {n:Nat} {t:TypeId} {ty:Ty} {v:Value} {x:ty.El} {F:Blk→Prop} {base:Nat} (hc:zFv P n t=true) (hty:zJV P n t=some ty) (hok:Value.okWide P w .any base t v)
  (h:CR w F v.cells.toList ty x):Rd w F v (ty.enc x):=by
 cases n with
 |zero=>simp [zFv] at hc
 |succ n=>
  simp only [zJV] at hty
  simp only [zFv] at hc
  unfold Value.okWide at hok
  have hone:ty.cells x=[ty.enc x]→(∀cs,v≠ .agg cs)→Rd w F v (ty.enc x):=by
   intro h1 h2
   have hvc:v.cells= #[v]:=by cases v<;>first|rfl|exact absurd rfl (h2 _)
   have h3:=h.2
   rw [hvc] at h3
   exact h3 0 v (ty.enc x) rfl (by rw [h1];rfl)
  cases hu:P.underlying t with
  |none=>rw [hu] at hty;cases hty
  |some td=>
   rw [hu] at hty hc hok
   have hnoagg: ∀ (hs:ty.cells x=[ty.enc x]), ∀cs,v= .agg cs→ ∃u,cs.toList=[u]:=by
    intro hs cs hv
    subst hv
    have:=h.1
    rw [←jA ty x,hs] at this
    simp only [Value.cells,aC] at this
    match hcs:cs.toList,this with
    |[u],_=>exact ⟨u,rfl⟩
   cases td with
   |struct fs=>
    obtain ⟨cs,rfl,_,_⟩:=hok
    simp only [Value.cells] at h
    have hagg: ∀ (fs:List Field) (ty:Ty),fs.foldr (fun f acc=>match zJV P n f.type,acc with
      |some a,some b=>some (Ty.pair a b)
      |_,_=>none) (some .unit)=some ty→ ∀x:ty.El,ty.enc x= .agg (ty.cells x):=by
     intro fs ty hh x
     cases fs with
     |nil=>simp only [List.foldr_nil,aa] at hh;subst hh;rfl
     |cons f fs=>
      simp only [List.foldr_cons] at hh
      split at hh
      ·simp only [aa] at hh;subst hh;rfl
      ·cases hh
    rw [hagg fs.toList ty hty x]
    refine .agg cs _ ?_ ?_
    ·have:=h.1;rw [jA];simpa using this
    ·intro i v d hv hd
     exact h.2 i v d (by simpa using hv) hd
   |bool=>
    simp only [aa] at hty;subst hty
    refine hone rfl ?_
    rintro cs rfl
    simp [Cell.okWide,Cell.ok,hu] at hok
   |int k=>
    simp only [aa] at hty;subst hty
    refine hone rfl ?_
    rintro cs rfl
    simp [Cell.okWide,Cell.ok,hu] at hok
   |string=>
    simp only [aa] at hty;subst hty
    refine hone rfl ?_
    rintro cs rfl
    simp [Cell.okWide,Cell.ok,hu] at hok
   |slice el=>
    simp only at hty
    split at hty
    ·simp only [aa] at hty;subst hty
     refine hone rfl ?_
     rintro cs rfl
     simp [Cell.okWide,Cell.ok,hu] at hok
    ·cases hty
   |array m el=>cases hc
   |_=>cases hty
theorem zRb (hbk:qA1 bk) {N base:Nat} : ∀ (pts:List TypeId) (tys:List Ty) (vs:List Value) (ds:List (DataW H)) (ps:List MemPlace),(∀t∈pts,zFv P 12 t=true)→pts.mapM (zJV P 12)=some tys→
  DataW.TrodAll enc P w 0 sp held pts vs ds ps→(∀ (j:Nat) t v,pts[j]? =some t→vs[j]? =some v→Value.okWide P w .any base t v)→(∀d∈ds,bk d≤N)→
  ∃x:ElS tys,vs.length=(kP tys x).length∧(∀ (i:Nat) (v:Value) (d:V),vs[i]? =some v→(kP tys x)[i]? =some d→Rd w (zZT w.heap.size) v d)∧zXH N tys x:=by
 intro pts
 induction pts with
 |nil=>
  intro tys vs ds ps _ hty h _ _
  simp at hty
  subst hty
  match vs,ds,h with
  |[],[],_=>exact ⟨(),rfl,fun i v d h=>by simp at h,trivial⟩
 |cons t pts ih=>
  intro tys vs ds ps hc hty h hok hN
  rw [dj] at hty
  simp only [dJ,bH,Option.pure_def,aa] at hty
  obtain ⟨ty,h1,tys',h2,rfl⟩:=hty
  match vs,ds,h with
  |v::vs,d::ds,h=>
   obtain ⟨p,q,⟨fuel,ht⟩,hr,rfl⟩:=h
   obtain ⟨x,hx,hf⟩:=zVZ hbk 12 t ty fuel _ d p (hc t (by simp)) h1 ht
   obtain ⟨xs,g1,g2,g3⟩:=ih tys' vs ds q (fun t ht=>hc t (aw _ ht)) h2 hr (fun j t v ht hv=>hok (j+1) t v (by simpa using ht) (by simpa using hv)) (fun d hd=>hN d (aw _ hd))
   refine ⟨(x,xs),by simp [kP,g1],?_,zNd (hN d (by simp)) _ _ hf,g3⟩
   intro i u dd hu hd
   cases i with
   |zero=>
    simp [kP] at hu hd
    subst hu hd
    exact zT0 (hc t (by simp)) h1 (hok 0 t v rfl rfl) hx
   |succ i=>exact g2 i u dd (by simpa using hu) (by simpa [kP] using hd)
theorem zRc (hl:laidOutB P=true) {W W':World} (hb:Below W.heap.size W W') {sp':Nat→Bool} : ∀ (pts:List TypeId) (vs:List Value) (ds:List (DataW H)) (ps:List MemPlace),
  (∀t∈pts,P.readableRec t=true∧t<P.types.size)→DataW.TrodAll enc P W 0 (fun _=>true) true pts vs ds ps→(∀p∈ps,p.block<W.heap.size∧sp' p.block=true)→
  DataW.TrodAll enc P W' 0 sp' true pts vs ds ps:=by
 intro pts
 induction pts with
 |nil=>intro vs ds ps _ h _;match vs,ds,h with|[],[],h=>exact h
 |cons t pts ih=>
  intro vs ds ps hr h hp
  match vs,ds,h with
  |v::vs,d::ds,h=>
   obtain ⟨p,q,ht,hq,rfl⟩:=h
   refine ⟨p,q,?_,ih vs ds q (fun t ht=>hr t (aw _ ht)) hq (fun x hx=>hp x (by simp [hx])),rfl⟩
   exact WideElems.Trod_stays hl (hr t (by simp)).1 (hr t (by simp)).2 ht (fun x hx=>hb.same (hp x (by simp [hx])).1) (fun x hx=>(hp x (by simp [hx])).2)
theorem zTk {f:FuncId} {fn:Func} {s:ChangeSpec} {tys:List Ty} {g:ElS tys→Option (RTy.El (.p .bool))} (hl:laidOutB P=true) (hbk:qA1 bk) {N:Nat}
  (hc: ∀t∈fn.params.toList,zFv P 12 t=true∧P.readableRec t=true∧t<P.types.size) (hty:fn.params.toList.mapM (zJV P 12)=some tys) (hvars:s.vars=[])
  (hspec: ∀ds:List (DataW H),ds.length=fn.params.size→s.fn H ds= { results:=[.lit (.bool true)],args:=ds })
  {tb:TypeId} (hres:fn.resultTypes= #[tb]) (htb:P.underlying tb=some .bool)
  (hg: ∀x:ElS tys,zXH N tys x→g x=some true)
  (hfn:w6 jT P (fun _=>none) f (qQ (wI tys (.p .bool) g)))
  {W:World} {base:Nat} {args:Array Value} {ds gs:List (DataW H)} {before:List MemPlace}
  (hval: ∀ (j:Nat) t v,fn.params[j]? =some t→args[j]? =some v→Value.okWide P W .any base t v)
  (hW:DataW.Whole enc P fn.params.toList s.vars false W args.toList ds gs before) (hN: ∀d∈ds,bk d≤N):
  Calls P f args W fun e W'=> ∃v,e= .returned v∧s.post enc P fn false true false false W args v W':=by
 have hW0:=hW
 obtain ⟨p,q,hA,hV,rfl,hfz,hnd⟩:=hW
 have hVn:gs=[]∧q=[]:=by
  rw [hvars] at hV
  match gs,hV with
  |[],hV=>exact ⟨rfl,hV⟩
 obtain ⟨rfl,rfl⟩:=hVn
 simp only [ba] at hW0
 obtain ⟨x,hx1,hx2,hx3⟩:=zRb (w:=W) hbk fn.params.toList tys args.toList ds p (fun t ht=>(hc t ht).1) hty hA (fun j t v ht hv=>hval j t v (by simpa using ht) (by simpa using hv)) hN
 have hds:ds.length=fn.params.size:=by
  have hlen: ∀ (ts:List TypeId) (vs:List Value) (ds:List (DataW H)) (ps:List MemPlace),DataW.TrodAll enc P W 0 (fun _=>true) true ts vs ds ps→ds.length=ts.length:=by
   intro ts
   induction ts with
   |nil=>intro vs ds ps h;match vs,ds,h with|[],[],_=>rfl
   |cons t ts ih=>
    intro vs ds ps h
    match vs,ds,h with
    |v::vs,d::ds,h=>obtain ⟨_,q,_,hq,_⟩:=h;simp [ih vs ds q hq]
  have:=hlen _ _ _ _ hA
  simpa using this
 have hsp:qQ (Γ:=jT) (wI tys (.p .bool) g) () (kP tys x)=some ((), .p (.val (.bool true))):=by
  simp only [qQ,wI,vG,zED]
  rw [hg x hx3]
  rfl
 have hcall:=hfn W (zZT W.heap.size) (fun _=>False) () args (kP tys x) () (.p (.val (.bool true))) (fun b hb=>hb) (fun g cs hg=>by cases hg) (fun b hb=>⟨hb,fun h=>h⟩)
  (by have:=hx1;simpa using this) (fun i v d hv hd=>hx2 i v d (by simpa using hv) hd) hsp
 refine hcall.mono ?_
 rintro e W' ⟨v,F',O',rfl,_,hk,_,_,_,hret⟩
 have hv:v= .bool true:=Rd.eq_val hret
 subst hv
 refine ⟨_,rfl,?_⟩
 have hb:Below W.heap.size W W':=⟨hk.os,hk.tape,hk.output,hk.size,fun b hb=>hk.block b hb (fun h=>h)⟩
 have hlt: ∀x∈p,x.block<W.heap.size:=fun x hx=>by
  have:=hW0.lt x hx;exact this
 have hargs: ∀sp':Nat→Bool,(∀x∈p,sp' x.block=true)→DataW.TrodAll enc P W' 0 sp' true fn.params.toList args.toList ds p:=fun sp' hs=>
  zRc hl hb fn.params.toList args.toList ds p (fun t ht=>(hc t ht).2) hA (fun x hx=>⟨hlt x hx,hs x hx⟩)
 have hfnn:=hspec (ds++[]) (by simpa using hds)
 refine ⟨ds,[],p,[],p,[],hW0,?_,?_,?_,World.keptBut_mono (fun x hx=>⟨hx, .inr (.inl hx)⟩) (hb.frame (· ∈p)),fun h=>by cases h⟩
 ·rw [hfnn,hres]
  refine ⟨[],[],⟨1,?_⟩,rfl,rfl⟩
  simp [DataW.trod,htb,Value.cells]
 ·rw [hfnn]
  simp only [ba]
  exact hargs _ (fun x hx=>by simpa using hlt x hx)
 ·rw [hvars,hfnn];rfl
end
end Go.Ve

namespace Go.Ve
open Go
set_option maxRecDepth 1000000
set_option maxHeartbeats 4000000
theorem zII {y:Ty.El zB} (h:Ty.fits 1048576 zB y):RtS y:=
 ⟨h.2.2.2.2.2.2.2.2.1.1,h.2.2.2.2.2.2.2.2.2.2.2.1.1⟩
end Go.Ve

namespace Go.Ve
open Go
set_option maxRecDepth 1000000
set_option maxHeartbeats 4000000
theorem qAC {v:Ty.El zN} {r i:Int} (h:upB v r i=true):((r,i,()):Ty.El zO)∈zAu v r i:=by
 obtain ⟨dm,hd,h0,hee⟩:=zMt h
 obtain ⟨dm',hd',hp⟩:=zFa (p:=fun d:Ty.El uZ=>d.2.2.1.any (zHy (r,i,()))) (xs:=v.2.1.1) h0
 have hd':v.2.1.1[(uT v r i).toNat]? =some dm':=hd'
 rw [hd] at hd'
 cases hd'
 obtain ⟨e,he,hb⟩:=bt.1 hp
 have:=zVk.1 hb
 rw [hee, ←this]
 exact he
theorem zTe {v:Ty.El zN} {r i:Int} {p:Ty.El zO→Bool} {e:Ty.El zO} (h:e∈zHx v r i p):upB v r i=true∧e∈zAu v r i∧p e=true:=by
 unfold zHx at h
 cases hu:upB v r i with
 |false=>rw [hu] at h;cases h
 |true=>
  rw [hu] at h
  obtain ⟨h1,h2⟩:=aV.1 h
  exact ⟨rfl,h1,h2⟩
theorem qCN {n:Ty.El zX} {d:List Int} {v:Ty.El zN} (hv:zDz n d v) {r i:Int} (h:upB v r i=true) {e:Ty.El zO} (he:e∈zAu v r i):
  (0:Int)≤e.1∧(0:Int)≤e.2.1∧ ∃q y,v.1.1[Int.toNat e.1]? =some q∧q.2.2.1[Int.toNat e.2.1]? =some y∧y.2.2.1≠0:=by
 obtain ⟨dm,_,hall⟩:=qAE hv h
 obtain ⟨b0,b1,q,y,b2,b3,b4,_⟩:=hall e he
 exact ⟨b0,b1,q,y,by rw [hv.net];exact b2,b3,b4⟩
end Go.Ve

namespace Go.Ve
open Go
set_option maxRecDepth 1000000
set_option maxHeartbeats 4000000
def zVT (l:List (Ty.El zT)):Prop:= ∀ (i j:Nat) (x y:Ty.El zT),j<i→l[i]? =some x→l[j]? =some y→y.1≠x.1
theorem zJO (r:Ty.El zF) (hr:SmR r):Wp (yM (r,())) (fun e=>e=0→zVT r.2.2.2.2.2.2.2.2.2.2.1.2.2.2.1):=by
 unfold yM
 dsimp only
 have h20:=hr.i10
 have h20:r.2.2.2.2.2.2.2.2.2.2.1.2.2.2.1.length≤20:=h20
 refine zJ (fun _=>zA (fun h=>by cases h)) (fun _=> ?_)
 refine uY (by omega) (fun i=> ∀m x,m<i→r.2.2.2.2.2.2.2.2.2.2.1.2.2.2.1[m]? =some x→ ∀j y,j<m→r.2.2.2.2.2.2.2.2.2.2.1.2.2.2.1[j]? =some y→y.1≠x.1) (fun m x hm=>by omega) ?_ (fun hj=>zA (fun _ i j x y hji hx hy=>hj i x (ac.1 hx).1 hx j y hji hy))
 intro i x hx hj
 have hi:=(ac.1 hx).1
 have hi:i<r.2.2.2.2.2.2.2.2.2.2.1.2.2.2.1.length:=hi
 have hrm: ∀nm,Wp (jC (r,nm,())) (fun _=>True):=fun nm=>(zAa r nm hr).mono (fun _ _=>trivial)
 simp only [zI hx,ae]
 refine z8 (zC ((show Wp _ (fun _:Bool=>True) from ?_).mono (fun s _=> ?_)))
 ·exact zD (fun _=>zA trivial) (fun _=>zC (zY (z7 _ _ _) (zA trivial)))
 refine zD (fun _=>zA (fun h=>by cases h)) (fun _=> ?_)
 refine zC ((show Wp _ (fun _:Bool=>True) from ?_).mono (fun s _=> ?_))
 ·refine zD (fun _=>zC ((hrm _).mono (fun k _=>zJ (fun _=>zA trivial) (fun _=> ?_)))) (fun _=> ?_)
  ·exact zD (fun _=>zC ((hrm _).mono (fun k _=>zA trivial))) (fun _=>zA trivial)
  ·exact zD (fun _=>zC ((hrm _).mono (fun k _=>zA trivial))) (fun _=>zA trivial)
 refine zD (fun _=>zA (fun h=>by cases h)) (fun _=> ?_)
 refine zBN (n:=i) (P:=fun j=> ∀y,r.2.2.2.2.2.2.2.2.2.2.1.2.2.2.1[j]? =some y→y.1≠x.1) (by omega) ?_ (fun hall=>e2l (zA (e2l ⟨rfl,?_⟩)))
 ·intro j hjl
  obtain ⟨y,hy⟩: ∃y,r.2.2.2.2.2.2.2.2.2.2.1.2.2.2.1[j]? =some y:=⟨_,ai (by omega)⟩
  simp only [zI hy,ae]
  refine zD (fun _=>zA (fun h=>by cases h)) (fun hn=>zA (e2l ⟨rfl,?_⟩))
  intro z hz
  rw [hy] at hz
  cases hz
  simpa using hn
 ·intro m z hm hz j y hjm hy
  rcases aL m i with h'|h'
  ·exact hj m z h' hz j y hjm hy
  ·have:m=i:=by omega
   subst this
   rw [hx] at hz
   cases hz
   exact hall j hjm y hy
theorem zQZ (r:Ty.El zF) (hr:SmR r):Wp (wE (r,())) (fun e=>e=0→zVT r.2.2.2.2.2.2.2.2.2.2.1.2.2.2.1):=by
 unfold wE
 dsimp only
 have h1:r.2.2.2.2.2.2.2.2.2.2.1.2.2.2.1.length≤20:=hr.i10
 have h2:r.2.2.2.2.2.2.2.2.2.2.1.2.2.2.2.1.length≤20:=hr.i11
 have h3:r.2.2.2.2.2.2.2.2.2.2.1.2.2.2.2.2.1.length≤20:=hr.i12
 have h4:r.2.2.2.2.2.2.2.2.2.2.1.2.2.2.2.2.2.1.length≤20:=hr.i13
 have h5:r.2.2.2.2.2.2.2.2.2.2.1.2.2.2.2.2.2.2.1.length≤20:=hr.i14
 refine zD (fun _=> ?_) (fun _=> ?_)
 ·refine zC ((show Wp _ (fun s:Bool=>s=false→r.2.2.2.2.2.2.2.2.2.2.1.2.2.2.1.length=0) from ?_).mono (fun s hs=> ?_))
  ·refine zD (fun _=>zA (fun h=>by cases h)) (fun _=>zD (fun _=>zA (fun h=>by cases h)) (fun _=>zA (fun h=> ?_)))
   have h:=of_decide_eq_false h
   rw [zH (x:=(r.2.2.2.2.2.2.2.2.2.2.1.2.2.2.1.length:Int)+(r.2.2.2.2.2.2.2.2.2.2.1.2.2.2.2.1.length:Int)) (by omega) (by omega)] at h
   rw [zH (x:=(r.2.2.2.2.2.2.2.2.2.2.1.2.2.2.1.length:Int)+(r.2.2.2.2.2.2.2.2.2.2.1.2.2.2.2.1.length:Int)+(r.2.2.2.2.2.2.2.2.2.2.1.2.2.2.2.2.1.length:Int)) (by omega) (by omega)] at h
   rw [zH (x:=(r.2.2.2.2.2.2.2.2.2.2.1.2.2.2.1.length:Int)+(r.2.2.2.2.2.2.2.2.2.2.1.2.2.2.2.1.length:Int)+(r.2.2.2.2.2.2.2.2.2.2.1.2.2.2.2.2.1.length:Int)+(r.2.2.2.2.2.2.2.2.2.2.1.2.2.2.2.2.2.1.length:Int)) (by omega) (by omega)] at h
   rw [zH (by omega) (by omega)] at h
   omega
  ·refine zD (fun _=>zA (fun h=>by cases h)) (fun h=>zA (fun _ i j x y _ hx _=> ?_))
   have:=(ac.1 hx).1
   have hz:=hs h
   omega
 ·refine zC ((show Wp _ (fun _:Bool=>True) from ?_).mono (fun s _=> ?_))
  ·exact zD (fun _=>zA trivial) (fun _=>zC (zY (z7 _ _ _) (zD (fun _=>zA trivial) (fun _=>zC (zY (z7 _ _ _) (zA trivial))))))
  refine zD (fun _=>zA (fun h=>by cases h)) (fun _=> ?_)
  refine zC ((zJO r hr).mono (fun y6 hy6=> ?_))
  refine zD (fun hne=>zA (fun h=> ?_)) (fun h6=> ?_)
  ·have h:y6=0:=h
   rw [h] at hne
   cases hne
  have hnb:=hy6 (by simpa using h6)
  refine zC ((zCw _ ⟨h1,h2,h3,h4,h5⟩).mono (fun y7 _=>zD (fun _=>zA (fun _=>hnb)) (fun _=> ?_)))
  exact zC ((vC r _ _ _ _ hr h5).mono (fun y8 _=>zA (fun _=>hnb)))
theorem qDc {r:Ty.El zF} (h:zY3 r) (hs:SmR r):zVT r.2.2.2.2.2.2.2.2.2.2.1.2.2.2.1:=by
 obtain ⟨e,h1,h2⟩:=zQZ r hs
 have:=h.pv
 rw [this] at h1
 exact h2 (aJ h1).symm
def zFP (l:List (Ty.El zT)) (a:Int):Option (Ty.El zT):=l.find? (fun x=>x.1==a)
theorem zL9 {α:Type} {p:α→Bool} : ∀ {l:List α} {i:Nat} {x:α},l[i]? =some x→p x=true→(∀j y,j<i→l[j]? =some y→p y=false)→l.find? p=some x
 |[],i,x,h,_,_=>by simp at h
 |z::l,0,x,h,hp,_=>by
  simp only [aY,aa] at h
  subst h
  rw [dH,hp]
 |z::l,i+1,x,h,hp,hn=>by
  have hz:=hn 0 z (Nat.zero_lt_succ i) rfl
  rw [dH,hz]
  exact zL9 (by simpa using h) hp (fun j y hj hy=>hn (j+1) y (by omega) (by simpa using hy))
theorem kD (r:Ty.El zF) (a:Int) (hr:SmR r):
  Wp (j8 (r,a,())) (fun y=>match zFP r.2.2.2.2.2.2.2.2.2.2.1.2.2.2.1 a with
   |some x=>y=(x,true,())
   |none=>y=(((0:Int),(0:Int), { data:= #[] }, { data:= #[] },()),false,())):=by
 have h1:r.2.2.2.2.2.2.2.2.2.2.1.2.2.2.1.length≤20:=hr.i10
 unfold j8
 dsimp only
 generalize r.2.2.2.2.2.2.2.2.2.2.1.2.2.2.1=l at h1
 have e0:kN (l,())=some l:=by
  refine j9 ?_
  unfold kN
  exact zC (qU (by simp only [av];omega) (zA rfl))
 refine z8 (zC (zY e0 ?_))
 refine jF (fun s:Int×Ty.El zT=> ∃i:Nat,s.1=(i:Int)∧i≤l.length∧ ∀j y,j<i→l[j]? =some y→(y.1==a)=false) (fun s=>((l.length:Int) -s.1).toNat) ⟨0,rfl,aI _,fun j y hj=>by omega⟩ ?_
 rintro ⟨s,d⟩ ⟨i,hi,hil,hn⟩
 simp only at hi
 subst hi
 refine zJ (fun h=> ?_) (fun h=>zA (e2r (e2l (zA ?_))))
 ·have h:(i:Int)< (l.length:Int):=h
  obtain ⟨y,hy⟩: ∃y,l[i]? =some y:=⟨_,ai (by omega)⟩
  simp only [zI hy,ae]
  refine zD (fun hp=>zA (e2r (e2r ?_))) (fun hp=>zA (e2l ⟨⟨i+1,?_,by omega,?_⟩,?_⟩))
  ·have:zFP l a=some y:=zL9 (p:=fun x:Ty.El zT=>x.1==a) hy hp hn
   rw [this]
  ·simp only;rw [zH (by omega) (by omega)];omega
  ·intro j z hj hz
   rcases aL j i with h'|h'
   ·exact hn j z h' hz
   ·have:j=i:=by omega
    subst this
    rw [hy] at hz
    cases hz
    exact hp
  ·simp only;rw [zH (by omega) (by omega)];omega
 ·have h: ¬(i:Int)< (l.length:Int):=h
  have hnone:zFP l a=none:=by
   unfold zFP
   rw [cj]
   intro x hx
   obtain ⟨j,hj,rfl⟩:=aD hx
   have:=hn j l[j] (by omega) (by simp)
   rw [this]
   decide
  rw [hnone]
def knB (l:List (Ty.El zT)) (a sy:Int):Bool:=l.any (fun x=>x.1==a&&x.2.1==sy)
theorem zUP {l:List (Ty.El zT)} {a:Int} {x:Ty.El zT} (h:zFP l a=some x):x∈l∧x.1=a:=by
 unfold zFP at h
 refine ⟨cK h,?_⟩
 have:=List.find?_some h
 simpa using this
theorem zZ1 {l:List (Ty.El zT)} (hl:zVT l) {x y:Ty.El zT} (hx:x∈l) (hy:y∈l) (h:x.1=y.1):x=y:=by
 obtain ⟨i,hi,rfl⟩:=aD hx
 obtain ⟨j,hj,rfl⟩:=aD hy
 rcases cG i j with h'|h'|h'
 ·exact absurd h (hl j i _ _ h' (by simp) (by simp))
 ·subst h';rfl
 ·exact absurd h.symm (hl i j _ _ h' (by simp) (by simp))
theorem qCA {l:List (Ty.El zT)} (hl:zVT l) (a sy:Int):knB l a sy=match zFP l a with
  |some x=>x.2.1==sy
  |none=>false:=by
 cases h:zFP l a with
 |none=>
  unfold zFP at h
  rw [cj] at h
  unfold knB
  rw [cH]
  intro x hx
  have:=h x hx
  simp only [Bool.not_eq_true] at this
  rw [this]
  simp
 |some x=>
  obtain ⟨h1,h2⟩:=zUP h
  simp only
  rw [bJ]
  unfold knB
  rw [bt]
  constructor
  ·rintro ⟨y,hy,hp⟩
   simp only [aj,beq_iff_eq] at hp
   have:=zZ1 hl h1 hy (h2.trans hp.1.symm)
   rw [this]
   simpa using hp.2
  ·intro hp
   exact ⟨x,h1,by simp only [aj,beq_iff_eq];exact ⟨h2,by simpa using hp⟩⟩
theorem zCy (r:Ty.El zF) (a sy:Int) (hr:SmR r) (hn:zVT r.2.2.2.2.2.2.2.2.2.2.1.2.2.2.1):Wp (yQ (r,a,sy,())) (fun b=>b=knB r.2.2.2.2.2.2.2.2.2.2.1.2.2.2.1 a sy):=by
 unfold yQ
 dsimp only
 refine zC ((kD r a hr).mono (fun y hy=> ?_))
 rw [qCA hn]
 cases h:zFP r.2.2.2.2.2.2.2.2.2.2.1.2.2.2.1 a with
 |none=>
  rw [h] at hy
  simp only at hy
  subst hy
  exact zC (zA (zA rfl))
 |some x=>
  rw [h] at hy
  simp only at hy
  subst hy
  exact zC (zA (zA rfl))
theorem zBi (r:Ty.El zF) (a sy:Int) (hr:SmR r):Wp (zBo (r,a,sy,())) (fun k=>k=kQ (fun x:Ty.El zT=>x.1==a&&x.2.1==sy) r.2.2.2.2.2.2.2.2.2.2.1.2.2.2.1):=by
 have h1:r.2.2.2.2.2.2.2.2.2.2.1.2.2.2.1.length≤20:=hr.i10
 unfold zBo
 dsimp only
 refine kM (p:=fun x:Ty.El zT=>x.1==a&&x.2.1==sy) (by omega) ?_ rfl
 intro i x hx
 simp only [zI hx,ae]
 cases x.1==a<;>cases x.2.1==sy<;>rfl
theorem zPM (l:List (Ty.El zT)) (a sy:Int):decide (kQ (fun x:Ty.El zT=>x.1==a&&x.2.1==sy) l≥(0:Int))=knB l a sy:=by
 rw [bJ,decide_eq_true_eq]
 exact zE9
end Go.Ve

namespace Go.Ve
open Go
set_option maxRecDepth 1000000
set_option maxHeartbeats 4000000
structure zY5 (c:Ty.El vD):Prop where
 met: -1≤c.2.2.2.1∧c.2.2.2.1≤16777215
 tag: -1≤c.2.2.2.2.1∧c.2.2.2.2.1≤65535
 pref: -1≤c.2.2.2.2.2.1∧c.2.2.2.2.2.1≤1000000
 pre:0≤c.2.2.2.2.2.2.1∧c.2.2.2.2.2.2.1≤8
def zA4 (r:Ty.El zF):Prop:= ∀m,m∈r.2.2.2.2.1→ ∀c,c∈m.2.1→zY5 c
theorem zRU (r:Ty.El zF) (hr:SmR r):Wp (kG (r,())) (fun e=>e=0→zA4 r):=by
 unfold kG
 dsimp only
 have h20:r.2.2.2.2.1.length≤20:=hr.i3
 refine zJ (fun _=>zA (fun h=>by cases h)) (fun _=> ?_)
 refine zAW (P:=fun m:Ty.El vO=> ∀c,c∈m.2.1→zY5 c) (by omega) ?_ (fun hall=>zA (fun _=>hall))
 intro i m hm
 have hi:=(ac.1 hm).1
 have hml:=hr.n2 m (af hm)
 simp only [zI hm,ae]
 refine z8 (zC ((vY _).mono (fun b _=> ?_)))
 refine zD (fun _=>zA (fun h=>by cases h)) (fun _=> ?_)
 refine z8 (zBN (n:=i) (P:=fun _=>True) (by omega) ?_ (fun _=> ?_))
 ·intro j hj
  obtain ⟨y,hy⟩: ∃y,r.2.2.2.2.1[j]? =some y:=⟨_,ai (by omega)⟩
  simp only [zI hy,ae]
  exact zD (fun _=>zA (fun h=>by cases h)) (fun _=>zA (e2l ⟨rfl,trivial⟩))
 refine e2l (zD (fun _=>zA (fun h=>by cases h)) (fun _=>zJ (fun _=>zA (fun h=>by cases h)) (fun _=> ?_)))
 refine zXm (xs:=m.2.1) (P:=zY5) (by omega) ?_ (fun hall=>e2l (zA (e2l ⟨rfl,hall⟩)))
 intro k c hc
 simp only [zI hc,ae]
 refine zC ((show Wp _ (fun _:Bool=>True) from ?_).mono (fun s _=> ?_))
 ·exact zD (fun _=>zC ((zAX r _ hr).mono (fun _ _=>zA trivial))) (fun _=>zA trivial)
 refine zD (fun _=>zA ⟨(fun u h=>by cases h),(fun h=>by cases h)⟩) (fun _=> ?_)
 refine zC ((show Wp _ (fun s:Bool=>s=false→zY5 c) from ?_).mono (fun s hs=> ?_))
 ·refine zC (zY (z7 _ _ _) (zD (fun _=>zA (fun h=>by cases h)) (fun _=> ?_)))
  refine zC (zY (z7 _ _ _) (zD (fun _=>zA (fun h=>by cases h)) (fun h2=> ?_)))
  refine zC (zY (z7 _ _ _) (zD (fun _=>zA (fun h=>by cases h)) (fun h3=> ?_)))
  refine zC (zY (z7 _ _ _) (zD (fun _=>zA (fun h=>by cases h)) (fun h4=> ?_)))
  refine zC (zY (z7 _ _ _) (zA (fun h5=>⟨by simpa using h3,by simpa using h2,by simpa using h4,by simpa using h5⟩)))
 ·exact zD (fun _=>zA ⟨(fun u h=>by cases h),(fun h=>by cases h)⟩) (fun h=>zA (e2l ⟨rfl,hs h⟩))
theorem qBu {r:Ty.El zF} (h:zY3 r) (hs:SmR r):zA4 r:=by
 obtain ⟨e,h1,h2⟩:=zRU r hs
 rw [h.maps] at h1
 exact h2 (aJ h1).symm
theorem zFS {α:Type} (p:α→Bool) (xs:List α):(kQ p xs= -1∧xs.find? p=none)∨ ∃ (i:Nat) (x:α),kQ p xs=(i:Int)∧xs[i]? =some x∧xs.find? p=some x:=by
 rcases zEw p xs with ⟨h1,h2⟩|⟨i,x,h1,h2,h3,h4⟩
 ·refine .inl ⟨h1,?_⟩
  rw [cj]
  intro x hx
  rw [h2 x hx]
  decide
 ·exact .inr ⟨i,x,h1,h2,zL9 h2 h3 h4⟩
def zNT (r:Ty.El zF) (nm:Ty.El .str):Int:=kQ (fun m:Ty.El vO=>m.1==nm) r.2.2.2.2.1
theorem zAY (r:Ty.El zF) (nm:Ty.El .str) (hr:SmR r):Wp (yU (r,nm,())) (fun k=>k=zNT r nm):=by
 have h20:r.2.2.2.2.1.length≤20:=hr.i3
 unfold yU vK zCh
 dsimp only
 refine zC (Wp.mono (Q:=fun k=>k=zNT r nm) ?_ (fun k hk=>zA hk))
 refine kM (p:=fun m:Ty.El vO=>m.1==nm) (by omega) ?_ rfl
 intro i x hx
 simp only [zI hx,ae]
 cases x.1==nm<;>rfl
theorem xF (r:Ty.El zF) (nm:Ty.El .str) (hr:SmR r):Wp (jC (r,nm,())) (fun k=>k=zNT r nm):=by
 have h20:r.2.2.2.2.1.length≤20:=hr.i3
 unfold jC
 dsimp only
 refine kM (p:=fun m:Ty.El vO=>m.1==nm) (by omega) ?_ rfl
 intro i x hx
 simp only [zI hx,ae]
 cases x.1==nm<;>rfl
def clB (r:Ty.El zF) (x:Ty.El zB) (c:Ty.El vD):Bool:=zSb r c.2.1 x.1&&(c.2.2.1==(-1:Int)||c.2.2.1==x.2.2.2.2.2.2.1)
def zNF (r:Ty.El zF) (nm:Ty.El .str) (x:Ty.El zB):Option (Ty.El vD):=(r.2.2.2.2.1.find? (fun m:Ty.El vO=>m.1==nm)).bind (fun m=>m.2.1.find? (clB r x))
def ClI (r:Ty.El zF) (nm:Ty.El .str) (x:Ty.El zB) (k:Int):Prop:=
 (k<0∧zNF r nm x=none)∨ ∃ (i j:Nat) (m:Ty.El vO) (c:Ty.El vD),k=(i:Int)∧zNT r nm=(j:Int)∧r.2.2.2.2.1[j]? =some m∧m.2.1[i]? =some c∧zNF r nm x=some c
theorem zXP {r:Ty.El zF} {x:Ty.El zB} {c:Ty.El vD} {f:Option Bool} (hf:Wp f (fun b=>b=zSb r c.2.1 x.1)):
  Wp (Option.bind f fun y18=>bif y18 then bif c.2.2.1==(-1:Int) then some true else some (c.2.2.1==x.2.2.2.2.2.2.1) else some false) (fun s=>s=clB r x c):=by
 refine zC (hf.mono (fun b hb=> ?_))
 unfold clB
 refine zD (fun h=>zD (fun h2=>zA ?_) (fun h2=>zA ?_)) (fun h=>zA ?_)
 ·rw [←hb,h,h2];rfl
 ·rw [←hb,h,h2];rfl
 ·rw [←hb,h];rfl
theorem zEg (r:Ty.El zF) (nm:Ty.El .str) (x:Ty.El zB) (hr:SmR r):Wp (zA9 (r,nm,x,())) (ClI r nm x):=by
 unfold zA9
 dsimp only
 refine zC ((zAY r nm hr).mono (fun k hk=> ?_))
 subst hk
 rcases zFS (fun m:Ty.El vO=>m.1==nm) r.2.2.2.2.1 with ⟨h1,h2⟩|⟨j,m,h1,h2,h3⟩
 ·have h1:zNT r nm= -1:=h1
  rw [h1]
  refine tt rfl (zA (.inl ⟨by decide,?_⟩))
  unfold zNF
  rw [h2];rfl
 ·have h1':zNT r nm=(j:Int):=h1
  rw [h1']
  have hml:=hr.n2 m (af h2)
  refine zJ (fun h=>absurd h (by omega)) (fun _=> ?_)
  simp only [zI h2,ae]
  refine uY (xs:=m.2.1) (by omega) (fun i=> ∀k c,k<i→m.2.1[k]? =some c→clB r x c=false) (fun k c hk=>by omega) ?_ (fun hj=>zA (.inl ⟨by decide,?_⟩))
  ·intro i c hc hj
   simp only [zI hc,ae]
   refine zC ((zXP (zJd r _ _ hr)).mono (fun s hs=> ?_))
   refine zD (fun h=>zA (e2r (e2r ?_))) (fun h=>zA (e2l ⟨rfl,?_⟩))
   ·refine .inr ⟨i,j,m,c,rfl,h1',h2,hc,?_⟩
    unfold zNF
    rw [h3]
    exact zL9 hc (by rw [←hs];exact h) hj
   ·intro k z hk hz
    rcases aL k i with h'|h'
    ·exact hj k z h' hz
    ·have:k=i:=by omega
     subst this
     rw [hc] at hz
     cases hz
     rw [←hs];exact h
  ·unfold zNF
   rw [h3]
   show m.2.1.find? (clB r x)=none
   rw [cj]
   intro c hc
   obtain ⟨k,hk,rfl⟩:=aD hc
   rw [hj k _ hk (by simp [hk])]
   decide
theorem zCK (r:Ty.El zF) (nm:Ty.El .str) (x:Ty.El zB) (hr:SmR r):Wp (zBy (r,nm,x,())) (ClI r nm x):=by
 unfold zBy
 dsimp only
 refine zC ((xF r nm hr).mono (fun k hk=> ?_))
 subst hk
 rcases zFS (fun m:Ty.El vO=>m.1==nm) r.2.2.2.2.1 with ⟨h1,h2⟩|⟨j,m,h1,h2,h3⟩
 ·have h1:zNT r nm= -1:=h1
  rw [h1]
  refine tt rfl (zA (.inl ⟨by decide,?_⟩))
  unfold zNF
  rw [h2];rfl
 ·have h1':zNT r nm=(j:Int):=h1
  rw [h1']
  have hml:=hr.n2 m (af h2)
  refine zJ (fun h=>absurd h (by omega)) (fun _=> ?_)
  simp only [zI h2,ae]
  refine uY (xs:=m.2.1) (by omega) (fun i=> ∀k c,k<i→m.2.1[k]? =some c→clB r x c=false) (fun k c hk=>by omega) ?_ (fun hj=>zA (.inl ⟨by decide,?_⟩))
  ·intro i c hc hj
   simp only [zI hc,ae]
   refine zC ((zXP (zFB r _ _ hr)).mono (fun s hs=> ?_))
   refine zD (fun h=>zA (e2r (e2r ?_))) (fun h=>zA (e2l ⟨rfl,?_⟩))
   ·refine .inr ⟨i,j,m,c,rfl,h1',h2,hc,?_⟩
    unfold zNF
    rw [h3]
    exact zL9 hc (by rw [←hs];exact h) hj
   ·intro k z hk hz
    rcases aL k i with h'|h'
    ·exact hj k z h' hz
    ·have:k=i:=by omega
     subst this
     rw [hc] at hz
     cases hz
     rw [←hs];exact h
  ·unfold zNF
   rw [h3]
   show m.2.1.find? (clB r x)=none
   rw [cj]
   intro c hc
   obtain ⟨k,hk,rfl⟩:=aD hc
   rw [hj k _ hk (by simp [hk])]
   decide
theorem zTM {r:Ty.El zF} (hm:zA4 r) {nm:Ty.El .str} {x:Ty.El zB} {c:Ty.El vD} (h:zNF r nm x=some c):zY5 c:=by
 unfold zNF at h
 cases hf:r.2.2.2.2.1.find? (fun m:Ty.El vO=>m.1==nm) with
 |none=>rw [hf] at h;cases h
 |some m=>
  rw [hf] at h
  have h:m.2.1.find? (clB r x)=some c:=h
  exact hm m (cK hf) c (cK h)
def zDx (r:Ty.El zF) (nm:Ty.El .str) (x:Ty.El zB):Option (Ty.El vD):=
 match zNF r nm x with
 |some c=>bif c.1 then some c else none
 |none=>none
def zRW:Ty.El zB:=(((0:Int),(0:Int),()),(0:Int),(0:Int),(0:Int),(0:Int),(0:Int),(0:Int),(0:Int),[],(0:Int),(0:Int),[],false,())
theorem zBU (r:Ty.El zF) (nm:Ty.El .str) (x:Ty.El zB) (hr:SmR r):Wp (uB (r,nm,x,())) (fun y=>match zDx r nm x with
  |some c=>y=(c,true,())
  |none=>y.2.1=false):=by
 unfold uB
 dsimp only
 refine zC ((zEg r nm x hr).mono (fun k hk=> ?_))
 rcases hk with ⟨h1,h2⟩|⟨i,j,m,c,rfl,h2,h3,h4,h5⟩
 ·refine zJ (fun _=>zA ?_) (fun h=>absurd h1 h)
  unfold zDx
  rw [h2]
 ·refine zJ (fun h=>absurd h (by omega)) (fun _=> ?_)
  refine zC ((zAY r nm hr).mono (fun k hk=> ?_))
  subst hk
  rw [h2]
  simp only [zI h3,zI h4,ae]
  refine zA ?_
  unfold zDx
  rw [h5]
  cases hc:c.1 with
  |false=>simp [hc]
  |true=>simp [hc]
def zX4 (x:Ty.El zB) (c:Ty.El vD):Ty.El zB:=
 (x.1,x.2.1,x.2.2.1,x.2.2.2.1,(bif c.2.2.2.1==(-1:Int) then x.2.2.2.2.1 else c.2.2.2.1),x.2.2.2.2.2.1,(bif c.2.2.2.2.1==(-1:Int) then x.2.2.2.2.2.2.1 else c.2.2.2.2.1),(bif c.2.2.2.2.2.1==(-1:Int) then x.2.2.2.2.2.2.2.1 else c.2.2.2.2.2.1),x.2.2.2.2.2.2.2.2)
def zHD (r:Ty.El zF) (nm:Ty.El .str) (x:Ty.El zB):Option (Ty.El zB):=
 bif nm==({ data:= #[] } :ByteArray) then some x else (zDx r nm x).map (zX4 x)
theorem zNE (l:List Int) (h:l.length≤1048576):jY (l,())=some l:=by
 refine j9 ?_
 unfold jY
 exact zC (qU (by simp only [av];omega) (zA rfl))
theorem zYN (l:List (Ty.El qB)) (h:l.length≤1048576):zAA (l,())=some l:=by
 refine j9 ?_
 unfold zAA
 exact zC (qU (by simp only [av];omega) (zA rfl))
theorem zBV (r:Ty.El zF) (nm:Ty.El .str) (x:Ty.El zB) (hr:SmR r) (hx:RtS x):Wp (zCa (r,nm,x,())) (fun y=>y=match zHD r nm x with
  |some z=>(z,true,())
  |none=>(zRW,false,())):=by
 obtain ⟨hp,hh⟩:=hx
 obtain ⟨⟨pa,pl,⟨⟩⟩,pr,cl,ad,me,inn,tg,pf,path,fr,nx,hops,dc,⟨⟩⟩:=x
 simp only at hp hh
 unfold zCa
 dsimp only
 refine zC (zY (zNE path hp) (zC (zY (zYN hops hh) ?_)))
 unfold zHD
 refine zD (fun h=>zA ?_) (fun h=> ?_)
 ·rw [h];rfl
 rw [h]
 refine zC ((zBU r nm _ hr).mono (fun y2 hy=> ?_))
 generalize hx:(((pa,pl,()),pr,cl,ad,me,inn,tg,pf,path,fr,nx,hops,dc,()):Ty.El zB)=x at hy
 cases hc:zDx r nm x with
 |none=>
  rw [hc] at hy
  simp only at hy
  rw [hy]
  exact tt rfl (zA rfl)
 |some c=>
  rw [hc] at hy
  simp only at hy
  subst hy
  subst hx
  refine ff rfl ?_
  show Wp _ (fun y=>y=(zX4 _ c,true,()))
  unfold zX4
  dsimp only
  refine zC (zD (fun h1=>zA ?_) (fun h1=>zA ?_))
  all_goals
   refine zC (zD (fun h2=>zA ?_) (fun h2=>zA ?_))
   all_goals
    refine zC (zD (fun h3=>zA (zA ?_)) (fun h3=>zA (zA ?_)))
    all_goals
     have g1:=congrArg not h1
     have g2:=congrArg not h2
     have g3:=congrArg not h3
     simp only [bne,Bool.not_not,ce,Bool.not_false] at g1 g2 g3
     rw [g1,g2,g3]
     rfl
theorem zDu (r:Ty.El zF) (nm:Ty.El .str) (x:Ty.El zB) (hr:SmR r) (hm:zA4 r):Wp (zEm (r,nm,x,())) (fun y=>y=match zHD r nm x with
  |some z=>(z,true,())
  |none=>(zRW,false,())):=by
 unfold zEm
 dsimp only
 unfold zHD
 refine zD (fun h=>zA ?_) (fun h=> ?_)
 ·rw [h];rfl
 rw [h]
 refine zC ((zCK r nm x hr).mono (fun k hk=> ?_))
 rcases hk with ⟨h1,h2⟩|⟨i,j,m,c,rfl,h2,h3,h4,h5⟩
 ·refine zJ (fun _=>zA ?_) (fun h=>absurd h1 h)
  unfold zDx
  rw [h2]
  rfl
 ·have hok:=zTM hm h5
  refine zJ (fun h=>absurd h (by omega)) (fun _=> ?_)
  refine zC ((xF r nm hr).mono (fun k hk=> ?_))
  subst hk
  rw [h2]
  simp only [zI h3,zI h4,ae]
  unfold zDx
  rw [h5]
  simp only
  refine zD (fun hc=>zA ?_) (fun hc=> ?_)
  ·have hc:c.1=false:=by simpa using hc
   rw [hc];rfl
  have hc:c.1=true:=by simpa using hc
  rw [hc]
  show Wp _ (fun y=>y=(zX4 x c,true,()))
  have key: ∀a:Int, -1≤a→decide (a≥(0:Int))= !(a==(-1:Int)):=by
   intro a ha
   by_cases h0:a= -1
   ·subst h0;rfl
   ·have h1:(a==(-1:Int))=false:=by simpa using h0
    have h2:a≥0:=by omega
    rw [h1,decide_eq_true h2];rfl
  have k1:decide (c.2.2.2.1≥(0:Int))= !(c.2.2.2.1==(-1:Int)):=key _ hok.met.1
  have k2:decide (c.2.2.2.2.1≥(0:Int))= !(c.2.2.2.2.1==(-1:Int)):=key _ hok.tag.1
  have k3:decide (c.2.2.2.2.2.1≥(0:Int))= !(c.2.2.2.2.2.1==(-1:Int)):=key _ hok.pref.1
  rw [k1,k2,k3]
  unfold zX4
  cases c.2.2.2.1==(-1:Int)<;>cases c.2.2.2.2.1==(-1:Int)<;>cases c.2.2.2.2.2.1==(-1:Int)<;>exact zA rfl
def zLA (r:Ty.El zF) (nm:Ty.El .str) (x:Ty.El zB):Int:=
 match zDx r nm x with
 |some c=>c.2.2.2.2.2.2.1
 |none=>0
theorem zS5 {r:Ty.El zF} (hm:zA4 r) (nm:Ty.El .str) (x:Ty.El zB):0≤zLA r nm x∧zLA r nm x≤8:=by
 unfold zLA zDx
 cases h:zNF r nm x with
 |none=>exact ⟨by decide,by decide⟩
 |some c=>
  have:=(zTM hm h).pre
  cases hc:c.1 with
  |false=>simp [hc]
  |true=>simpa [hc] using this
theorem zJc (r:Ty.El zF) (nm:Ty.El .str) (x:Ty.El zB) (hr:SmR r):Wp (zB8 (r,nm,x,())) (fun y=>y=zLA r nm x):=by
 unfold zB8
 dsimp only
 refine zC ((zBU r nm x hr).mono (fun y2 hy=> ?_))
 unfold zLA
 cases hc:zDx r nm x with
 |none=>
  rw [hc] at hy
  simp only at hy
  rw [hy]
  exact tt rfl (zA rfl)
 |some c=>
  rw [hc] at hy
  simp only at hy
  subst hy
  exact ff rfl (zA rfl)
theorem zLf (r:Ty.El zF) (nm:Ty.El .str) (x:Ty.El zB) (hr:SmR r):Wp (zB2 (r,nm,x,())) (fun y=>y=zLA r nm x):=by
 unfold zB2
 dsimp only
 refine zC ((zCK r nm x hr).mono (fun k hk=> ?_))
 unfold zLA zDx
 rcases hk with ⟨h1,h2⟩|⟨i,j,m,c,rfl,h2,h3,h4,h5⟩
 ·refine zJ (fun _=>zA ?_) (fun h=>absurd h1 h)
  rw [h2]
 ·refine zJ (fun h=>absurd h (by omega)) (fun _=> ?_)
  refine zC ((xF r nm hr).mono (fun k hk=> ?_))
  subst hk
  rw [h2]
  simp only [zI h3,zI h4,ae]
  rw [h5]
  refine zD (fun hc=>zA ?_) (fun hc=>zA ?_)
  ·have hc:c.1=false:=by simpa using hc
   simp [hc]
  ·have hc:c.1=true:=by simpa using hc
   simp [hc]
end Go.Ve
