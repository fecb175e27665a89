/-
  The bridge, part 2: from a contract over typed data to what a law's row asks of a call.
  DistGrows: the law answers true.
  DistFilters: the law answers true.
-/
import Derived.ChangeSame
import Derived.Below
import Derived.Carry
import Derived.Test.YtcnlcmbchljpgaaGreatQb15
import Derived.Test.YtcnlcmbchljpgaaGreatQb11
import Derived.Test.YtcnlcmbchljpgaaGreatQb13
set_option linter.unusedVariables false
namespace Go.Ve
open Go Go.RowKit
def zSF (N:Nat):(ts:List Ty)→ElS ts→Prop
 |[],_=>True
 |t::ts,x=>t.fits N x.1∧zSF N ts x.2
section
variable {H:Type} {enc:TypeId×Value→H} {P:Program} {w:World} {sp:Nat→Bool} {held:Bool} {bk:DataW H→Nat}
theorem zO6 {n:Nat} {t:TypeId} {ty:Ty} {v:Value} {x:ty.El} {F:Blk→Prop} {base:Nat} (hc:zC4 P n t=true) (hty:zGx P n t=some ty) (hok:Value.okWide P w .any base t v)
  (h:CR w F v.cells.toList ty x):Rd w F v (ty.enc x):=by
 cases n with
 |zero=>simp [zC4] at hc
 |succ n=>
  simp only [zGx] at hty
  simp only [zC4] at hc
  unfold Value.okWide at hok
  have hone:ty.cells x=[ty.enc x]→(∀cs,v≠ .agg cs)→Rd w F v (ty.enc x):=by
   intro h1 h2
   have hvc:v.cells= #[v]:=by cases v<;>first|rfl|exact absurd rfl (h2 _)
   have h3:=h.2
   rw [hvc] at h3
   exact h3 0 v (ty.enc x) rfl (by rw [h1];rfl)
  cases hu:P.underlying t with
  |none=>rw [hu] at hty;cases hty
  |some td=>
   rw [hu] at hty hc hok
   have hnoagg: ∀ (hs:ty.cells x=[ty.enc x]), ∀cs,v= .agg cs→ ∃u,cs.toList=[u]:=by
    intro hs cs hv
    subst hv
    have:=h.1
    rw [←qO ty x,hs] at this
    simp only [Value.cells,List.length_singleton] at this
    match hcs:cs.toList,this with
    |[u],_=>exact ⟨u,rfl⟩
   cases td with
   |struct fs=>
    obtain ⟨cs,rfl,_,_⟩:=hok
    simp only [Value.cells] at h
    have hagg: ∀ (fs:List Field) (ty:Ty),fs.foldr (fun f acc=>match zGx P n f.type,acc with
      |some a,some b=>some (Ty.pair a b)
      |_,_=>none) (some .unit)=some ty→ ∀x:ty.El,ty.enc x= .agg (ty.cells x):=by
     intro fs ty hh x
     cases fs with
     |nil=>simp only [List.foldr_nil,Option.some.injEq] at hh;subst hh;rfl
     |cons f fs=>
      simp only [List.foldr_cons] at hh
      split at hh
      ·simp only [Option.some.injEq] at hh;subst hh;rfl
      ·cases hh
    rw [hagg fs.toList ty hty x]
    refine .agg cs _ ?_ ?_
    ·have:=h.1;rw [qO];simpa using this
    ·intro i v d hv hd
     exact h.2 i v d (by simpa using hv) hd
   |bool=>
    simp only [Option.some.injEq] at hty;subst hty
    refine hone rfl ?_
    rintro cs rfl
    simp [Cell.okWide,Cell.ok,hu] at hok
   |int k=>
    simp only [Option.some.injEq] at hty;subst hty
    refine hone rfl ?_
    rintro cs rfl
    simp [Cell.okWide,Cell.ok,hu] at hok
   |string=>
    simp only [Option.some.injEq] at hty;subst hty
    refine hone rfl ?_
    rintro cs rfl
    simp [Cell.okWide,Cell.ok,hu] at hok
   |slice el=>
    simp only at hty
    split at hty
    ·simp only [Option.some.injEq] at hty;subst hty
     refine hone rfl ?_
     rintro cs rfl
     simp [Cell.okWide,Cell.ok,hu] at hok
    ·cases hty
   |array m el=>cases hc
   |_=>cases hty
theorem zMy (hbk:zVu bk) {N base:Nat} : ∀ (pts:List TypeId) (tys:List Ty) (vs:List Value) (ds:List (DataW H)) (ps:List MemPlace),(∀t∈pts,zC4 P 12 t=true)→pts.mapM (zGx P 12)=some tys→
  DataW.TrodAll enc P w 0 sp held pts vs ds ps→(∀ (j:Nat) t v,pts[j]? =some t→vs[j]? =some v→Value.okWide P w .any base t v)→(∀d∈ds,bk d≤N)→
  ∃x:ElS tys,vs.length=(vA tys x).length∧(∀ (i:Nat) (v:Value) (d:V),vs[i]? =some v→(vA tys x)[i]? =some d→Rd w (zUy w.heap.size) v d)∧zSF N tys x:=by
 intro pts
 induction pts with
 |nil=>
  intro tys vs ds ps _ hty h _ _
  simp at hty
  subst hty
  match vs,ds,h with
  |[],[],_=>exact ⟨(),rfl,fun i v d h=>by simp at h,trivial⟩
 |cons t pts ih=>
  intro tys vs ds ps hc hty h hok hN
  rw [List.mapM_cons] at hty
  simp only [Option.bind_eq_bind,Option.bind_eq_some_iff,Option.pure_def,Option.some.injEq] at hty
  obtain ⟨ty,h1,tys',h2,rfl⟩:=hty
  match vs,ds,h with
  |v::vs,d::ds,h=>
   obtain ⟨p,q,⟨fuel,ht⟩,hr,rfl⟩:=h
   obtain ⟨x,hx,hf⟩:=zQX hbk 12 t ty fuel _ d p (hc t (by simp)) h1 ht
   obtain ⟨xs,g1,g2,g3⟩:=ih tys' vs ds q (fun t ht=>hc t (List.mem_cons_of_mem _ ht)) h2 hr (fun j t v ht hv=>hok (j+1) t v (by simpa using ht) (by simpa using hv)) (fun d hd=>hN d (List.mem_cons_of_mem _ hd))
   refine ⟨(x,xs),by simp [vA,g1],?_,zI9 (hN d (by simp)) _ _ hf,g3⟩
   intro i u dd hu hd
   cases i with
   |zero=>
    simp [vA] at hu hd
    subst hu hd
    exact zO6 (hc t (by simp)) h1 (hok 0 t v rfl rfl) hx
   |succ i=>exact g2 i u dd (by simpa using hu) (by simpa [vA] using hd)
theorem zMz (hl:laidOutB P=true) {W W':World} (hb:Below W.heap.size W W') {sp':Nat→Bool} : ∀ (pts:List TypeId) (vs:List Value) (ds:List (DataW H)) (ps:List MemPlace),
  (∀t∈pts,P.readableRec t=true∧t<P.types.size)→DataW.TrodAll enc P W 0 (fun _=>true) true pts vs ds ps→(∀p∈ps,p.block<W.heap.size∧sp' p.block=true)→
  DataW.TrodAll enc P W' 0 sp' true pts vs ds ps:=by
 intro pts
 induction pts with
 |nil=>intro vs ds ps _ h _;match vs,ds,h with|[],[],h=>exact h
 |cons t pts ih=>
  intro vs ds ps hr h hp
  match vs,ds,h with
  |v::vs,d::ds,h=>
   obtain ⟨p,q,ht,hq,rfl⟩:=h
   refine ⟨p,q,?_,ih vs ds q (fun t ht=>hr t (List.mem_cons_of_mem _ ht)) hq (fun x hx=>hp x (by simp [hx])),rfl⟩
   exact WideElems.Trod_stays hl (hr t (by simp)).1 (hr t (by simp)).2 ht (fun x hx=>hb.same (hp x (by simp [hx])).1) (fun x hx=>(hp x (by simp [hx])).2)
theorem zOy {f:FuncId} {fn:Func} {s:ChangeSpec} {tys:List Ty} {g:ElS tys→Option (RTy.El (.p .bool))} (hl:laidOutB P=true) (hbk:zVu bk) {N:Nat}
  (hc: ∀t∈fn.params.toList,zC4 P 12 t=true∧P.readableRec t=true∧t<P.types.size) (hty:fn.params.toList.mapM (zGx P 12)=some tys) (hvars:s.vars=[])
  (hspec: ∀ds:List (DataW H),ds.length=fn.params.size→s.fn H ds= { results:=[.lit (.bool true)],args:=ds })
  {tb:TypeId} (hres:fn.resultTypes= #[tb]) (htb:P.underlying tb=some .bool)
  (hg: ∀x:ElS tys,zSF N tys x→g x=some true)
  (hfn:j7 jI P (fun _=>none) f (qG (jV tys (.p .bool) g)))
  {W:World} {base:Nat} {args:Array Value} {ds gs:List (DataW H)} {before:List MemPlace}
  (hval: ∀ (j:Nat) t v,fn.params[j]? =some t→args[j]? =some v→Value.okWide P W .any base t v)
  (hW:DataW.Whole enc P fn.params.toList s.vars false W args.toList ds gs before) (hN: ∀d∈ds,bk d≤N):
  Calls P f args W fun e W'=> ∃v,e= .returned v∧s.post enc P fn false true false false W args v W':=by
 have hW0:=hW
 obtain ⟨p,q,hA,hV,rfl,hfz,hnd⟩:=hW
 have hVn:gs=[]∧q=[]:=by
  rw [hvars] at hV
  match gs,hV with
  |[],hV=>exact ⟨rfl,hV⟩
 obtain ⟨rfl,rfl⟩:=hVn
 simp only [List.append_nil] at hW0
 obtain ⟨x,hx1,hx2,hx3⟩:=zMy (w:=W) hbk fn.params.toList tys args.toList ds p (fun t ht=>(hc t ht).1) hty hA (fun j t v ht hv=>hval j t v (by simpa using ht) (by simpa using hv)) hN
 have hds:ds.length=fn.params.size:=by
  have hlen: ∀ (ts:List TypeId) (vs:List Value) (ds:List (DataW H)) (ps:List MemPlace),DataW.TrodAll enc P W 0 (fun _=>true) true ts vs ds ps→ds.length=ts.length:=by
   intro ts
   induction ts with
   |nil=>intro vs ds ps h;match vs,ds,h with|[],[],_=>rfl
   |cons t ts ih=>
    intro vs ds ps h
    match vs,ds,h with
    |v::vs,d::ds,h=>obtain ⟨_,q,_,hq,_⟩:=h;simp [ih vs ds q hq]
  have:=hlen _ _ _ _ hA
  simpa using this
 have hsp:qG (Γ:=jI) (jV tys (.p .bool) g) () (vA tys x)=some ((), .p (.val (.bool true))):=by
  simp only [qG,jV,wF,zCn]
  rw [hg x hx3]
  rfl
 have hcall:=hfn W (zUy W.heap.size) (fun _=>False) () args (vA tys x) () (.p (.val (.bool true))) (fun b hb=>hb) (fun g cs hg=>by cases hg) (fun b hb=>⟨hb,fun h=>h⟩)
  (by have:=hx1;simpa using this) (fun i v d hv hd=>hx2 i v d (by simpa using hv) hd) hsp
 refine hcall.mono ?_
 rintro e W' ⟨v,F',O',rfl,_,hk,_,_,_,hret⟩
 have hv:v= .bool true:=Rd.eq_val hret
 subst hv
 refine ⟨_,rfl,?_⟩
 have hb:Below W.heap.size W W':=⟨hk.os,hk.tape,hk.output,hk.size,fun b hb=>hk.block b hb (fun h=>h)⟩
 have hlt: ∀x∈p,x.block<W.heap.size:=fun x hx=>by
  have:=hW0.lt x hx;exact this
 have hargs: ∀sp':Nat→Bool,(∀x∈p,sp' x.block=true)→DataW.TrodAll enc P W' 0 sp' true fn.params.toList args.toList ds p:=fun sp' hs=>
  zMz hl hb fn.params.toList args.toList ds p (fun t ht=>(hc t ht).2) hA (fun x hx=>⟨hlt x hx,hs x hx⟩)
 have hfnn:=hspec (ds++[]) (by simpa using hds)
 refine ⟨ds,[],p,[],p,[],hW0,?_,?_,?_,World.keptBut_mono (fun x hx=>⟨hx, .inr (.inl hx)⟩) (hb.frame (· ∈p)),fun h=>by cases h⟩
 ·rw [hfnn,hres]
  refine ⟨[],[],⟨1,?_⟩,rfl,rfl⟩
  simp [DataW.trod,htb,Value.cells]
 ·rw [hfnn]
  simp only [List.append_nil]
  exact hargs _ (fun x hx=>by simpa using hlt x hx)
 ·rw [hvars,hfnn];rfl
end
end Go.Ve

namespace Go.Ve
open Go
set_option maxRecDepth 1000000
set_option maxHeartbeats 4000000
theorem zS3 {y:Ty.El zA} (h:Ty.fits 1048576 zA y):RtS y:=
 ⟨h.2.2.2.2.2.2.2.2.1.1,h.2.2.2.2.2.2.2.2.2.2.2.1.1⟩
theorem zIV {rt q:Ty.El zG} {y:Ty.El qQ} {i:Int} {x0 x:Ty.El zA} (h:zKd rt q y i x0=some x):
  x0.2.2.2.2.1< (15:Int)∧zEl q q.2.2.2.2.2.2.2.2.2.1.2.2.2.1 x0.1=true∧zEl rt rt.2.2.2.2.2.2.2.2.2.1.2.2.1 x0.1=true∧
   x=(x0.1,(4:Int),(3:Int),rt.2.2.2.2.2.2.2.2.2.1.2.1,IntKind.wrap IntKind.i64 (x0.2.2.2.2.1+(1:Int)),(0:Int),x0.2.2.2.2.2.2.1,(0:Int),[],(0:Int),(0:Int),[(i,y.2.1,())],false,()):=by
 unfold zKd at h
 cases hc:(decide (x0.2.2.2.2.1< (15:Int))&&(zEl q q.2.2.2.2.2.2.2.2.2.1.2.2.2.1 x0.1&&zEl rt rt.2.2.2.2.2.2.2.2.2.1.2.2.1 x0.1)) with
 |false=>rw [hc] at h;cases h
 |true=>
  rw [hc] at h
  simp only [Bool.and_eq_true] at hc
  exact ⟨of_decide_eq_true hc.1,hc.2.1,hc.2.2,(Option.some.inj h).symm⟩
theorem zPH {v:Ty.El z6} (hv:zCQ v) {dv:List (List (Ty.El zA))} {r:Int} {rt:Ty.El zG} (h: ∀t,t∈dv→t.length≤12) (hi:rt.2.2.1.length≤20):(zBO v dv r rt).length≤86400:=by
 have:=zAk (xs:=List.range rt.2.2.1.length) (f:=zIU v dv r rt) (k:=4320) (fun e _=>zPI hv h)
 rw [List.length_range] at this
 unfold zBO
 omega
end Go.Ve

namespace Go.Ve
open Go
set_option maxRecDepth 1000000
set_option maxHeartbeats 4000000
theorem zW8 {n:Ty.El zV} {d:List Int} {v:Ty.El z6} (hv:zHm n d v) {r i:Int} (h:upB v r i=true) {e:Ty.El zO} (he:e∈zA9 v r i):
  (0:Int)≤e.1∧(0:Int)≤e.2.1∧ ∃q y,v.1.1[Int.toNat e.1]? =some q∧q.2.2.1[Int.toNat e.2.1]? =some y∧y.2.2.1≠0:=by
 obtain ⟨dm,_,hall⟩:=zW7 hv h
 obtain ⟨b0,b1,q,y,b2,b3,b4,_⟩:=hall e he
 exact ⟨b0,b1,q,y,by rw [hv.net];exact b2,b3,b4⟩
end Go.Ve
