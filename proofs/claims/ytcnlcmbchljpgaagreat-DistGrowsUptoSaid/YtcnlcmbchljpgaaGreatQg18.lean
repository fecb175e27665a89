/-
  The bridge, part 2: from a contract over typed data to what a law's row asks of a call.
  DistGrows: the law answers true.
  DistFilters: the law answers true.
-/
import Derived.ChangeSame
import Derived.Below
import Derived.Carry
import Derived.Test.YtcnlcmbchljpgaaGreatQg15
import Derived.Test.YtcnlcmbchljpgaaGreatQg11
import Derived.Test.YtcnlcmbchljpgaaGreatQg13
import Derived.Test.YtcnlcmbchljpgaaGreatQg14
set_option linter.unusedVariables false
namespace Go.Ve
open Go Go.RowKit
def zSv (N : Nat) : (ts : List Ty) → ElS ts → Prop
 | [], _ => True
 | t :: ts, x => t.fits N x.1 ∧ zSv N ts x.2
section
variable {H : Type} {enc : TypeId × Value → H} {P : Program} {w : World} {sp : Nat → Bool} {held : Bool} {bk : DataW H → Nat}
theorem zO4 {n : Nat} {t : TypeId} {ty : Ty} {v : Value} {x : ty.El} {F : Blk → Prop} {base : Nat} (hc : zC7 P n t = true) (hty : zGw P n t = some ty) (hok : Value.okWide P w .any base t v)
  (h : CR w F v.cells.toList ty x) : Rd w F v (ty.enc x) := by
 cases n with
 | zero => simp [zC7] at hc
 | succ n =>
  simp only [zGw] at hty
  simp only [zC7] at hc
  unfold Value.okWide at hok
  have hone : ty.cells x = [ty.enc x] → (∀ cs, v ≠ .agg cs) → Rd w F v (ty.enc x) := by
   intro h1 h2
   have hvc : v.cells = #[v] := by cases v <;> first | rfl | exact absurd rfl (h2 _)
   have h3 := h.2
   rw [hvc] at h3
   exact h3 0 v (ty.enc x) rfl (by rw [h1]; rfl)
  cases hu : P.underlying t with
  | none => rw [hu] at hty; cases hty
  | some td =>
   rw [hu] at hty hc hok
   have hnoagg : ∀ (hs : ty.cells x = [ty.enc x]), ∀ cs, v = .agg cs → ∃ u, cs.toList = [u] := by
    intro hs cs hv
    subst hv
    have := h.1
    rw [← qP ty x, hs] at this
    simp only [Value.cells, List.length_singleton] at this
    match hcs : cs.toList, this with
    | [u], _ => exact ⟨u, rfl⟩
   cases td with
   | struct fs =>
    obtain ⟨cs, rfl, _, _⟩ := hok
    simp only [Value.cells] at h
    have hagg : ∀ (fs : List Field) (ty : Ty), fs.foldr (fun f acc => match zGw P n f.type, acc with
      | some a, some b => some (Ty.pair a b)
      | _, _ => none) (some .unit) = some ty → ∀ x : ty.El, ty.enc x = .agg (ty.cells x) := by
     intro fs ty hh x
     cases fs with
     | nil => simp only [List.foldr_nil, Option.some.injEq] at hh; subst hh; rfl
     | cons f fs =>
      simp only [List.foldr_cons] at hh
      split at hh
      ·simp only [Option.some.injEq] at hh; subst hh; rfl
      ·cases hh
    rw [hagg fs.toList ty hty x]
    refine .agg cs _ ?_ ?_
    ·have := h.1; rw [qP]; simpa using this
    ·intro i v d hv hd
     exact h.2 i v d (by simpa using hv) hd
   | bool =>
    simp only [Option.some.injEq] at hty; subst hty
    refine hone rfl ?_
    rintro cs rfl
    simp [Cell.okWide, Cell.ok, hu] at hok
   | int k =>
    simp only [Option.some.injEq] at hty; subst hty
    refine hone rfl ?_
    rintro cs rfl
    simp [Cell.okWide, Cell.ok, hu] at hok
   | string =>
    simp only [Option.some.injEq] at hty; subst hty
    refine hone rfl ?_
    rintro cs rfl
    simp [Cell.okWide, Cell.ok, hu] at hok
   | slice el =>
    simp only at hty
    split at hty
    ·simp only [Option.some.injEq] at hty; subst hty
     refine hone rfl ?_
     rintro cs rfl
     simp [Cell.okWide, Cell.ok, hu] at hok
    ·cases hty
   | array m el => cases hc
   | _ => cases hty
theorem zMw (hbk : zVr bk) {N base : Nat} : ∀ (pts : List TypeId) (tys : List Ty) (vs : List Value) (ds : List (DataW H)) (ps : List MemPlace), (∀ t ∈ pts, zC7 P 12 t = true) → pts.mapM (zGw P 12) = some tys →
  DataW.TrodAll enc P w 0 sp held pts vs ds ps → (∀ (j : Nat) t v, pts[j]? = some t → vs[j]? = some v → Value.okWide P w .any base t v) → (∀ d ∈ ds, bk d ≤ N) →
  ∃ x : ElS tys, vs.length = (vD tys x).length ∧ (∀ (i : Nat) (v : Value) (d : V), vs[i]? = some v → (vD tys x)[i]? = some d → Rd w (zUu w.heap.size) v d) ∧ zSv N tys x := by
 intro pts
 induction pts with
 | nil =>
  intro tys vs ds ps _ hty h _ _
  simp at hty
  subst hty
  match vs, ds, h with
  | [], [], _ => exact ⟨(), rfl, fun i v d h => by simp at h, trivial⟩
 | cons t pts ih =>
  intro tys vs ds ps hc hty h hok hN
  rw [List.mapM_cons] at hty
  simp only [Option.bind_eq_bind, Option.bind_eq_some_iff, Option.pure_def, Option.some.injEq] at hty
  obtain ⟨ty, h1, tys', h2, rfl⟩ := hty
  match vs, ds, h with
  | v :: vs, d :: ds, h =>
   obtain ⟨p, q, ⟨fuel, ht⟩, hr, rfl⟩ := h
   obtain ⟨x, hx, hf⟩ := zQQ hbk 12 t ty fuel _ d p (hc t (by simp)) h1 ht
   obtain ⟨xs, g1, g2, g3⟩ := ih tys' vs ds q (fun t ht => hc t (List.mem_cons_of_mem _ ht)) h2 hr (fun j t v ht hv => hok (j + 1) t v (by simpa using ht) (by simpa using hv)) (fun d hd => hN d (List.mem_cons_of_mem _ hd))
   refine ⟨(x, xs), by simp [vD, g1], ?_, zI8 (hN d (by simp)) _ _ hf, g3⟩
   intro i u dd hu hd
   cases i with
   | zero =>
    simp [vD] at hu hd
    subst hu hd
    exact zO4 (hc t (by simp)) h1 (hok 0 t v rfl rfl) hx
   | succ i => exact g2 i u dd (by simpa using hu) (by simpa [vD] using hd)
theorem zMx (hl : laidOutB P = true) {W W' : World} (hb : Below W.heap.size W W') {sp' : Nat → Bool} : ∀ (pts : List TypeId) (vs : List Value) (ds : List (DataW H)) (ps : List MemPlace),
  (∀ t ∈ pts, P.readableRec t = true ∧ t < P.types.size) → DataW.TrodAll enc P W 0 (fun _ => true) true pts vs ds ps → (∀ p ∈ ps, p.block < W.heap.size ∧ sp' p.block = true) →
  DataW.TrodAll enc P W' 0 sp' true pts vs ds ps := by
 intro pts
 induction pts with
 | nil => intro vs ds ps _ h _; match vs, ds, h with | [], [], h => exact h
 | cons t pts ih =>
  intro vs ds ps hr h hp
  match vs, ds, h with
  | v :: vs, d :: ds, h =>
   obtain ⟨p, q, ht, hq, rfl⟩ := h
   refine ⟨p, q, ?_, ih vs ds q (fun t ht => hr t (List.mem_cons_of_mem _ ht)) hq (fun x hx => hp x (by simp [hx])), rfl⟩
   exact WideElems.Trod_stays hl (hr t (by simp)).1 (hr t (by simp)).2 ht (fun x hx => hb.same (hp x (by simp [hx])).1) (fun x hx => (hp x (by simp [hx])).2)
theorem zOu {f : FuncId} {fn : Func} {s : ChangeSpec} {tys : List Ty} {g : ElS tys → Option (RTy.El (.p .bool))} (hl : laidOutB P = true) (hbk : zVr bk) {N : Nat}
  (hc : ∀ t ∈ fn.params.toList, zC7 P 12 t = true ∧ P.readableRec t = true ∧ t < P.types.size) (hty : fn.params.toList.mapM (zGw P 12) = some tys) (hvars : s.vars = [])
  (hspec : ∀ ds : List (DataW H), ds.length = fn.params.size → s.fn H ds = { results := [.lit (.bool true)], args := ds })
  {tb : TypeId} (hres : fn.resultTypes = #[tb]) (htb : P.underlying tb = some .bool)
  (hg : ∀ x : ElS tys, zSv N tys x → g x = some true)
  (hfn : j6 jB P (fun _ => none) f (qG (jM tys (.p .bool) g)))
  {W : World} {base : Nat} {args : Array Value} {ds gs : List (DataW H)} {before : List MemPlace}
  (hval : ∀ (j : Nat) t v, fn.params[j]? = some t → args[j]? = some v → Value.okWide P W .any base t v)
  (hW : DataW.Whole enc P fn.params.toList s.vars false W args.toList ds gs before) (hN : ∀ d ∈ ds, bk d ≤ N) :
  Calls P f args W fun e W' => ∃ v, e = .returned v ∧ s.post enc P fn false true false false W args v W' := by
 have hW0 := hW
 obtain ⟨p, q, hA, hV, rfl, hfz, hnd⟩ := hW
 have hVn : gs = [] ∧ q = [] := by
  rw [hvars] at hV
  match gs, hV with
  | [], hV => exact ⟨rfl, hV⟩
 obtain ⟨rfl, rfl⟩ := hVn
 simp only [List.append_nil] at hW0
 obtain ⟨x, hx1, hx2, hx3⟩ := zMw (w := W) hbk fn.params.toList tys args.toList ds p (fun t ht => (hc t ht).1) hty hA (fun j t v ht hv => hval j t v (by simpa using ht) (by simpa using hv)) hN
 have hds : ds.length = fn.params.size := by
  have hlen : ∀ (ts : List TypeId) (vs : List Value) (ds : List (DataW H)) (ps : List MemPlace), DataW.TrodAll enc P W 0 (fun _ => true) true ts vs ds ps → ds.length = ts.length := by
   intro ts
   induction ts with
   | nil => intro vs ds ps h; match vs, ds, h with | [], [], _ => rfl
   | cons t ts ih =>
    intro vs ds ps h
    match vs, ds, h with
    | v :: vs, d :: ds, h => obtain ⟨_, q, _, hq, _⟩ := h; simp [ih vs ds q hq]
  have := hlen _ _ _ _ hA
  simpa using this
 have hsp : qG (Γ := jB) (jM tys (.p .bool) g) () (vD tys x) = some ((), .p (.val (.bool true))) := by
  simp only [qG, jM, wH, zCi]
  rw [hg x hx3]
  rfl
 have hcall := hfn W (zUu W.heap.size) (fun _ => False) () args (vD tys x) () (.p (.val (.bool true))) (fun b hb => hb) (fun g cs hg => by cases hg) (fun b hb => ⟨hb, fun h => h⟩)
  (by have := hx1; simpa using this) (fun i v d hv hd => hx2 i v d (by simpa using hv) hd) hsp
 refine hcall.mono ?_
 rintro e W' ⟨v, F', O', rfl, _, hk, _, _, _, hret⟩
 have hv : v = .bool true := Rd.eq_val hret
 subst hv
 refine ⟨_, rfl, ?_⟩
 have hb : Below W.heap.size W W' := ⟨hk.os, hk.tape, hk.output, hk.size, fun b hb => hk.block b hb (fun h => h)⟩
 have hlt : ∀ x ∈ p, x.block < W.heap.size := fun x hx => by
  have := hW0.lt x hx; exact this
 have hargs : ∀ sp' : Nat → Bool, (∀ x ∈ p, sp' x.block = true) → DataW.TrodAll enc P W' 0 sp' true fn.params.toList args.toList ds p := fun sp' hs =>
  zMx hl hb fn.params.toList args.toList ds p (fun t ht => (hc t ht).2) hA (fun x hx => ⟨hlt x hx, hs x hx⟩)
 have hfnn := hspec (ds ++ []) (by simpa using hds)
 refine ⟨ds, [], p, [], p, [], hW0, ?_, ?_, ?_, World.keptBut_mono (fun x hx => ⟨hx, .inr (.inl hx)⟩) (hb.frame (· ∈ p)), fun h => by cases h⟩
 ·rw [hfnn, hres]
  refine ⟨[], [], ⟨1, ?_⟩, rfl, rfl⟩
  simp [DataW.trod, htb, Value.cells]
 ·rw [hfnn]
  simp only [List.append_nil]
  exact hargs _ (fun x hx => by simpa using hlt x hx)
 ·rw [hvars, hfnn]; rfl
end
end Go.Ve

namespace Go.Ve
open Go
set_option maxRecDepth 1000000
set_option maxHeartbeats 4000000
theorem zSV {y : Ty.El zA} (h : Ty.fits 1048576 zA y) : RtS y :=
 ⟨h.2.2.2.2.2.2.2.2.1.1, h.2.2.2.2.2.2.2.2.2.2.2.1.1⟩
theorem zNo {rt q : Ty.El zH} {y : Ty.El qB} {i : Int} {x0 x : Ty.El zA} (h : zMG rt q y i x0 = some x) :
  x0.2.2.2.2.1 < (15 : Int) ∧ zGl q q.2.2.2.2.2.2.2.2.2.1.2.2.2.1 x0.1 = true ∧ zGl rt rt.2.2.2.2.2.2.2.2.2.1.2.2.1 x0.1 = true ∧
   x = (x0.1, (4 : Int), (3 : Int), rt.2.2.2.2.2.2.2.2.2.1.2.1, IntKind.wrap IntKind.i64 (x0.2.2.2.2.1 + (1 : Int)), (0 : Int), x0.2.2.2.2.2.2.1, (0 : Int), [], (0 : Int), (0 : Int), [(i, y.2.1, ())], false, ()) := by
 unfold zMG at h
 cases hc : (decide (x0.2.2.2.2.1 < (15 : Int)) && (zGl q q.2.2.2.2.2.2.2.2.2.1.2.2.2.1 x0.1 && zGl rt rt.2.2.2.2.2.2.2.2.2.1.2.2.1 x0.1)) with
 | false => rw [hc] at h; cases h
 | true =>
  rw [hc] at h
  simp only [Bool.and_eq_true] at hc
  exact ⟨of_decide_eq_true hc.1, hc.2.1, hc.2.2, (Option.some.inj h).symm⟩
theorem zT4 {l : List (Ty.El zA)} (h : ∀ i x y, l[i]? = some x → l[i + 1]? = some y → rlt x y) : ∀ (k i : Nat) x y, l[i]? = some x → l[i + 1 + k]? = some y → rlt x y
 | 0, i, x, y, hx, hy => h i x y hx hy
 | k + 1, i, x, y, hx, hy => by
  have hl := (List.getElem?_eq_some_iff.1 hy).1
  have hz : l[i + 1]? = some (l[i + 1]'(by omega)) := by simp
  have h1 := h i x _ hx hz
  have h2 := zT4 h k (i + 1) _ y hz (by rw [show i + 1 + 1 + k = i + 1 + (k + 1) by omega]; exact hy)
  unfold rlt plt zCv at *
  omega
theorem zSN {l : List (Ty.El zA)} {proto : Int} (h : zIE l proto) {x y : Ty.El zA} (hx : x ∈ l) (hy : y ∈ l) (he : y.1 = x.1) : y = x := by
 have irr : ∀ z z' : Ty.El zA, z'.1 = z.1 → ¬ rlt z z' := by
  intro z z' h1 h2
  unfold rlt plt zCv at h2
  rw [h1] at h2
  omega
 obtain ⟨i, hi, hxi⟩ := List.getElem_of_mem hx
 obtain ⟨j, hj, hyj⟩ := List.getElem_of_mem hy
 have hx' : l[i]? = some x := by rw [List.getElem?_eq_getElem hi, hxi]
 have hy' : l[j]? = some y := by rw [List.getElem?_eq_getElem hj, hyj]
 rcases Nat.lt_trichotomy i j with hlt | heq | hgt
 ·exact absurd (zT4 h.so (j - (i + 1)) i x y hx' (by rw [show i + 1 + (j - (i + 1)) = j by omega]; exact hy')) (irr x y he)
 ·subst heq
  rw [hx'] at hy'
  exact (Option.some.inj hy').symm
 ·exact absurd (zT4 h.so (i - (j + 1)) j y x hy' (by rw [show j + 1 + (i - (j + 1)) = i by omega]; exact hx')) (irr y x he.symm)
theorem zUl {v : Ty.El zV} (hv : zAX v) {dv : List (List (Ty.El zA))} {r : Int} {rt : Ty.El zH} (h : ∀ t, t ∈ dv → t.length ≤ 12) (hi : rt.2.2.1.length ≤ 20) : (zDS v dv r rt).length ≤ 86400 := by
 have := zAi (xs := List.range rt.2.2.1.length) (f := zKa v dv r rt) (k := 4320) (fun e _ => zPB hv h)
 rw [List.length_range] at this
 unfold zDS
 omega
theorem zUk {n : Ty.El zS} {d : List Int} {v : Ty.El zV} (hv : zA7 n d v) {dv : List (List (Ty.El zA))} {r : Nat} {rt : Ty.El zH} {x : Ty.El zA} (h : x ∈ zDS v dv r rt) :
  ∃ (i : Nat) (e : Ty.El zJ) (q : Ty.El zH) (y : Ty.El qB) (t : List (Ty.El zA)) (x0 : Ty.El zA), e ∈ zDn v r i (fun e => e.1 != (r : Int)) ∧ (0 : Int) ≤ e.1 ∧ zOV v e = some y.2.1 ∧
   v.1.1[Int.toNat e.1]? = some q ∧ dv[Int.toNat e.1]? = some t ∧ x0 ∈ t ∧ zMG rt q y i x0 = some x := by
 obtain ⟨j, z, e, hz, hp, he, hxe⟩ := zPQ h
 obtain ⟨q, y, t, x0, hq, hy, ht, hpq, hx0, hf⟩ := zPR hxe
 have hup : upB v r j = true := by
  unfold yC at hp
  simp only [Bool.and_eq_true] at hp
  exact hp.2.2
 rw [zUB hv] at he
 have he' : e ∈ x9 v r j := by
  unfold zDn at he
  rw [hup] at he
  exact (List.mem_filter.1 he).1
 obtain ⟨dm, _, hall⟩ := zOF hv hup
 obtain ⟨b0, _⟩ := hall e he'
 refine ⟨j, e, q, y, t, x0, he, b0, ?_, hq, ht, hx0, hf⟩
 unfold zOV
 rw [hq]
 simp only [hy]
theorem zU7 {m : Int} (h1 : 1 ≤ m) (h2 : m < 15) : IntKind.wrap IntKind.i64 (m + (1 : Int)) = m + (1 : Int) ∧ ¬ (m + 1 < 2) ∧ ¬ (m + 1 > 15) := ⟨zD (by omega) (by omega), by omega, by omega⟩
theorem zMU (n : Ty.El zS) (d : List Int) (dv : List (List (Ty.El zA))) (hdv : ∀ t, t ∈ dv → ∀ y, y ∈ t → RtS y) : Wp (x4 (n, d, dv, ())) (fun b => b = true) := by
 unfold x4
 dsimp only
 refine zC ((zK0 n d).mono (fun y0 hy0 => ?_))
 refine zC ((show Wp _ (fun s : Bool => s = false → zA7 n d y0.1 ∧ zSH n.1.length dv) from ?_).mono (fun s hs => ?_))
 ·refine zF (fun h => zB (fun h => by cases h)) (fun h1 => ?_)
  have hv := hy0 (by simpa using h1)
  refine zC ((zTB y0.1 dv hdv hv.s.rs).mono (fun b hb => zB (fun h => ⟨hv, ?_⟩)))
  have := hb (by simpa using h)
  rwa [hv.net] at this
 refine zF (fun h => zB rfl) (fun h => ?_)
 obtain ⟨hv, hR⟩ := hs h
 have hlen := hR.len
 have hrs := hv.rs
 have h12 : ∀ t, t ∈ dv → t.length ≤ 12 := fun t ht => (hR.one t ht).1
 refine zDA (P := fun _ => True) (by omega) ?_ (fun _ => zC (qU rfl (zB rfl)))
 intro r t0 hr0
 have hrl := (List.getElem?_eq_some_iff.1 hr0).1
 have hr : y0.1.1.1[r]? = some (n.1[r]'(by omega)) := by rw [hv.net]; simp
 generalize (n.1[r]'(by omega)) = rt at hr
 have hsm := hv.s.sm rt (List.mem_of_getElem? hr)
 refine qD (zC ((zDf n d y0.1 hv dv hlen h12 r rt hr).mono (fun l hl => ?_)))
 have hll : l.length ≤ 86400 := by rw [hl]; exact zUl hv.s h12 hsm.i1
 refine zSc (P := fun _ => True) (by omega) ?_ (fun _ => e2l (zB (e2l ⟨rfl, trivial⟩)))
 intro k x hx
 have hxm := List.mem_of_getElem? hx
 rw [hl] at hxm
 obtain ⟨i, e, q, y, t, x0, he, he0, hadr, hq, ht, hx0, hf⟩ := zUk hv hxm
 obtain ⟨hlt, _, _, hxe⟩ := zNo hf
 have ht' := List.mem_of_getElem? ht
 have hdvr := (hR.one t ht').2.2 x0 hx0
 have hmet := hdvr.met
 obtain ⟨hw, hn2, hn15⟩ := zU7 (m := x0.2.2.2.2.1) hmet.1 hlt
 rw [hw] at hxe
 have htl := h12 t ht'
 simp only [zN hx, Option.bind_some]
 subst hxe
 dsimp only
 refine zC ((show Wp _ (fun s : Bool => s = false) from ?_).mono (fun s hs => ?_))
 ·refine zI (fun h => ?_) (fun _ => zI (fun h => ?_) (fun _ => zB rfl))
  ·exact absurd h hn2
  ·exact absurd h hn15
 subst hs
 refine ff rfl (zC (qU rfl (zC (qU rfl ?_))))
 refine zC ((zIP n d y0.1 hv r i y.2.1 e he hadr).mono (fun z hz => ?_))
 subst hz
 refine ff rfl ?_
 simp only [jG ht he0, Option.bind_some]
 refine zC ((zJ7 t x0.1 (by omega)).mono (fun f hf => ?_))
 obtain ⟨f0, f1⟩ := zV4 hx0 (fun y hy he => zSN (hR.one t ht').2.1 hx0 hy he)
 rw [← hf] at f0 f1
 refine zC ((show Wp _ (fun s : Bool => s = false) from ?_).mono (fun s hs => ?_))
 ·refine zI (fun h => absurd f0 (by have h : f < 0 := h; omega)) (fun _ => ?_)
  simp only [jG f1 f0, Option.bind_some]
  refine zF (fun h => ?_) (fun _ => zB ?_)
  ·rw [hw] at h
   simp at h
  ·simp
 subst hs
 exact zB (e2l ⟨rfl, trivial⟩)
theorem zGd : ∀ x : ElS [zS, .sl tI, .sl (.sl zA)], zSv 1048576 [zS, .sl tI, .sl (.sl zA)] x → x4 x = some true := by
 rintro ⟨n, d, dv, ⟨⟩⟩ ⟨_, _, ⟨h1, h2⟩, _⟩
 exact vE (zMU n d dv (fun t ht y hy => zSV ((h2 t ht).2 y hy)))
end Go.Ve


