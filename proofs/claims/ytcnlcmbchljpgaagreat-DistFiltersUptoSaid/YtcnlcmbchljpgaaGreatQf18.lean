/-
  The bridge, part 2: from a contract over typed data to what a law's row asks of a call.
  DistGrows: the law answers true.
  DistFilters: the law answers true.
-/
import Derived.ChangeSame
import Derived.Below
import Derived.Carry
import Derived.Test.YtcnlcmbchljpgaaGreatQf15
import Derived.Test.YtcnlcmbchljpgaaGreatQf11
import Derived.Test.YtcnlcmbchljpgaaGreatQf13
set_option linter.unusedVariables false
namespace Go.Ve
open Go Go.RowKit
def zSO (N : Nat) : (ts : List Ty) → ElS ts → Prop
 | [], _ => True
 | t :: ts, x => t.fits N x.1 ∧ zSO N ts x.2
section
variable {H : Type} {enc : TypeId × Value → H} {P : Program} {w : World} {sp : Nat → Bool} {held : Bool} {bk : DataW H → Nat}
theorem zPm {n : Nat} {t : TypeId} {ty : Ty} {v : Value} {x : ty.El} {F : Blk → Prop} {base : Nat} (hc : zDi P n t = true) (hty : zGN P n t = some ty) (hok : Value.okWide P w .any base t v)
  (h : CR w F v.cells.toList ty x) : Rd w F v (ty.enc x) := by
 cases n with
 | zero => simp [zDi] at hc
 | succ n =>
  simp only [zGN] at hty
  simp only [zDi] at hc
  unfold Value.okWide at hok
  have hone : ty.cells x = [ty.enc x] → (∀ cs, v ≠ .agg cs) → Rd w F v (ty.enc x) := by
   intro h1 h2
   have hvc : v.cells = #[v] := by cases v <;> first | rfl | exact absurd rfl (h2 _)
   have h3 := h.2
   rw [hvc] at h3
   exact h3 0 v (ty.enc x) rfl (by rw [h1]; rfl)
  cases hu : P.underlying t with
  | none => rw [hu] at hty; cases hty
  | some td =>
   rw [hu] at hty hc hok
   have hnoagg : ∀ (hs : ty.cells x = [ty.enc x]), ∀ cs, v = .agg cs → ∃ u, cs.toList = [u] := by
    intro hs cs hv
    subst hv
    have := h.1
    rw [← qO ty x, hs] at this
    simp only [Value.cells, List.length_singleton] at this
    match hcs : cs.toList, this with
    | [u], _ => exact ⟨u, rfl⟩
   cases td with
   | struct fs =>
    obtain ⟨cs, rfl, _, _⟩ := hok
    simp only [Value.cells] at h
    have hagg : ∀ (fs : List Field) (ty : Ty), fs.foldr (fun f acc => match zGN P n f.type, acc with
      | some a, some b => some (Ty.pair a b)
      | _, _ => none) (some .unit) = some ty → ∀ x : ty.El, ty.enc x = .agg (ty.cells x) := by
     intro fs ty hh x
     cases fs with
     | nil => simp only [List.foldr_nil, Option.some.injEq] at hh; subst hh; rfl
     | cons f fs =>
      simp only [List.foldr_cons] at hh
      split at hh
      ·simp only [Option.some.injEq] at hh; subst hh; rfl
      ·cases hh
    rw [hagg fs.toList ty hty x]
    refine .agg cs _ ?_ ?_
    ·have := h.1; rw [qO]; simpa using this
    ·intro i v d hv hd
     exact h.2 i v d (by simpa using hv) hd
   | bool =>
    simp only [Option.some.injEq] at hty; subst hty
    refine hone rfl ?_
    rintro cs rfl
    simp [Cell.okWide, Cell.ok, hu] at hok
   | int k =>
    simp only [Option.some.injEq] at hty; subst hty
    refine hone rfl ?_
    rintro cs rfl
    simp [Cell.okWide, Cell.ok, hu] at hok
   | string =>
    simp only [Option.some.injEq] at hty; subst hty
    refine hone rfl ?_
    rintro cs rfl
    simp [Cell.okWide, Cell.ok, hu] at hok
   | slice el =>
    simp only at hty
    split at hty
    ·simp only [Option.some.injEq] at hty; subst hty
     refine hone rfl ?_
     rintro cs rfl
     simp [Cell.okWide, Cell.ok, hu] at hok
    ·cases hty
   | array m el => cases hc
   | _ => cases hty
theorem zMV (hbk : zVN bk) {N base : Nat} : ∀ (pts : List TypeId) (tys : List Ty) (vs : List Value) (ds : List (DataW H)) (ps : List MemPlace), (∀ t ∈ pts, zDi P 12 t = true) → pts.mapM (zGN P 12) = some tys →
  DataW.TrodAll enc P w 0 sp held pts vs ds ps → (∀ (j : Nat) t v, pts[j]? = some t → vs[j]? = some v → Value.okWide P w .any base t v) → (∀ d ∈ ds, bk d ≤ N) →
  ∃ x : ElS tys, vs.length = (vG tys x).length ∧ (∀ (i : Nat) (v : Value) (d : V), vs[i]? = some v → (vG tys x)[i]? = some d → Rd w (zUQ w.heap.size) v d) ∧ zSO N tys x := by
 intro pts
 induction pts with
 | nil =>
  intro tys vs ds ps _ hty h _ _
  simp at hty
  subst hty
  match vs, ds, h with
  | [], [], _ => exact ⟨(), rfl, fun i v d h => by simp at h, trivial⟩
 | cons t pts ih =>
  intro tys vs ds ps hc hty h hok hN
  rw [List.mapM_cons] at hty
  simp only [Option.bind_eq_bind, Option.bind_eq_some_iff, Option.pure_def, Option.some.injEq] at hty
  obtain ⟨ty, h1, tys', h2, rfl⟩ := hty
  match vs, ds, h with
  | v :: vs, d :: ds, h =>
   obtain ⟨p, q, ⟨fuel, ht⟩, hr, rfl⟩ := h
   obtain ⟨x, hx, hf⟩ := zQ9 hbk 12 t ty fuel _ d p (hc t (by simp)) h1 ht
   obtain ⟨xs, g1, g2, g3⟩ := ih tys' vs ds q (fun t ht => hc t (List.mem_cons_of_mem _ ht)) h2 hr (fun j t v ht hv => hok (j + 1) t v (by simpa using ht) (by simpa using hv)) (fun d hd => hN d (List.mem_cons_of_mem _ hd))
   refine ⟨(x, xs), by simp [vG, g1], ?_, zJz (hN d (by simp)) _ _ hf, g3⟩
   intro i u dd hu hd
   cases i with
   | zero =>
    simp [vG] at hu hd
    subst hu hd
    exact zPm (hc t (by simp)) h1 (hok 0 t v rfl rfl) hx
   | succ i => exact g2 i u dd (by simpa using hu) (by simpa [vG] using hd)
theorem zMW (hl : laidOutB P = true) {W W' : World} (hb : Below W.heap.size W W') {sp' : Nat → Bool} : ∀ (pts : List TypeId) (vs : List Value) (ds : List (DataW H)) (ps : List MemPlace),
  (∀ t ∈ pts, P.readableRec t = true ∧ t < P.types.size) → DataW.TrodAll enc P W 0 (fun _ => true) true pts vs ds ps → (∀ p ∈ ps, p.block < W.heap.size ∧ sp' p.block = true) →
  DataW.TrodAll enc P W' 0 sp' true pts vs ds ps := by
 intro pts
 induction pts with
 | nil => intro vs ds ps _ h _; match vs, ds, h with | [], [], h => exact h
 | cons t pts ih =>
  intro vs ds ps hr h hp
  match vs, ds, h with
  | v :: vs, d :: ds, h =>
   obtain ⟨p, q, ht, hq, rfl⟩ := h
   refine ⟨p, q, ?_, ih vs ds q (fun t ht => hr t (List.mem_cons_of_mem _ ht)) hq (fun x hx => hp x (by simp [hx])), rfl⟩
   exact WideElems.Trod_stays hl (hr t (by simp)).1 (hr t (by simp)).2 ht (fun x hx => hb.same (hp x (by simp [hx])).1) (fun x hx => (hp x (by simp [hx])).2)
theorem zOP {f : FuncId} {fn : Func} {s : ChangeSpec} {tys : List Ty} {g : ElS tys → Option (RTy.El (.p .bool))} (hl : laidOutB P = true) (hbk : zVN bk) {N : Nat}
  (hc : ∀ t ∈ fn.params.toList, zDi P 12 t = true ∧ P.readableRec t = true ∧ t < P.types.size) (hty : fn.params.toList.mapM (zGN P 12) = some tys) (hvars : s.vars = [])
  (hspec : ∀ ds : List (DataW H), ds.length = fn.params.size → s.fn H ds = { results := [.lit (.bool true)], args := ds })
  {tb : TypeId} (hres : fn.resultTypes = #[tb]) (htb : P.underlying tb = some .bool)
  (hg : ∀ x : ElS tys, zSO N tys x → g x = some true)
  (hfn : j8 jB P (fun _ => none) f (qH (jP tys (.p .bool) g)))
  {W : World} {base : Nat} {args : Array Value} {ds gs : List (DataW H)} {before : List MemPlace}
  (hval : ∀ (j : Nat) t v, fn.params[j]? = some t → args[j]? = some v → Value.okWide P W .any base t v)
  (hW : DataW.Whole enc P fn.params.toList s.vars false W args.toList ds gs before) (hN : ∀ d ∈ ds, bk d ≤ N) :
  Calls P f args W fun e W' => ∃ v, e = .returned v ∧ s.post enc P fn false true false false W args v W' := by
 have hW0 := hW
 obtain ⟨p, q, hA, hV, rfl, hfz, hnd⟩ := hW
 have hVn : gs = [] ∧ q = [] := by
  rw [hvars] at hV
  match gs, hV with
  | [], hV => exact ⟨rfl, hV⟩
 obtain ⟨rfl, rfl⟩ := hVn
 simp only [List.append_nil] at hW0
 obtain ⟨x, hx1, hx2, hx3⟩ := zMV (w := W) hbk fn.params.toList tys args.toList ds p (fun t ht => (hc t ht).1) hty hA (fun j t v ht hv => hval j t v (by simpa using ht) (by simpa using hv)) hN
 have hds : ds.length = fn.params.size := by
  have hlen : ∀ (ts : List TypeId) (vs : List Value) (ds : List (DataW H)) (ps : List MemPlace), DataW.TrodAll enc P W 0 (fun _ => true) true ts vs ds ps → ds.length = ts.length := by
   intro ts
   induction ts with
   | nil => intro vs ds ps h; match vs, ds, h with | [], [], _ => rfl
   | cons t ts ih =>
    intro vs ds ps h
    match vs, ds, h with
    | v :: vs, d :: ds, h => obtain ⟨_, q, _, hq, _⟩ := h; simp [ih vs ds q hq]
  have := hlen _ _ _ _ hA
  simpa using this
 have hsp : qH (Γ := jB) (jP tys (.p .bool) g) () (vG tys x) = some ((), .p (.val (.bool true))) := by
  simp only [qH, jP, wI, zCx]
  rw [hg x hx3]
  rfl
 have hcall := hfn W (zUQ W.heap.size) (fun _ => False) () args (vG tys x) () (.p (.val (.bool true))) (fun b hb => hb) (fun g cs hg => by cases hg) (fun b hb => ⟨hb, fun h => h⟩)
  (by have := hx1; simpa using this) (fun i v d hv hd => hx2 i v d (by simpa using hv) hd) hsp
 refine hcall.mono ?_
 rintro e W' ⟨v, F', O', rfl, _, hk, _, _, _, hret⟩
 have hv : v = .bool true := Rd.eq_val hret
 subst hv
 refine ⟨_, rfl, ?_⟩
 have hb : Below W.heap.size W W' := ⟨hk.os, hk.tape, hk.output, hk.size, fun b hb => hk.block b hb (fun h => h)⟩
 have hlt : ∀ x ∈ p, x.block < W.heap.size := fun x hx => by
  have := hW0.lt x hx; exact this
 have hargs : ∀ sp' : Nat → Bool, (∀ x ∈ p, sp' x.block = true) → DataW.TrodAll enc P W' 0 sp' true fn.params.toList args.toList ds p := fun sp' hs =>
  zMW hl hb fn.params.toList args.toList ds p (fun t ht => (hc t ht).2) hA (fun x hx => ⟨hlt x hx, hs x hx⟩)
 have hfnn := hspec (ds ++ []) (by simpa using hds)
 refine ⟨ds, [], p, [], p, [], hW0, ?_, ?_, ?_, World.keptBut_mono (fun x hx => ⟨hx, .inr (.inl hx)⟩) (hb.frame (· ∈ p)), fun h => by cases h⟩
 ·rw [hfnn, hres]
  refine ⟨[], [], ⟨1, ?_⟩, rfl, rfl⟩
  simp [DataW.trod, htb, Value.cells]
 ·rw [hfnn]
  simp only [List.append_nil]
  exact hargs _ (fun x hx => by simpa using hlt x hx)
 ·rw [hvars, hfnn]; rfl
end
end Go.Ve

namespace Go.Ve
open Go
set_option maxRecDepth 1000000
set_option maxHeartbeats 4000000
theorem zTe {y : Ty.El zA} (h : Ty.fits 1048576 zA y) : RtS y :=
 ⟨h.2.2.2.2.2.2.2.2.1.1, h.2.2.2.2.2.2.2.2.2.2.2.1.1⟩
theorem zNI {rt q : Ty.El zH} {y : Ty.El qA} {i : Int} {x0 x : Ty.El zA} (h : zKB rt q y i x0 = some x) :
  x0.2.2.2.2.1 < (15 : Int) ∧ zCo q q.2.2.2.2.2.2.2.2.2.1.2.2.2.1 x0.1 = true ∧ zCo rt rt.2.2.2.2.2.2.2.2.2.1.2.2.1 x0.1 = true ∧
   x = (x0.1, (4 : Int), (3 : Int), rt.2.2.2.2.2.2.2.2.2.1.2.1, IntKind.wrap IntKind.i64 (x0.2.2.2.2.1 + (1 : Int)), (0 : Int), x0.2.2.2.2.2.2.1, (0 : Int), [], (0 : Int), (0 : Int), [(i, y.2.1, ())], false, ()) := by
 unfold zKB at h
 cases hc : (decide (x0.2.2.2.2.1 < (15 : Int)) && (zCo q q.2.2.2.2.2.2.2.2.2.1.2.2.2.1 x0.1 && zCo rt rt.2.2.2.2.2.2.2.2.2.1.2.2.1 x0.1)) with
 | false => rw [hc] at h; cases h
 | true =>
  rw [hc] at h
  simp only [Bool.and_eq_true] at hc
  exact ⟨of_decide_eq_true hc.1, hc.2.1, hc.2.2, (Option.some.inj h).symm⟩
theorem zUp {l : List (Ty.El zA)} (h : ∀ i x y, l[i]? = some x → l[i + 1]? = some y → rlt x y) : ∀ (k i : Nat) x y, l[i]? = some x → l[i + 1 + k]? = some y → rlt x y
 | 0, i, x, y, hx, hy => h i x y hx hy
 | k + 1, i, x, y, hx, hy => by
  have hl := (List.getElem?_eq_some_iff.1 hy).1
  have hz : l[i + 1]? = some (l[i + 1]'(by omega)) := by simp
  have h1 := h i x _ hx hz
  have h2 := zUp h k (i + 1) _ y hz (by rw [show i + 1 + 1 + k = i + 1 + (k + 1) by omega]; exact hy)
  unfold rlt plt zCn at *
  omega
theorem zS6 {l : List (Ty.El zA)} {proto : Int} (h : zI4 l proto) {x y : Ty.El zA} (hx : x ∈ l) (hy : y ∈ l) (he : y.1 = x.1) : y = x := by
 have irr : ∀ z z' : Ty.El zA, z'.1 = z.1 → ¬ rlt z z' := by
  intro z z' h1 h2
  unfold rlt plt zCn at h2
  rw [h1] at h2
  omega
 obtain ⟨i, hi, hxi⟩ := List.getElem_of_mem hx
 obtain ⟨j, hj, hyj⟩ := List.getElem_of_mem hy
 have hx' : l[i]? = some x := by rw [List.getElem?_eq_getElem hi, hxi]
 have hy' : l[j]? = some y := by rw [List.getElem?_eq_getElem hj, hyj]
 rcases Nat.lt_trichotomy i j with hlt | heq | hgt
 ·exact absurd (zUp h.so (j - (i + 1)) i x y hx' (by rw [show i + 1 + (j - (i + 1)) = j by omega]; exact hy')) (irr x y he)
 ·subst heq
  rw [hx'] at hy'
  exact (Option.some.inj hy').symm
 ·exact absurd (zUp h.so (i - (j + 1)) j y x hy' (by rw [show j + 1 + (i - (j + 1)) = i by omega]; exact hx')) (irr y x he.symm)
theorem zUG {v : Ty.El zW} (hv : zA4 v) {dv : List (List (Ty.El zA))} {r : Int} {rt : Ty.El zH} (h : ∀ t, t ∈ dv → t.length ≤ 12) (hi : rt.2.2.1.length ≤ 20) : (zCI v dv r rt).length ≤ 86400 := by
 have := zAr (xs := List.range rt.2.2.1.length) (f := zJi v dv r rt) (k := 4320) (fun e _ => zPU hv h)
 rw [List.length_range] at this
 unfold zCI
 omega
theorem zUF {n : Ty.El zQ} {d : List Int} {v : Ty.El zW} (hv : uY n d v) {dv : List (List (Ty.El zA))} {r : Nat} {rt : Ty.El zH} {x : Ty.El zA} (h : x ∈ zCI v dv r rt) :
  ∃ (i : Nat) (e : Ty.El zJ) (q : Ty.El zH) (y : Ty.El qA) (t : List (Ty.El zA)) (x0 : Ty.El zA), e ∈ zCK v r i (fun e => e.1 != (r : Int)) ∧ (0 : Int) ≤ e.1 ∧ zNr v e = some y.2.1 ∧
   v.1.1[Int.toNat e.1]? = some q ∧ dv[Int.toNat e.1]? = some t ∧ x0 ∈ t ∧ zKB rt q y i x0 = some x := by
 obtain ⟨j, z, e, hz, hp, he, hxe⟩ := zP9 h
 obtain ⟨q, y, t, x0, hq, hy, ht, hpq, hx0, hf⟩ := zQa hxe
 have hup : upB v r j = true := by
  unfold kZ at hp
  simp only [Bool.and_eq_true] at hp
  exact hp.2.2
 rw [zP6 hv] at he
 have he' : e ∈ uM v r j := by
  unfold zCK at he
  rw [hup] at he
  exact (List.mem_filter.1 he).1
 obtain ⟨dm, _, hall⟩ := zMu hv hup
 obtain ⟨b0, _⟩ := hall e he'
 refine ⟨j, e, q, y, t, x0, he, b0, ?_, hq, ht, hx0, hf⟩
 unfold zNr
 rw [hq]
 simp only [hy]
end Go.Ve

namespace Go.Ve
open Go
set_option maxRecDepth 1000000
set_option maxHeartbeats 4000000
theorem zTO {n : Ty.El zQ} {p q : Ty.El zG} {u w : Int} {e : Ty.El zJ} (h : zDL n p u e) (h' : zDL n q w e) : p = q ∧ u = w := by
 obtain ⟨_, _, r, x, a2, a3, _, _, a5, a6⟩ := h
 obtain ⟨_, _, r', x', b2, b3, _, _, b5, b6⟩ := h'
 rw [a2] at b2
 cases b2
 rw [a3] at b3
 cases b3
 rw [a5] at b5
 exact ⟨Option.some.inj b5, a6.symm.trans b6⟩
theorem zTP (e : Ty.El zJ) : zDG (e.1, e.2.1, ()) e = true := zMv.2 rfl
theorem zVs {n : Ty.El zQ} {d : List Int} {v : Ty.El zW} (hv : uY n d v) {r i : Int} (h : upB v r i = true) {e : Ty.El zJ} (he : e ∈ uM v r i) : wK v e.1 e.2.1 = wK v r i := by
 obtain ⟨dm, hd, h0, hee⟩ := zIT h
 rw [hee] at he
 have hp : List.any dm.2.2.1 (zDG (e.1, e.2.1, ())) = true := List.any_eq_true.2 ⟨e, he, zTP e⟩
 have hso := List.pairwise_iff_getElem.1 hv.topo.so
 obtain ⟨hkl, hke⟩ := List.getElem?_eq_some_iff.1 hd
 rcases zHk (fun d : Ty.El kC => d.2.2.1.any (zDG (e.1, e.2.1, ()))) v.2.1.1 with ⟨_, h2⟩ | ⟨j, x, hj, hx, hpx, hmin⟩
 ·have := h2 dm (List.mem_of_getElem? hd)
  rw [hp] at this
  cases this
 ·have hdj : wK v e.1 e.2.1 = (j : Int) := hj
  rw [hdj]
  have hle : j ≤ (wK v r i).toNat := by
   rcases Nat.lt_or_ge (wK v r i).toNat j with hlt | hge
   ·have := hmin _ dm hlt hd
    rw [hp] at this
    cases this
   ·exact hge
  rcases Nat.lt_or_ge j (wK v r i).toNat with hlt | hge
  ·exfalso
   obtain ⟨hjl, hje⟩ := List.getElem?_eq_some_iff.1 hx
   obtain ⟨e', he', hb⟩ := List.any_eq_true.1 hpx
   have hee' : e' = e := zMv.1 hb
   subst hee'
   have k1 := (hv.topo.ends x (List.mem_of_getElem? hx)).2 e' he'
   have k2 := (hv.topo.ends dm (List.mem_of_getElem? hd)).2 e' he
   obtain ⟨k3, k4⟩ := zTO k1 k2
   have := hso j _ hjl hkl hlt
   rw [hje, hke, k3, k4] at this
   exact zTv this
  ·omega
theorem zVV {n : Ty.El zQ} {d : List Int} {v : Ty.El zW} (hv : uY n d v) {r i : Int} (h : upB v r i = true) {e : Ty.El zJ} (he : e ∈ uM v r i) : upB v e.1 e.2.1 = true := by
 have h0 := zVs hv h he
 have h1 : zBV v e.1 e.2.1 = zBV v r i := by unfold zBV; rw [h0]
 unfold upB
 rw [h0, h1]
 exact h
theorem zLb {v : Ty.El zW} {r i : Int} {p : Ty.El zJ → Bool} {e : Ty.El zJ} (h : e ∈ zCK v r i p) : upB v r i = true ∧ e ∈ uM v r i ∧ p e = true := by
 unfold zCK at h
 cases hu : upB v r i with
 | false => rw [hu] at h; cases h
 | true =>
  rw [hu] at h
  obtain ⟨h1, h2⟩ := List.mem_filter.1 h
  exact ⟨rfl, h1, h2⟩
theorem zXw {n : Ty.El zQ} {d : List Int} {v : Ty.El zW} (hv : uY n d v) {r i : Int} (h : upB v r i = true) {e : Ty.El zJ} (he : e ∈ uM v r i) :
  (0 : Int) ≤ e.1 ∧ (0 : Int) ≤ e.2.1 ∧ ∃ q y, v.1.1[Int.toNat e.1]? = some q ∧ q.2.2.1[Int.toNat e.2.1]? = some y ∧ y.2.2.1 ≠ 0 := by
 obtain ⟨dm, _, hall⟩ := zMu hv h
 obtain ⟨b0, b1, q, y, b2, b3, b4, _⟩ := hall e he
 exact ⟨b0, b1, q, y, by rw [hv.net]; exact b2, b3, b4⟩
theorem zXF {v : Ty.El zW} {e : Ty.El zJ} {q : Ty.El zH} {y : Ty.El qA} (hq : v.1.1[Int.toNat e.1]? = some q) (hy : q.2.2.1[Int.toNat e.2.1]? = some y) : zNr v e = some y.2.1 := by
 unfold zNr
 rw [hq]
 simp only [hy]
theorem zWg {n : Ty.El zQ} {d : List Int} {v : Ty.El zW} (hv : uY n d v) {r i : Int} {e e' : Ty.El zJ} {p : Ty.El zJ → Bool} (h : e ∈ zCK v r i p) (h' : e' ∈ zCK v r i p) {a : Int} (ha : zNr v e = some a) (ha' : zNr v e' = some a) : e' = e := by
 obtain ⟨h1, h2, _⟩ := zLb h
 obtain ⟨_, h4, _⟩ := zLb h'
 obtain ⟨dm, _, hall⟩ := zMu hv h1
 exact zVq hv (hall e h2) (hall e' h4) ha ha'
theorem zVS {α ρ : Type} {xs : List α} {b : Bool} {cond : Int → Option Bool} {body : Int → Option (Int ⊕ (Unit ⊕ ρ))} {Q : Unit ⊕ ρ → Prop} (hl : xs.length < 4611686018427387904)
  (hc : ∀ k : Nat, cond (k : Int) = some (b && decide ((k : Int) < (xs.length : Int))))
  (step : ∀ (i : Nat) x, b = true → xs[i]? = some x → Wp (body (i : Int)) (wU (fun s' => s' = IntKind.wrap IntKind.i64 ((i : Int) + 1)) (fun o => (∀ u, o ≠ Sum.inl u) ∧ Q o))) (fin : Q (Sum.inl ())) :
  Wp (zO (fun s : Int => Option.bind (cond s) fun c => bif c then body s else some (Sum.inr (Sum.inl ()))) (0 : Int)) Q := by
 refine wF (fun (s : Int) => ∃ i : Nat, s = (i : Int) ∧ i ≤ xs.length) (fun (s : Int) => ((xs.length : Int) - s).toNat) ⟨(0 : Nat), rfl, Nat.zero_le _⟩ ?_
 rintro s ⟨i, hi, hle⟩
 subst hi
 rw [hc i]
 simp only [Option.bind_some]
 refine zF (fun h => ?_) (fun h => zB (e2r fin))
 simp only [Bool.and_eq_true, decide_eq_true_eq] at h
 have hlt : i < xs.length := by omega
 refine (step i xs[i] h.1 (by simp [hlt])).mono ?_
 intro o ho
 cases o with
 | inl s' =>
  have ho : s' = _ := ho
  subst ho
  rw [zD (by omega) (by omega)]
  exact ⟨⟨i + 1, by omega, hlt⟩, by omega⟩
 | inr o => exact ho.2
theorem zNK {r : Ty.El zH} {nm : Ty.El .str} {p : Ty.El zG} (h : (nm == ({ data := #[] } : ByteArray)) = true) : zCo r nm p = true := by
 unfold zCo
 rw [h]; rfl
theorem zOD {n : Ty.El zQ} {d : List Int} {v : Ty.El zW} (hv : uY n d v) {dv : List (List (Ty.El zA))} {r : Nat} {rt : Ty.El zH} {x : Ty.El zA} (h : x ∈ zCI v dv r rt) :
  ∃ (i : Nat) (e : Ty.El zJ) (a : Int) (t : List (Ty.El zA)) (x0 : Ty.El zA), e ∈ zCK v r i (fun e => e.1 != (r : Int)) ∧ zNr v e = some a ∧ dv[Int.toNat e.1]? = some t ∧ x0 ∈ t ∧
   x0.2.2.2.2.1 < (15 : Int) ∧ x0.1 = x.1 ∧ x.2.2.2.2.2.2.2.2.2.2.2.1 = [((i : Int), a, ())] ∧ zCo rt rt.2.2.2.2.2.2.2.2.2.1.2.2.1 x.1 = true := by
 obtain ⟨i, e, q, y, t, x0, he, _, hadr, hq, ht, hx0, hf⟩ := zUF hv h
 obtain ⟨hlt, _, hp, hxe⟩ := zNI hf
 refine ⟨i, e, y.2.1, t, x0, he, hadr, ht, hx0, hlt, ?_, ?_, ?_⟩
 ·rw [hxe]
 ·rw [hxe]
 ·rw [hxe]; exact hp
theorem zWa {n : Ty.El zQ} {d : List Int} {v : Ty.El zW} (hv : uY n d v) {dv : List (List (Ty.El zA))} {r i : Nat} {rt q : Ty.El zH} {z y : Ty.El qA} {e : Ty.El zJ} {t : List (Ty.El zA)} {x : Ty.El zA}
  (hz : rt.2.2.1[i]? = some z) (he : e ∈ zCK v r i (fun e => e.1 != (r : Int))) (hq : v.1.1[Int.toNat e.1]? = some q) (hy : q.2.2.1[Int.toNat e.2.1]? = some y) (ht : dv[Int.toNat e.1]? = some t) (hx : x ∈ t)
  (h1 : rt.2.2.2.2.2.2.2.2.2.1.1 = true) (h2 : (rt.2.2.2.2.2.2.2.2.2.1.2.2.1 == ({ data := #[] } : ByteArray)) = true) (h3 : z.2.2.2.2.2.2.2.2.1 = true) (h4 : q.2.2.2.2.2.2.2.2.2.1.1 = true) (h5 : y.2.2.2.2.2.2.2.2.1 = true)
  (h6 : (q.2.2.2.2.2.2.2.2.2.1.2.2.2.1 == ({ data := #[] } : ByteArray)) = true) (hm : x.2.2.2.2.1 < (15 : Int)) :
  ∃ w, w ∈ zCI v dv r rt ∧ w.1 = x.1 ∧ w.2.2.2.2.2.2.2.2.2.2.2.1 = [((i : Int), y.2.1, ())] := by
 obtain ⟨u1, u2, u3⟩ := zLb he
 have u4 := zVV hv u1 u2
 have hf : ∃ w, zKB rt q y i x = some w ∧ w.1 = x.1 ∧ w.2.2.2.2.2.2.2.2.2.2.2.1 = [((i : Int), y.2.1, ())] := by
  unfold zKB
  rw [decide_eq_true hm, zNK h6, zNK h2]
  exact ⟨_, rfl, rfl, rfl⟩
 obtain ⟨w, hw, k1, k2⟩ := hf
 refine ⟨w, ?_, k1, k2⟩
 unfold zCI
 refine List.mem_flatMap.2 ⟨i, List.mem_range.2 (List.getElem?_eq_some_iff.1 hz).1, ?_⟩
 unfold zJi
 rw [hz]
 have hp1 : kZ v rt z r i = true := by unfold kZ; rw [h1, h3, u1]; rfl
 have hp2 : kZ v q y e.1 e.2.1 = true := by unfold kZ; rw [h4, h5, u4]; rfl
 simp only [hp1, cond_true]
 refine List.mem_flatMap.2 ⟨e, by rw [zP6 hv]; exact he, ?_⟩
 unfold zJj
 rw [hq]
 simp only [hy, ht, hp2, cond_true]
 exact List.mem_filterMap.2 ⟨x, hx, hw⟩
theorem zKO (n : Ty.El zQ) (d : List Int) (dv : List (List (Ty.El zA))) (hdv : ∀ t, t ∈ dv → ∀ y, y ∈ t → RtS y) : Wp (yB (n, d, dv, ())) (fun b => b = true) := by
 unfold yB
 dsimp only
 refine zC ((zLr n d).mono (fun y0 hy0 => ?_))
 refine zC ((show Wp _ (fun s : Bool => s = false → uY n d y0.1 ∧ zS0 n.1.length dv) from ?_).mono (fun s hs => ?_))
 ·refine zF (fun h => zB (fun h => by cases h)) (fun h1 => ?_)
  have hv := hy0 (by simpa using h1)
  refine zC ((zTX y0.1 dv hdv hv.s.rs).mono (fun b hb => zB (fun h => ⟨hv, ?_⟩)))
  have := hb (by simpa using h)
  rwa [hv.net] at this
 refine zF (fun h => zB rfl) (fun h => ?_)
 obtain ⟨hv, hR⟩ := hs h
 have hlen := hR.len
 have hrs := hv.rs
 have h12 : ∀ t, t ∈ dv → t.length ≤ 12 := fun t ht => (hR.one t ht).1
 refine zDN (P := fun _ => True) (by omega) ?_ (fun _ => zC (qV rfl (zB rfl)))
 intro r t0 hr0
 have hrl := (List.getElem?_eq_some_iff.1 hr0).1
 have hr : n.1[r]? = some (n.1[r]'(by omega)) := by simp
 generalize (n.1[r]'(by omega)) = rt at hr
 have hr' : y0.1.1.1[r]? = some rt := by rw [hv.net]; exact hr
 have hsm := hv.s.sm rt (List.mem_of_getElem? hr')
 have hil : rt.2.2.1.length ≤ 20 := hsm.i1
 refine z8 (zC (qV (zM hr) ?_))
 refine zC ((zDr n d y0.1 hv dv hlen h12 r rt hr').mono (fun l hl => ?_))
 have hll : l.length ≤ 86400 := by rw [hl]; exact zUG hv.s h12 hsm.i1
 refine z8 (zK5 (P := fun _ => True) (by omega) ?_ (fun _ => e2l ?_))
 ·intro k x hx
  have hxm := List.mem_of_getElem? hx
  rw [hl] at hxm
  obtain ⟨_, _, _, _, _, _, _, _, _, _, _, _, hp⟩ := zOD hv hxm
  simp only [zM hx, Option.bind_some]
  refine zC ((zDo rt _ _ hsm).mono (fun b hb => ?_))
  rw [hp] at hb
  subst hb
  exact ff rfl (zB (e2l ⟨rfl, trivial⟩))
 ·refine zK5 (P := fun _ => True) (by omega) ?_ (fun _ => e2l (zB (e2l ⟨rfl, trivial⟩)))
  intro i z hz
  refine z8 (zC ((zFh y0.1 r i hv.s).mono (fun ns hns => ?_)))
  have hnl : ns.length ≤ 360 := by rw [hns]; exact zLZ hv.s _ _ _
  refine zVS (xs := ns) (b := rt.2.2.2.2.2.2.2.2.2.1.1 && ((rt.2.2.2.2.2.2.2.2.2.1.2.2.1 == ({ data := #[] } : ByteArray)) && z.2.2.2.2.2.2.2.2.1)) (by omega) ?_ ?_ (e2l (zB (e2l ⟨rfl, trivial⟩)))
  ·intro k
   simp only [zM hz, Option.bind_some]
   cases rt.2.2.2.2.2.2.2.2.2.1.1 <;> cases (rt.2.2.2.2.2.2.2.2.2.1.2.2.1 == ({ data := #[] } : ByteArray)) <;> cases z.2.2.2.2.2.2.2.2.1 <;> simp
  ·intro k e hb he
   simp only [Bool.and_eq_true] at hb
   obtain ⟨c1, c2, c3⟩ := hb
   have hem := List.mem_of_getElem? he
   rw [hns] at hem
   obtain ⟨u1, u2, _⟩ := zLb hem
   obtain ⟨e0, e1, q, y, hq, hy, _⟩ := zXw hv u1 u2
   have hq' : n.1[Int.toNat e.1]? = some q := by rw [hv.net] at hq; exact hq
   have hql := (List.getElem?_eq_some_iff.1 hq').1
   have ht : dv[Int.toNat e.1]? = some (dv[Int.toNat e.1]'(by omega)) := by simp
   generalize (dv[Int.toNat e.1]'(by omega)) = t at ht
   have htm := List.mem_of_getElem? ht
   have htl := h12 t htm
   simp only [zM he, jD hq' e0, jD hy e1, jD ht e0, Option.bind_some]
   refine z8 (zC ((show Wp _ (fun s : Bool => s = false → q.2.2.2.2.2.2.2.2.2.1.1 = true ∧ y.2.2.2.2.2.2.2.2.1 = true ∧ (q.2.2.2.2.2.2.2.2.2.1.2.2.2.1 == ({ data := #[] } : ByteArray)) = true) from ?_).mono (fun s hs => ?_)))
   ·refine zF (fun _ => zB (fun h => by cases h)) (fun g1 => zF (fun _ => zB (fun h => by cases h)) (fun g2 => zB (fun g3 => ⟨by simpa using g1, by simpa using g2, by simpa using g3⟩)))
   refine zF (fun _ => zB (e2l (zB (e2l rfl)))) (fun hs' => ?_)
   obtain ⟨c4, c5, c6⟩ := hs hs'
   refine zK5 (xs := t) (P := fun _ => True) (by omega) ?_ (fun _ => e2l (zB (e2l rfl)))
   intro j x hx
   have hxm := List.mem_of_getElem? hx
   simp only [zM hx, Option.bind_some]
   refine z8 (zC (zW0 (xs := l) (p := fun w : Ty.El zA => w.1 = x.1 ∧ w.2.2.2.2.2.2.2.2.2.2.2.1 = [((i : Int), y.2.1, ())]) (by omega) ?_ ?_))
   ·intro m w hw
    have hwm := List.mem_of_getElem? hw
    rw [hl] at hwm
    obtain ⟨i', e', a', t', x0', _, _, _, _, _, _, hh, _⟩ := zOD hv hwm
    refine ⟨rfl, ?_⟩
    simp only [cond_false, zM hw, Option.bind_some]
    have hi0 : idx w.2.2.2.2.2.2.2.2.2.2.2.1 (0 : Int) = some ((i' : Int), a', ()) := by rw [hh]; rfl
    have hln : ((List.length w.2.2.2.2.2.2.2.2.2.2.2.1 : Int) == (1 : Int)) = true := by rw [hh]; rfl
    refine zF (fun g1 => ?_) (fun g1 => zB ?_)
    ·have g1 := zD4 g1
     refine tt hln (zC (qV hi0 (zB ?_)))
     rw [hh]
     constructor
     ·intro g2
      have g2 : ((i' : Int) == (i : Int) && (a' == y.2.1 && true)) = true := g2
      simp only [Bool.and_true, Bool.and_eq_true, beq_iff_eq] at g2
      exact ⟨g1, by rw [g2.1, g2.2]⟩
     ·rintro ⟨_, g2⟩
      simp only [List.cons.injEq, Prod.mk.injEq, and_true] at g2
      show ((i' : Int) == (i : Int) && (a' == y.2.1 && true)) = true
      rw [g2.1, g2.2]
      simp
    ·refine ⟨(fun h => by cases h), fun h => ?_⟩
     rw [h.1] at g1
     simp at g1
   ·intro b hb
    have hbm : b = decide (x.2.2.2.2.1 < (15 : Int)) := by
     rw [Bool.eq_iff_iff, decide_eq_true_eq, hb]
     constructor
     ·rintro ⟨w, hw, w1, w2⟩
      rw [hl] at hw
      obtain ⟨i', e', a', t', x0', he', ha', ht', hx0', hm', hpr', hh, _⟩ := zOD hv hw
      rw [hh] at w2
      simp only [List.cons.injEq, Prod.mk.injEq, and_true] at w2
      obtain ⟨w2, w3⟩ := w2
      have w2 : i' = i := by omega
      subst w2
      subst w3
      have hee := zWg hv hem he' (zXF hq hy) ha'
      subst hee
      rw [ht] at ht'
      cases ht'
      have := zS6 (hR.one t htm).2.1 hxm hx0' (hpr'.trans w1)
      rw [← this]
      exact hm'
     ·intro hm
      obtain ⟨w, hw, w1, w2⟩ := zWa hv (dv := dv) hz hem hq hy ht hxm c1 c2 c3 c4 c5 c6 hm
      exact ⟨w, by rw [hl]; exact hw, w1, w2⟩
    subst hbm
    refine ff ?_ (zB (e2l (zB (e2l ⟨rfl, trivial⟩))))
    cases decide (x.2.2.2.2.1 < (15 : Int)) <;> rfl
theorem zE5 : ∀ x : ElS [zQ, .sl tI, .sl (.sl zA)], zSO 1048576 [zQ, .sl tI, .sl (.sl zA)] x → yB x = some true := by
 rintro ⟨n, d, dv, ⟨⟩⟩ ⟨_, _, ⟨h1, h2⟩, _⟩
 exact vH (zKO n d dv (fun t ht y hy => zTe ((h2 t ht).2 y hy)))
end Go.Ve
