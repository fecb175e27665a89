/-
  Plain laws: equal routes; static routes that are active.
  Plain laws: interfaces that are up.
  Plain laws: masks, networks, and what prefixes contain.
  Plain laws: what the checks of a network say of its interfaces and static routes.
  Plain laws: what the checks of a network say.
  Plain laws: prefixes in order; the sorting of routes; connected routes.
  Plain laws: preference of routes; insertion into ordered lists; the prefixes of routes; hops added.
  Plain laws: static routes that are active.
  Plain laws: the prefixes of routes; hops added; routes merged.
  Plain laws: routes merged.
  Plain laws: connected routes: sorted, and valid; static routes are valid.
-/
import Derived.Test.YtggmpbaiijodiaaGreatR12
import Derived.Test.YtggmpbaiijodiaaGreatR9
set_option linter.unusedVariables false
namespace Go.Ve
open Go
set_option maxRecDepth 1000000
set_option maxHeartbeats 4000000

/-- Two lists of one length are walked side by side. -/
theorem wp_zip {α ρ : Type} {xs ys : List α} {body : Int → Option (Int ⊕ (Unit ⊕ ρ))} {K : Unit → Option ρ} {Q : ρ → Prop} (hl : xs.length < 4611686018427387904) (he : xs.length = ys.length)
    (step : ∀ (i : Nat) x y, xs[i]? = some x → ys[i]? = some y → Wp (body (i : Int)) (Either2 (fun s' => s' = IntKind.wrap IntKind.i64 ((i : Int) + 1) ∧ x = y) (Either2 (fun _ => False) Q))) (fin : xs = ys → Wp (K ()) Q) :
    Wp (cut2 (loopX (fun s : Int => bif decide (s < (xs.length : Int)) then body s else some (Sum.inr (Sum.inl ()))) (0 : Int)) K) Q := by
  refine wp_find hl (fun i => ∀ j, j < i → xs[j]? = ys[j]?) (fun j hj => by omega) ?_ (fun h => fin ?_)
  · intro i x hx hj
    have hi := (List.getElem?_eq_some_iff.1 hx).1
    have hy : ys[i]? = some (ys[i]'(by omega)) := by simp
    refine (step i x _ hx hy).mono ?_
    intro o ho
    cases o with
    | inl s' =>
      refine ⟨ho.1, ?_⟩
      intro j hj'
      rcases Nat.lt_or_ge j i with h' | h'
      · exact hj j h'
      · have : j = i := by omega
        subst this
        rw [hx, hy, ho.2]
    | inr o => exact ho
  · refine List.ext_getElem? (fun j => ?_)
    rcases Nat.lt_or_ge j xs.length with h' | h'
    · exact h j h'
    · rw [List.getElem?_eq_none h', List.getElem?_eq_none (by omega)]

theorem same_iff (a b : Ty.El tRoute) (ha : RtS a) : Wp (ref15_Same (a, b, ())) (fun r => r = true ↔ a = b) := by
  obtain ⟨hp, hh⟩ := ha
  obtain ⟨⟨pa, pl, ⟨⟩⟩, pr, cl, ad, me, inn, tg, pf, path, fr, nx, hops, dc, ⟨⟩⟩ := a
  obtain ⟨⟨pa', pl', ⟨⟩⟩, pr', cl', ad', me', inn', tg', pf', path', fr', nx', hops', dc', ⟨⟩⟩ := b
  simp only at hp hh
  unfold ref15_Same
  dsimp only
  refine wp_bind ((show Wp _ (fun s : Bool => (s = true → ¬ (pa = pa' ∧ pl = pl' ∧ pr = pr' ∧ cl = cl' ∧ ad = ad' ∧ me = me' ∧ inn = inn' ∧ tg = tg' ∧ pf = pf' ∧ fr = fr' ∧ nx = nx' ∧ dc = dc' ∧ path.length = path'.length ∧ hops.length = hops'.length)) ∧
    (s = false → pa = pa' ∧ pl = pl' ∧ pr = pr' ∧ cl = cl' ∧ ad = ad' ∧ me = me' ∧ inn = inn' ∧ tg = tg' ∧ pf = pf' ∧ fr = fr' ∧ nx = nx' ∧ dc = dc' ∧ path.length = path'.length ∧ hops.length = hops'.length)) from ?_).mono ?_)
  · iterate 12 (refine wp_bif (fun h => wp_some ⟨fun _ e => ?_, fun h => by cases h⟩) (fun _ => ?_); · simp_all)
    refine wp_some ⟨fun h e => ?_, fun h => ?_⟩
    · simp_all
    · simp_all <;> omega
  intro s hs
  refine wp_bif (fun h => wp_some ?_) (fun h => ?_)
  · have h1 := hs.1 h
    constructor
    · intro h'; cases h'
    · intro e
      exfalso
      apply h1
      simp only [Prod.mk.injEq] at e
      obtain ⟨⟨e1, e2, _⟩, e3, e4, e5, e6, e7, e8, e9, e10, e11, e12, e13, e14, _⟩ := e
      exact ⟨e1, e2, e3, e4, e5, e6, e7, e8, e9, e11, e12, e14, by rw [e10], by rw [e13]⟩
  obtain ⟨rfl, rfl, rfl, rfl, rfl, rfl, rfl, rfl, rfl, rfl, rfl, rfl, l1, l2⟩ := hs.2 h
  refine wp_zip (xs := path) (ys := path') (by omega) l1 ?_ (fun e1 => ?_)
  · intro i x y hx hy
    simp only [idx_nat hx, idx_nat hy, Option.bind_some]
    refine wp_bif (fun h => wp_some (e2r (e2r ?_))) (fun h => wp_some (e2l ⟨rfl, ?_⟩))
    · constructor
      · intro h'; cases h'
      · intro e
        exfalso
        simp only [Prod.mk.injEq] at e
        obtain ⟨_, _, _, _, _, _, _, _, e10, _⟩ := e
        rw [e10, hy] at hx
        cases hx
        simp at h
    · simpa using h
  subst e1
  refine wp_zip (xs := hops) (ys := hops') (by omega) l2 ?_ (fun e1 => ?_)
  · intro i x y hx hy
    simp only [idx_nat hx, idx_nat hy, Option.bind_some]
    refine wp_bif (fun h => wp_some (e2r (e2r ?_))) (fun h => wp_some (e2l ⟨rfl, ?_⟩))
    · constructor
      · intro h'; cases h'
      · intro e
        exfalso
        simp only [Prod.mk.injEq] at e
        obtain ⟨_, _, _, _, _, _, _, _, _, _, _, e10, _⟩ := e
        rw [e10, hy] at hx
        cases hx
        simp at h
    · exact pre_eq (by simpa using h)
  subst e1
  exact wp_some ⟨fun _ => rfl, fun _ => rfl⟩

theorem tot_addr_Contains (p : Ty.El tPrefix) (a : Int) : Wp (addr_Contains (p, a, ())) (fun _ => True) := by
  unfold addr_Contains addr_Mask addr_clamp
  simp only [Option.bind_some]
  refine wp_bind (wp_bif (fun _ => wp_some (wp_some trivial)) (fun h => ?_))
  exfalso
  simp only [decide_eq_false_iff_not] at h
  apply h
  split <;> split <;> (rw [wrap_i64 (by omega) (by omega)]; omega)

/-- A value that is there. -/
theorem some_getD {α : Type} {m : Option α} {x : α} (h : Wp m (fun _ => True)) : m = some (m.getD x) := by
  obtain ⟨r, h, _⟩ := h
  rw [h]; rfl

noncomputable def cont (p : Ty.El tPrefix) (a : Int) : Bool := (addr_Contains (p, a, ())).getD false

theorem cont_eq (p : Ty.El tPrefix) (a : Int) : addr_Contains (p, a, ()) = some (cont p a) := some_getD (tot_addr_Contains p a)

/-- Two prefixes are the same, as the code compares them. -/
def preB (p q : Ty.El tPrefix) : Bool := p.fst == q.fst && (p.snd.fst == q.snd.fst && true)

theorem preB_iff {p q : Ty.El tPrefix} : preB p q = true ↔ p = q := ⟨fun h => pre_eq h, fun h => by subst h; simp [preB]⟩

noncomputable def rstep (own : Ty.El tPrefix) (a : Int) (best : Option (Ty.El tRoute)) (x : Ty.El tRoute) : Option (Ty.El tRoute) :=
  if preB x.1 own || !cont x.1 a then best else match best with
    | none => some x
    | some b => if x.1.2.1 > b.1.2.1 then some x else best

theorem rstep_skip {own : Ty.El tPrefix} {a : Int} {b : Option (Ty.El tRoute)} {x : Ty.El tRoute} (h : (preB x.1 own || !cont x.1 a) = true) : rstep own a b x = b := by
  unfold rstep; rw [if_pos h]

theorem rstep_none {own : Ty.El tPrefix} {a : Int} {x : Ty.El tRoute} (h : (preB x.1 own || !cont x.1 a) = false) : rstep own a none x = some x := by
  unfold rstep; rw [if_neg (by rw [h]; simp)]

theorem rstep_some {own : Ty.El tPrefix} {a : Int} {b x : Ty.El tRoute} (h : (preB x.1 own || !cont x.1 a) = false) : rstep own a (some b) x = if x.1.2.1 > b.1.2.1 then some x else some b := by
  unfold rstep; rw [if_neg (by rw [h]; simp)]

/-- The route of the longest prefix other than its own. -/
noncomputable def resolveR (t : List (Ty.El tRoute)) (own : Ty.El tPrefix) (a : Int) : Option (Ty.El tRoute) := t.foldl (rstep own a) none

theorem foldl_take {α β : Type} {f : β → α → β} {b : β} {xs : List α} {i : Nat} {x : α} (h : xs[i]? = some x) : (xs.take (i + 1)).foldl f b = f ((xs.take i).foldl f b) x := by
  rw [List.take_add_one, h]
  simp

theorem spec_static_Resolves (t : List (Ty.El tRoute)) (own : Ty.El tPrefix) (a : Int) (hl : t.length < 4611686018427387904) :
    Wp (static_Resolves (t, own, a, ())) (fun k => (k < 0 ∧ resolveR t own a = none) ∨ ∃ (i : Nat) (y : Ty.El tRoute), k = (i : Int) ∧ t[i]? = some y ∧ resolveR t own a = some y) := by
  unfold static_Resolves
  dsimp only
  refine wp_bind ((wp_fold (xs := t) hl (fun i (k : Int) => (k < 0 ∧ (t.take i).foldl (rstep own a) none = none) ∨ ∃ (m : Nat) (y : Ty.El tRoute), k = (m : Int) ∧ t[m]? = some y ∧ (t.take i).foldl (rstep own a) none = some y)
    (.inl ⟨by omega, rfl⟩) ?_ (fun g hg => ?_) (Q := fun k => (k < 0 ∧ resolveR t own a = none) ∨ ∃ (i : Nat) (y : Ty.El tRoute), k = (i : Int) ∧ t[i]? = some y ∧ resolveR t own a = some y)).mono (fun k hk => wp_some hk))
  · intro i x k hx hj
    rw [foldl_take hx]
    generalize (t.take i).foldl (rstep own a) none = b at hj
    simp only [idx_nat hx, Option.bind_some]
    refine wp_bind ((show Wp _ (fun s : Bool => s = (preB x.1 own || !cont x.1 a)) from ?_).mono ?_)
    · refine wp_bif (fun h => wp_some ?_) (fun h => wp_bind (wp_eq (cont_eq _ _) (wp_some ?_)))
      · have h' : preB x.1 own = true := h
        simp [h']
      · have h' : preB x.1 own = false := h
        simp [h']
    intro s hs
    refine wp_bif (fun h => wp_some ?_) (fun h => ?_)
    · rw [rstep_skip (by rw [← hs, h])]
      exact hj
    · have hsk : (preB x.1 own || !cont x.1 a) = false := by rw [← hs, h]
      rcases hj with ⟨h1, rfl⟩ | ⟨m, y, rfl, h2, rfl⟩
      · refine wp_bind (wp_bif (fun _ => wp_some ?_) (fun h' => ?_))
        · exact wp_some (.inr ⟨i, x, rfl, hx, rstep_none hsk⟩)
        · exfalso; simp only [decide_eq_false_iff_not] at h'; exact h' h1
      · refine wp_bind (wp_bif (fun h' => ?_) (fun _ => ?_))
        · exfalso; simp only [decide_eq_true_eq] at h'; omega
        · simp only [idx_nat h2, Option.bind_some]
          refine wp_some (wp_bifd (fun h' => ?_) (fun h' => ?_))
          · exact wp_some (.inr ⟨i, x, rfl, hx, by rw [rstep_some hsk, if_pos h']⟩)
          · exact wp_some (.inr ⟨m, y, rfl, h2, by rw [rstep_some hsk, if_neg h']⟩)
  · rw [List.take_length] at hg
    exact hg
end Go.Ve

namespace Go.Ve
open Go
set_option maxRecDepth 1000000
set_option maxHeartbeats 4000000

def endB (e y : Ty.El tPorts) : Bool := y.fst == e.fst && (y.snd.fst == e.snd.fst && true)

theorem endB_iff {e y : Ty.El tPorts} : endB e y = true ↔ y = e := ⟨fun h => pre_eq h, fun h => by subst h; simp [endB]⟩

/-- The index of the domain of an interface, or -1. -/
def domIdx (v : Ty.El tView) (r i : Int) : Int := fidx (fun d : Ty.El tDomain => d.2.2.1.any (endB (r, i, ()))) v.2.1.1

/-- The index of its link, or -1. -/
def linkIdx (v : Ty.El tView) (r i : Int) : Int := fidx (fun l : Int => decide (domIdx v r i ≥ 0) && l == domIdx v r i) v.2.1.2.1

def upB (v : Ty.El tView) (r i : Int) : Bool := decide (0 ≤ domIdx v r i) && v.2.2.1.all (fun x : Int => !(x == linkIdx v r i))

/-- The lists of a view are short. -/
structure ViewS (v : Ty.El tView) : Prop where
  rs : v.1.1.length ≤ 9
  sm : ∀ y, y ∈ v.1.1 → SmR y
  doms : v.2.1.1.length ≤ 360
  ends : ∀ d, d ∈ v.2.1.1 → d.2.2.1.length ≤ 360
  links : v.2.1.2.1.length ≤ 12
  link0 : ∀ l, l ∈ v.2.1.2.1 → (0 : Int) ≤ l
  down : v.2.2.1.length ≤ 2
  down0 : ∀ l, l ∈ v.2.2.1 → (0 : Int) ≤ l

theorem ViewOk.s {n : Ty.El tNetwork} {d : List Int} {v : Ty.El tView} (h : ViewOk n d v) : ViewS v where
  rs := by rw [h.net]; exact h.rs
  sm := by rw [h.net]; exact h.sm
  doms := h.topo.doms
  ends := fun d hd => (h.topo.ends d hd).1
  links := h.topo.links
  link0 := fun l hl => (h.topo.link l hl).1
  down := by rw [h.dn]; exact h.down.len
  down0 := by rw [h.dn]; exact fun l hl => (h.down.lo l hl).1

theorem fidx_nonneg {α : Type} {p : α → Bool} {xs : List α} : fidx p xs ≥ 0 ↔ xs.any p = true := by
  rcases fidx_cases p xs with ⟨h, h2⟩ | ⟨i, x, h, h2, h3, _⟩
  · rw [h]
    constructor
    · intro h'; omega
    · intro h'
      obtain ⟨x, hx, hp⟩ := List.any_eq_true.1 h'
      rw [h2 x hx] at hp
      cases hp
  · rw [h]
    exact ⟨fun _ => List.any_eq_true.2 ⟨x, List.mem_of_getElem? h2, h3⟩, fun _ => by omega⟩

theorem fidx_ge {α : Type} {p : α → Bool} {xs : List α} : -1 ≤ fidx p xs := by
  rcases fidx_cases p xs with ⟨h, h2⟩ | ⟨i, x, h, h2, h3, _⟩ <;> omega

theorem fidx_lt {α : Type} {p : α → Bool} {xs : List α} (h : 0 ≤ fidx p xs) : ∃ x, xs[(fidx p xs).toNat]? = some x ∧ p x = true := by
  rcases fidx_cases p xs with ⟨h1, h2⟩ | ⟨i, x, h1, h2, h3, _⟩
  · omega
  · rw [h1]; exact ⟨x, by simpa using h2, h3⟩

theorem spec_slices_Index_End (l : List (Ty.El tPorts)) (e : Ty.El tPorts) (hl : l.length ≤ 1048576) : Wp (slices_Index_End (l, e, ())) (fun k => k = fidx (endB e) l) := by
  unfold slices_Index_End
  dsimp only
  refine wp_fidx (p := endB e) (by omega) ?_ rfl
  intro i x hx
  simp only [idx_nat hx, Option.bind_some]
  have : (e.fst == x.fst && (e.snd.fst == x.snd.fst && true)) = endB e x := by
    unfold endB
    rw [Bool.eq_iff_iff]
    simp only [Bool.and_true, Bool.and_eq_true, beq_iff_eq]
    exact ⟨fun h => ⟨h.1.symm, h.2.symm⟩, fun h => ⟨h.1.symm, h.2.symm⟩⟩
  rw [this]
  cases endB e x <;> rfl

theorem spec_slices_Contains_End (l : List (Ty.El tPorts)) (e : Ty.El tPorts) (hl : l.length ≤ 1048576) : Wp (slices_Contains_End (l, e, ())) (fun b => b = l.any (endB e)) := by
  unfold slices_Contains_End
  dsimp only
  refine wp_bind ((spec_slices_Index_End l e hl).mono (fun k hk => wp_some ?_))
  subst hk
  rw [Bool.eq_iff_iff, decide_eq_true_eq]
  exact fidx_nonneg

theorem wp_val {α : Type} {m : Option α} {x : α} (h : Wp m (fun r => r = x)) : m = some x := by
  obtain ⟨r, h1, rfl⟩ := h; exact h1

theorem spec_topo_Domain (v : Ty.El tView) (r i : Int) (hv : ViewS v) : Wp (topo_Domain (v, r, i, ())) (fun k => k = domIdx v r i) := by
  unfold topo_Domain
  dsimp only
  have := hv.doms
  refine wp_fidx (p := fun d : Ty.El tDomain => d.2.2.1.any (endB (r, i, ()))) (by omega) ?_ rfl
  intro k x hx
  simp only [idx_nat hx, Option.bind_some]
  have := hv.ends x (List.mem_of_getElem? hx)
  have h1 := wp_val (spec_slices_Contains_End x.2.2.1 (r, i, ()) (by omega))
  refine (congrArg (fun m => Option.bind m _) h1).trans ?_
  simp only [Option.bind_some]
  cases List.any x.2.2.1 (endB (r, i, ())) <;> rfl

theorem spec_ref15_Domain (v : Ty.El tView) (r i : Int) (hv : ViewS v) : Wp (ref15_Domain (v, r, i, ())) (fun k => k = domIdx v r i) := by
  unfold ref15_Domain
  dsimp only
  have := hv.doms
  refine wp_find (by omega) (fun k => ∀ j y, j < k → v.2.1.1[j]? = some y → y.2.2.1.any (endB (r, i, ())) = false) (fun j y hj => by omega) ?_ ?_
  · intro k x hx hj
    have hends := hv.ends x (List.mem_of_getElem? hx)
    simp only [idx_nat hx, Option.bind_some]
    refine wp_find (xs := x.2.2.1) (by omega) (fun m => ∀ y, y ∈ x.2.2.1.take m → endB (r, i, ()) y = false) (fun y hy => by simp at hy) ?_ ?_
    · intro m y hy hm
      simp only [idx_nat hy, Option.bind_some]
      refine wp_bif (fun h => wp_some (e2r (e2r (e2r (e2r ?_))))) (fun h => wp_some (e2l ⟨rfl, ?_⟩))
      · have h1 : x.2.2.1.any (endB (r, i, ())) = true := List.any_eq_true.2 ⟨y, List.mem_of_getElem? hy, h⟩
        exact (fidx_at (p := fun d : Ty.El tDomain => d.2.2.1.any (endB (r, i, ()))) hx h1 hj).symm
      · intro z hz
        rw [List.take_add_one, hy] at hz
        simp only [Option.toList_some, List.mem_append, List.mem_singleton] at hz
        rcases hz with hz | rfl
        · exact hm z hz
        · exact h
    · intro hm
      rw [List.take_length] at hm
      refine wp_some (e2l ⟨rfl, ?_⟩)
      intro j y hj' hy
      rcases Nat.lt_or_ge j k with h' | h'
      · exact hj j y h' hy
      · have : j = k := by omega
        subst this
        rw [hx] at hy
        cases hy
        rw [Bool.eq_false_iff]
        intro h
        obtain ⟨z, hz, hz2⟩ := List.any_eq_true.1 h
        rw [hm z hz] at hz2
        cases hz2
  · intro hj
    refine wp_some (fidx_none ?_).symm
    intro x hx
    obtain ⟨j, hjl, rfl⟩ := List.getElem_of_mem hx
    exact hj j _ hjl (by simp [hjl])

theorem spec_slices_Index_int (l : List Int) (e : Int) (hl : l.length ≤ 1048576) : Wp (slices_Index_int (l, e, ())) (fun k => k = fidx (fun x => x == e) l) := by
  unfold slices_Index_int
  dsimp only
  refine wp_fidx (p := fun x : Int => x == e) (by omega) ?_ rfl
  intro i (x : Int) hx
  simp only [idx_nat hx, Option.bind_some]
  have : (e == x) = (x == e) := by rw [Bool.eq_iff_iff, beq_iff_eq, beq_iff_eq]; exact eq_comm
  rw [this]
  cases x == e <;> rfl

theorem spec_slices_Contains_int (l : List Int) (e : Int) (hl : l.length ≤ 1048576) : Wp (slices_Contains_int (l, e, ())) (fun b => b = l.any (fun x => x == e)) := by
  unfold slices_Contains_int
  dsimp only
  refine wp_bind ((spec_slices_Index_int l e hl).mono (fun k hk => wp_some ?_))
  subst hk
  rw [Bool.eq_iff_iff, decide_eq_true_eq]
  exact fidx_nonneg

theorem spec_topo_Link (v : Ty.El tView) (r i : Int) (hv : ViewS v) : Wp (topo_Link (v, r, i, ())) (fun k => k = linkIdx v r i) := by
  unfold topo_Link
  dsimp only
  refine wp_bind ((spec_topo_Domain v r i hv).mono (fun k hk => ?_))
  subst hk
  refine wp_bifd (fun h => wp_some ?_) (fun h => ?_)
  · unfold linkIdx
    rw [fidx_none]
    intro x _
    have : ¬ (domIdx v r i ≥ 0) := by omega
    simp [this]
  · have := hv.links
    refine wp_bind ((spec_slices_Index_int _ _ (by omega)).mono (fun k hk => wp_some ?_))
    rw [hk]
    unfold linkIdx
    have h2 : domIdx v r i ≥ 0 := by omega
    congr 1
    funext l
    simp [h2]

theorem spec_ref15_Link (v : Ty.El tView) (r i : Int) (hv : ViewS v) : Wp (ref15_Link (v, r, i, ())) (fun k => k = linkIdx v r i) := by
  unfold ref15_Link
  dsimp only
  refine wp_bind ((spec_ref15_Domain v r i hv).mono (fun k hk => ?_))
  subst hk
  have := hv.links
  refine wp_fidx (p := fun l : Int => decide (domIdx v r i ≥ 0) && l == domIdx v r i) (by omega) ?_ rfl
  intro i' (x : Int) hx
  simp only [idx_nat hx, Option.bind_some]
  cases decide (domIdx v r i ≥ 0) <;> cases x == domIdx v r i <;> rfl

theorem all_not_any {α : Type} {p : α → Bool} (l : List α) : (!l.any p) = l.all (fun x => !p x) := by
  induction l with
  | nil => rfl
  | cons x l ih => simp [← ih]

theorem spec_topo_Up (v : Ty.El tView) (r i : Int) (hv : ViewS v) : Wp (topo_Up (v, r, i, ())) (fun b => b = upB v r i) := by
  unfold topo_Up
  dsimp only
  refine wp_bind ((spec_topo_Domain v r i hv).mono (fun k hk => ?_))
  subst hk
  refine wp_bifd (fun h => wp_some ?_) (fun h => ?_)
  · unfold upB
    have : ¬ (0 ≤ domIdx v r i) := by omega
    simp [this]
  · refine wp_bind ((spec_topo_Link v r i hv).mono (fun k hk => ?_))
    subst hk
    have h0 : 0 ≤ domIdx v r i := by omega
    have hd := hv.down
    refine wp_bind (wp_bifd (fun h => wp_some (wp_some ?_)) (fun h => ?_))
    · unfold upB
      simp only [h0, decide_true, Bool.true_and]
      symm
      rw [List.all_eq_true]
      intro x hx
      have := hv.down0 x hx
      simp only [Bool.not_eq_true', beq_eq_false_iff_ne]
      omega
    · refine wp_bind ((spec_slices_Contains_int _ _ (by omega)).mono (fun b hb => wp_some (wp_some ?_)))
      subst hb
      unfold upB
      simp only [h0, decide_true, Bool.true_and]
      exact all_not_any _

theorem spec_ref15_Up (v : Ty.El tView) (r i : Int) (hv : ViewS v) : Wp (ref15_Up (v, r, i, ())) (fun b => b = upB v r i) := by
  unfold ref15_Up
  dsimp only
  refine wp_bind ((spec_ref15_Domain v r i hv).mono (fun k hk => ?_))
  subst hk
  refine wp_bifd (fun h => wp_some ?_) (fun h => ?_)
  · unfold upB
    have : ¬ (0 ≤ domIdx v r i) := by omega
    simp [this]
  · refine wp_bind ((spec_ref15_Link v r i hv).mono (fun k hk => ?_))
    subst hk
    have h0 : 0 ≤ domIdx v r i := by omega
    have hd := hv.down
    refine wp_all (P := fun x : Int => (x == linkIdx v r i) = false) (by omega) ?_ (fun hall => wp_some ?_)
    · intro i' (x : Int) hx
      simp only [idx_nat hx, Option.bind_some]
      refine wp_bif (fun h => wp_some (e2r (e2r ?_))) (fun h => wp_some (e2l ⟨rfl, h⟩))
      unfold upB
      simp only [h0, decide_true, Bool.true_and]
      symm
      rw [Bool.eq_false_iff]
      intro hh
      have := List.all_eq_true.1 hh x (List.mem_of_getElem? hx)
      simp [h] at this
    · unfold upB
      simp only [h0, decide_true, Bool.true_and]
      symm
      rw [List.all_eq_true]
      intro x hx
      simp [hall x hx]

/-- The index of the interface with this name, or -1. -/
def ifIdx (r : Ty.El tRouter) (nm : Ty.El .str) : Int := fidx (fun x : Ty.El tIface => x.1 == nm) r.2.2.1

theorem spec_model_Interface (r : Ty.El tRouter) (nm : Ty.El .str) (hr : SmR r) : Wp (model_Interface (r, nm, ())) (fun k => k = ifIdx r nm) := by
  unfold model_Interface slices_IndexFunc_Interface__c63 model_Interface_c1
  dsimp only
  have := hr.i1
  refine wp_bind (wp_fidx (p := fun x : Ty.El tIface => x.1 == nm) (by omega) ?_ (wp_some rfl))
  intro i x hx
  simp only [idx_nat hx, Option.bind_some]
  cases x.1 == nm <;> rfl

theorem spec_ref8_Interface (r : Ty.El tRouter) (nm : Ty.El .str) (hr : SmR r) : Wp (ref8_Interface (r, nm, ())) (fun k => k = ifIdx r nm) := by
  unfold ref8_Interface
  dsimp only
  have := hr.i1
  refine wp_fidx (p := fun x : Ty.El tIface => x.1 == nm) (by omega) ?_ rfl
  intro i x hx
  simp only [idx_nat hx, Option.bind_some]
  cases x.1 == nm <;> rfl
end Go.Ve

namespace Go.Ve
open Go
set_option maxRecDepth 1000000
set_option maxHeartbeats 4000000

def clampN (n : Int) : Nat := min n.toNat 32

/-- As many ones as k at the top. -/
def maskB (k : Nat) : BitVec 32 := BitVec.allOnes 32 <<< (32 - k)

theorem clampN_le (n : Int) : clampN n ≤ 32 := Nat.min_le_right _ _

theorem wrap_u32 {x : Int} (h0 : 0 ≤ x) (h1 : x < 4294967296) : IntKind.wrap .u32 x = x := by
  have e1 : ((2 : Int) ^ IntKind.bits .u32) = 4294967296 := by decide
  simp only [IntKind.wrap, IntKind.signed, Bool.false_and, Bool.false_eq_true, if_false, e1]
  omega

theorem wrap_bv (x : BitVec 32) : IntKind.wrap .u32 (x.toNat : Int) = (x.toNat : Int) := wrap_u32 (by omega) (by have := x.isLt; omega)

theorem ofInt_bv (x : BitVec 32) : BitVec.ofInt 32 (x.toNat : Int) = x := by
  rw [BitVec.ofInt_natCast, BitVec.ofNat_toNat, BitVec.setWidth_eq]

theorem step_mask : ∀ i, i < 32 → maskB i ||| BitVec.ofInt 32 (IntKind.wrap .u32 (1 * 2 ^ min (31 - i) 32)) = maskB (i + 1) := by decide +kernel

theorem mask_zero : maskB 0 = 0#32 := by decide +kernel

theorem addr_mask_at : ∀ k, k < 33 → IntKind.wrap .u32 (4294967295 * 2 ^ min (32 - k) 32) = ((maskB k).toNat : Int) := by decide +kernel

theorem spec_ref4_Mask (n : Int) : Wp (ref4_Mask (n, ())) (fun m => m = ((maskB (clampN n)).toNat : Int)) := by
  unfold ref4_Mask
  dsimp only
  refine wp_bind ((wp_foldN (n := 32) (by omega) (fun i (m : Int) => m = ((maskB (min i (clampN n))).toNat : Int)) (by simp [mask_zero]) (fun i g _ => by simp) ?_ (Q := fun m => m = ((maskB (clampN n)).toNat : Int)) (fun g hg => by
    rw [hg, Nat.min_eq_right (clampN_le n)])).mono (fun m hm => wp_some hm))
  intro i g hi hg
  subst hg
  refine wp_bifd (fun h => ?_) (fun h => wp_some ?_)
  · have h : (i : Int) < n := h
    have hk : i < clampN n := by unfold clampN; omega
    refine wp_bifd (fun _ => wp_some ?_) (fun h' => absurd ?_ h')
    · have e1 : min i (clampN n) = i := by omega
      have e2 : min (i + 1) (clampN n) = i + 1 := by omega
      rw [e1, e2]
      dsimp only
      rw [wrap_i64 (by omega) (by omega), wrap_u64 (by omega) (by omega), show ((31 : Int) - (i : Int)).toNat = 31 - i by omega]
      change IntKind.wrap .u32 (((BitVec.ofInt 32 ((maskB i).toNat : Int) ||| BitVec.ofInt 32 (IntKind.wrap .u32 (1 * 2 ^ min (31 - i) 32))).toNat : Nat) : Int) = _
      rw [ofInt_bv, step_mask i hi, wrap_bv]
    · simp only
      rw [wrap_i64 (by omega) (by omega), wrap_u64 (by omega) (by omega)]
      omega
  · have h : ¬ ((i : Int) < n) := h
    have hk : clampN n ≤ i := by unfold clampN; omega
    rw [Nat.min_eq_right hk, Nat.min_eq_right (by omega)]

theorem clamp_if (n : Int) : (if (if (32 : Int) < n then (32 : Int) else n) > (0 : Int) then if (32 : Int) < n then (32 : Int) else n else (0 : Int)) = (clampN n : Int) := by
  unfold clampN
  split <;> split <;> omega

theorem clamp_if' (n : Int) : (if (0 : Int) > if (32 : Int) < n then (32 : Int) else n then (0 : Int) else if (32 : Int) < n then (32 : Int) else n) = (clampN n : Int) := by
  unfold clampN
  split <;> split <;> omega

theorem clampN_nat (n : Int) : clampN ((clampN n : Nat) : Int) = clampN n := by
  unfold clampN
  omega

theorem spec_addr_Mask (n : Int) : addr_Mask (n, ()) = some ((maskB (clampN n)).toNat : Int) := by
  have hle := clampN_le n
  unfold addr_Mask addr_clamp
  simp only [clamp_if, Option.bind_some]
  rw [wrap_i64 (by omega) (by omega)]
  have h0 : (0 : Int) ≤ 32 - ((clampN n : Nat) : Int) := by omega
  simp only [h0, decide_true, cond_true]
  rw [show ((32 : Int) - ((clampN n : Nat) : Int)).toNat = 32 - clampN n by omega]
  exact congrArg some (addr_mask_at _ (by omega))

/-- The network of an address. -/
def netw (a n : Int) : Ty.El tPrefix := (((BitVec.ofInt 32 a &&& maskB (clampN n)).toNat : Int), (clampN n : Int), ())

/-- A prefix contains an address. -/
def contB (p : Ty.El tPrefix) (a : Int) : Bool := (((BitVec.ofInt 32 a &&& maskB (clampN p.2.1)).toNat : Nat) : Int) == p.1

theorem and_at (a : Int) (k : Nat) : IntKind.wrap .u32 (((BitVec.ofInt (IntKind.bits .u32) a &&& BitVec.ofInt (IntKind.bits .u32) ((maskB k).toNat : Int)).toNat : Nat) : Int) = ((BitVec.ofInt 32 a &&& maskB k).toNat : Int) := by
  change IntKind.wrap .u32 (((BitVec.ofInt 32 a &&& BitVec.ofInt 32 ((maskB k).toNat : Int)).toNat : Nat) : Int) = _
  rw [ofInt_bv, wrap_bv]

theorem spec_addr_Network (a n : Int) : addr_Network (a, n, ()) = some (netw a n) := by
  refine wp_val ?_
  unfold addr_Network
  dsimp only
  refine wp_bind (wp_eq (spec_addr_Mask _) ?_)
  unfold addr_clamp
  simp only [clamp_if, Option.bind_some]
  refine wp_some ?_
  unfold netw
  rw [and_at]

theorem spec_ref4_Network (a n : Int) : ref4_Network (a, n, ()) = some (netw a n) := by
  refine wp_val ?_
  unfold ref4_Network
  simp only [clamp_if']
  refine wp_bind ((spec_ref4_Mask _).mono (fun m hm => wp_some ?_))
  subst hm
  unfold netw
  rw [clampN_nat, and_at]

theorem spec_ref4_Contains (p : Ty.El tPrefix) (a : Int) : ref4_Contains (p, a, ()) = some (contB p a) := by
  refine wp_val ?_
  unfold ref4_Contains
  dsimp only
  refine wp_bind ((spec_ref4_Mask _).mono (fun m hm => wp_some ?_))
  subst hm
  rw [and_at]
  rfl

theorem spec_addr_Contains (p : Ty.El tPrefix) (a : Int) : addr_Contains (p, a, ()) = some (contB p a) := by
  refine wp_val ?_
  unfold addr_Contains
  dsimp only
  refine wp_bind (wp_eq (spec_addr_Mask _) (wp_some ?_))
  rw [and_at]
  rfl

theorem cont_contB (p : Ty.El tPrefix) (a : Int) : cont p a = contB p a := by
  have := cont_eq p a
  rw [spec_addr_Contains] at this
  exact (Option.some.inj this).symm

theorem netw_self (a n : Int) : contB (netw a n) (netw a n).1 = true := by
  unfold contB netw
  simp only [clampN_nat, ofInt_bv]
  rw [BitVec.and_assoc, BitVec.and_self]
  simp

theorem spec_ref4_Covers (p q : Ty.El tPrefix) : ref4_Covers (p, q, ()) = some (decide (p.2.1 ≤ q.2.1) && contB p q.1) := by
  refine wp_val ?_
  unfold ref4_Covers
  dsimp only
  refine wp_bind (wp_bif (fun h => wp_bind (wp_eq (spec_ref4_Contains _ _) (wp_some (wp_some ?_)))) (fun h => wp_some (wp_some ?_))) <;> (rw [h]; rfl)

theorem spec_ref4_Overlaps (p q : Ty.El tPrefix) : ref4_Overlaps (p, q, ()) = some ((decide (p.2.1 ≤ q.2.1) && contB p q.1) || (decide (q.2.1 ≤ p.2.1) && contB q p.1)) := by
  refine wp_val ?_
  unfold ref4_Overlaps
  dsimp only
  refine wp_bind (wp_bind (wp_eq (spec_ref4_Covers _ _) (wp_bif (fun h => wp_some (wp_some ?_)) (fun h => wp_bind (wp_eq (spec_ref4_Covers _ _) (wp_some (wp_some ?_))))))) <;> (rw [h]; rfl)

theorem overlaps_self (a n : Int) : ref4_Overlaps (netw a n, netw a n, ()) = some true := by
  rw [spec_ref4_Overlaps, netw_self]
  simp

/-- A prefix in form. -/
def validB (p : Ty.El tPrefix) : Bool := decide (p.2.1 ≥ 0) && (decide (p.2.1 ≤ 32) && (BitVec.ofInt 32 p.1 &&& ~~~ maskB (clampN p.2.1)) == 0#32)

theorem spec_ref4_Valid (p : Ty.El tPrefix) : ref4_Valid (p, ()) = some (validB p) := by
  refine wp_val ?_
  unfold ref4_Valid validB
  dsimp only
  refine wp_bind (wp_bif (fun h => wp_bif (fun h' => wp_bind ((spec_ref4_Mask _).mono (fun m hm => wp_some (wp_some ?_)))) (fun h' => wp_some (wp_some ?_))) (fun h => wp_some (wp_some ?_)))
  · subst hm
    rw [h, h']
    simp only [Bool.true_and]
    change (IntKind.wrap .u32 (((BitVec.ofInt 32 p.1 &&& ~~~ BitVec.ofInt 32 ((maskB (clampN p.2.1)).toNat : Int)).toNat : Nat) : Int) == (0 : Int)) = _
    rw [ofInt_bv, wrap_bv, Bool.eq_iff_iff, beq_iff_eq, beq_iff_eq]
    constructor
    · intro h
      apply BitVec.eq_of_toNat_eq
      simp only [BitVec.toNat_ofNat]
      omega
    · intro h
      rw [h]; rfl
  · rw [h, h']; rfl
  · rw [h]; rfl

theorem netw_valid (a n : Int) : validB (netw a n) = true := by
  unfold validB netw
  have := clampN_le n
  simp only [clampN_nat, ofInt_bv]
  have h1 : (BitVec.ofInt 32 a &&& maskB (clampN n) &&& ~~~ maskB (clampN n)) = 0#32 := by
    rw [BitVec.and_assoc]
    simp
  rw [h1]
  simp only [Bool.and_eq_true, decide_eq_true_eq, beq_self_eq_true, and_true]
  exact ⟨Int.natCast_nonneg _, Int.ofNat_le.2 this⟩
end Go.Ve

namespace Go.Ve
open Go
set_option maxRecDepth 1000000
set_option maxHeartbeats 4000000

section
variable {ρ : Type}

/-- A loop that counts. -/
theorem wp_cntL {n : Nat} {body : Int → Option (Int ⊕ (Unit ⊕ ρ))} {Q : Unit ⊕ ρ → Prop} (hl : n < 4611686018427387904) (J : Nat → Prop) (h0 : J 0)
    (step : ∀ i, i < n → J i → Wp (body (i : Int)) (Either2 (fun s' => s' = IntKind.wrap IntKind.i64 ((i : Int) + 1) ∧ J (i + 1)) Q)) (fin : J n → Q (Sum.inl ())) :
    Wp (loopX (fun s : Int => bif decide (s < (n : Int)) then body s else some (Sum.inr (Sum.inl ()))) (0 : Int)) Q := by
  refine wp_loop (fun (s : Int) => ∃ i : Nat, s = (i : Int) ∧ i ≤ n ∧ J i) (fun (s : Int) => ((n : Int) - s).toNat) ⟨(0 : Nat), rfl, Nat.zero_le _, h0⟩ ?_
  rintro s ⟨i, hi, hle, hj⟩
  subst hi
  refine wp_bifd ?_ ?_
  · intro hc
    have hlt : i < n := by omega
    refine (step i hlt hj).mono ?_
    intro o ho
    cases o with
    | inl s' =>
      obtain ⟨rfl, h2⟩ := ho
      rw [wrap_i64 (by omega) (by omega)]
      exact ⟨⟨i + 1, by omega, hlt, h2⟩, by omega⟩
    | inr o => exact ho
  · intro hc
    have : i = n := by omega
    subst this
    exact wp_some (e2r (fin hj))

/-- The same where each number must have a property. -/
theorem wp_cntA {n : Nat} {P : Nat → Prop} {body : Int → Option (Int ⊕ (Unit ⊕ ρ))} {Q : Unit ⊕ ρ → Prop} (hl : n < 4611686018427387904)
    (step : ∀ i, i < n → Wp (body (i : Int)) (Either2 (fun s' => s' = IntKind.wrap IntKind.i64 ((i : Int) + 1) ∧ P i) Q)) (fin : (∀ i, i < n → P i) → Q (Sum.inl ())) :
    Wp (loopX (fun s : Int => bif decide (s < (n : Int)) then body s else some (Sum.inr (Sum.inl ()))) (0 : Int)) Q := by
  refine wp_cntL hl (fun i => ∀ j, j < i → P j) (fun j hj => by omega) ?_ fin
  intro i hi hj
  refine (step i hi).mono ?_
  intro o ho
  cases o with
  | inl s' =>
    refine ⟨ho.1, ?_⟩
    intro j hj'
    rcases Nat.lt_or_ge j i with h' | h'
    · exact hj j h'
    · have : j = i := by omega
      subst this
      exact ho.2
  | inr o => exact ho
end

theorem wp_cutP {σ ρ : Type} {m : Option (σ ⊕ ρ)} {K : σ → Option ρ} {Q : ρ → Prop} (P : σ → Prop) (h : Wp m (Either2 P Q)) (hK : ∀ s, P s → Wp (K s) Q) : Wp (cut2 m K) Q := by
  refine wp_cut2 (h.mono ?_)
  intro o ho
  cases o with
  | inl s => exact hK s ho
  | inr r => exact ho

theorem spec_ref8_within (a lo hi : Int) : ref8_within (a, lo, hi, ()) = some (decide (lo ≤ a) && decide (a ≤ hi)) := by
  refine wp_val ?_
  unfold ref8_within
  dsimp only
  refine wp_bind (wp_bif (fun h => wp_some (wp_some ?_)) (fun h => wp_some (wp_some ?_))) <;> (rw [h]; rfl)

theorem spec_ref15_within (a lo hi : Int) : ref15_within (a, lo, hi, ()) = some (decide (lo ≤ a) && decide (a ≤ hi)) := by
  refine wp_val ?_
  unfold ref15_within
  dsimp only
  refine wp_bind (wp_bif (fun h => wp_some (wp_some ?_)) (fun h => wp_some (wp_some ?_))) <;> (rw [h]; rfl)

/-- Two prefixes overlap. -/
def ovB (p q : Ty.El tPrefix) : Bool := (decide (p.2.1 ≤ q.2.1) && contB p q.1) || (decide (q.2.1 ≤ p.2.1) && contB q p.1)

theorem ovB_self (a n : Int) : ovB (netw a n) (netw a n) = true := by
  unfold ovB
  rw [netw_self]
  simp

/-- What holds of an interface, beside those before it. -/
structure IfOne (l : List (Ty.El tIface)) (i : Nat) (x : Ty.El tIface) : Prop where
  name : ∀ j y, j < i → l[j]? = some y → y.1 ≠ x.1
  len : 0 ≤ x.2.2.1 ∧ x.2.2.1 ≤ 32
  addr : x.2.2.1 ≠ 0 → x.2.1 ≠ 0
  ls : x.2.2.2.2.2.1 = true → (0 ≤ x.2.2.2.2.2.2.1 ∧ x.2.2.2.2.2.2.1 ≤ 255) ∧ 1 ≤ x.2.2.2.2.2.2.2.1 ∧ x.2.2.2.2.2.2.2.1 ≤ 65535
  apart : ∀ j y, j < i → l[j]? = some y → x.2.2.1 ≠ 0 → y.2.2.1 ≠ 0 → ovB (netw x.2.1 x.2.2.1) (netw y.2.1 y.2.2.1) = false

def IfsOk (l : List (Ty.El tIface)) : Prop := ∀ i x, l[i]? = some x → IfOne l i x

theorem chk_interfaces (l : List (Ty.El tIface)) (h0 : l.length ≤ 20) : Wp (ref8_interfaces (l, ())) (fun e => e = 0 → IfsOk l ∧ l.length ≤ 8) := by
  unfold ref8_interfaces
  dsimp only
  refine wp_bifd (fun _ => wp_some (fun h => by cases h)) (fun h => ?_)
  refine wp_find (by omega) (fun i => ∀ m x, m < i → l[m]? = some x → IfOne l m x) (fun m x hm => by omega) ?_ (fun hj => wp_some (fun _ => ⟨fun i x hx => hj i x (List.getElem?_eq_some_iff.1 hx).1 hx, by omega⟩))
  intro i x hx hj
  have hi := (List.getElem?_eq_some_iff.1 hx).1
  simp only [idx_nat hx, Option.bind_some]
  refine wp_cut2 (wp_bind ((tot_ref4_Name _).mono (fun b _ => ?_)))
  refine wp_bif (fun _ => wp_some (fun h => by cases h)) (fun _ => ?_)
  refine wp_cut2 (wp_cntA (n := i) (P := fun j => ∀ y, l[j]? = some y → y.1 ≠ x.1) (by omega) ?_ (fun hname => ?_))
  · intro j hjl
    have hy : l[j]? = some l[j] := by simp
    simp only [idx_nat hy, Option.bind_some]
    refine wp_bif (fun _ => wp_some (fun h => by cases h)) (fun hn => wp_some (e2l ⟨rfl, ?_⟩))
    intro y hy'
    rw [hy] at hy'
    cases hy'
    simpa using hn
  · refine e2l (wp_bind ((show Wp _ (fun s : Bool => s = false → 0 ≤ x.2.2.1 ∧ x.2.2.1 ≤ 32) from ?_).mono (fun s hs => ?_)))
    · refine wp_bind (wp_eq (spec_ref8_within _ _ _) (wp_bif (fun _ => wp_some (fun h => by cases h)) (fun h1 => wp_bind (wp_eq (spec_ref8_within _ _ _) (wp_bif (fun _ => wp_some (fun h => by cases h)) (fun _ => wp_bind (wp_eq (spec_ref8_within _ _ _) (wp_some (fun _ => ?_)))))))))
      simpa using h1
    refine wp_bif (fun _ => wp_some (fun h => by cases h)) (fun h1 => ?_)
    have hlen := hs h1
    refine wp_bind ((show Wp _ (fun s : Bool => s = false → x.2.2.1 ≠ 0 → x.2.1 ≠ 0) from ?_).mono (fun s hs => ?_))
    · refine wp_bif (fun hz => ?_) (fun hz => ?_)
      · have hz : x.2.2.1 = 0 := by simpa using hz
        repeat' (first
          | exact wp_some (fun _ hne => absurd hz hne)
          | refine wp_bif (fun _ => ?_) (fun _ => ?_))
      · refine wp_bif (fun _ => wp_some (fun h' _ => by simpa using h')) (fun h' => wp_some (fun _ hne => ?_))
        rw [hz] at *
        exact absurd (show x.2.2.1 = 0 by simpa using h') hne
    refine wp_bif (fun _ => wp_some (fun h => by cases h)) (fun h2 => ?_)
    have haddr := hs h2
    refine wp_bind ((show Wp _ (fun s : Bool => s = false → x.2.2.2.2.2.1 = true → (0 ≤ x.2.2.2.2.2.2.1 ∧ x.2.2.2.2.2.2.1 ≤ 255) ∧ 1 ≤ x.2.2.2.2.2.2.2.1 ∧ x.2.2.2.2.2.2.2.1 ≤ 65535) from ?_).mono (fun s hs => ?_))
    · refine wp_bif (fun hz => ?_) (fun hz => ?_)
      · refine wp_bind (wp_eq (spec_ref8_within _ _ _) (wp_bif (fun _ => wp_some (fun h => by cases h)) (fun h3 => wp_bind (wp_eq (spec_ref8_within _ _ _) (wp_bif (fun _ => wp_some (fun h => by cases h)) (fun h4 => ?_))))))
        have h3 : 0 ≤ x.2.2.2.2.2.2.1 ∧ x.2.2.2.2.2.2.1 ≤ 255 := by simpa using h3
        have h4 : 1 ≤ x.2.2.2.2.2.2.2.1 ∧ x.2.2.2.2.2.2.2.1 ≤ 65535 := by simpa using h4
        repeat' (first
          | exact wp_some (fun _ _ => ⟨h3, h4⟩)
          | refine wp_bif (fun _ => ?_) (fun _ => ?_))
      · repeat' (first
          | exact wp_some (fun _ ht => by rw [hz] at ht; cases ht)
          | refine wp_bif (fun _ => ?_) (fun _ => ?_))
    refine wp_bif (fun _ => wp_some (fun h => by cases h)) (fun h3 => ?_)
    have hls := hs h3
    refine wp_cntA (n := i) (P := fun j => ∀ y, l[j]? = some y → x.2.2.1 ≠ 0 → y.2.2.1 ≠ 0 → ovB (netw x.2.1 x.2.2.1) (netw y.2.1 y.2.2.1) = false) (by omega) ?_ (fun hap => ?_)
    · intro j hjl
      have hy : l[j]? = some l[j] := by simp
      simp only [idx_nat hy, Option.bind_some]
      refine wp_bind ((show Wp _ (fun s : Bool => s = false → x.2.2.1 ≠ 0 → l[j].2.2.1 ≠ 0 → ovB (netw x.2.1 x.2.2.1) (netw l[j].2.1 l[j].2.2.1) = false) from ?_).mono (fun s hs => ?_))
      · refine wp_bif (fun _ => wp_bif (fun _ => ?_) (fun hz => wp_some (fun _ _ hne => ?_))) (fun hz => wp_some (fun _ hne => ?_))
        · exact wp_bind (wp_eq (spec_ref4_Network _ _) (wp_bind (wp_eq (spec_ref4_Network _ _) (wp_bind (wp_eq (spec_ref4_Overlaps _ _) (wp_some (fun h _ _ => h)))))))
        · exact absurd (show l[j].2.2.1 = 0 by simpa using hz) hne
        · exact absurd (show x.2.2.1 = 0 by simpa using hz) hne
      · refine wp_bif (fun _ => wp_some (fun h => by cases h)) (fun hn => wp_some (e2l ⟨rfl, ?_⟩))
        intro y hy'
        rw [hy] at hy'
        cases hy'
        exact hs hn
    · refine e2l (wp_some (e2l ⟨rfl, ?_⟩))
      intro m z hm hz
      rcases Nat.lt_or_ge m i with h' | h'
      · exact hj m z h' hz
      · have : m = i := by omega
        subst this
        rw [hx] at hz
        cases hz
        exact ⟨fun j y hjl hy => hname j hjl y hy, hlen, haddr, hls, fun j y hjl hy => hap j hjl y hy⟩

/-- What holds of a static route. -/
structure StOne (r : Ty.El tRouter) (x : Ty.El tStatic) : Prop where
  pre : validB x.1 = true
  admin : 1 ≤ x.2.2.2.2.1 ∧ x.2.2.2.2.1 ≤ 255
  tag : 0 ≤ x.2.2.2.2.2.1 ∧ x.2.2.2.2.2.1 ≤ 65535
  one : (x.2.1 ≠ 0 ∧ x.2.2.1 = { data := #[] } ∧ x.2.2.2.1 = false) ∨ (x.2.1 = 0 ∧ x.2.2.1 ≠ { data := #[] } ∧ x.2.2.2.1 = false) ∨ (x.2.1 = 0 ∧ x.2.2.1 = { data := #[] } ∧ x.2.2.2.1 = true)
  iface : x.2.2.1 ≠ { data := #[] } → 0 ≤ ifIdx r x.2.2.1

def StsOk (r : Ty.El tRouter) : Prop := ∀ x, x ∈ r.2.2.2.2.2.2.2.1 → StOne r x

theorem chk_statics (r : Ty.El tRouter) (hr : SmR r) : Wp (ref8_statics (r, ())) (fun e => e = 0 → StsOk r) := by
  have hs6 := hr.i6
  unfold ref8_statics
  dsimp only
  refine wp_bifd (fun _ => wp_some (fun h => by cases h)) (fun h => ?_)
  refine wp_all (P := StOne r) (by omega) ?_ (fun hj => wp_some (fun _ => hj))
  intro i x hx
  have hi := (List.getElem?_eq_some_iff.1 hx).1
  simp only [idx_nat hx, Option.bind_some]
  refine wp_cut2 ?_
  have w1 : IntKind.wrap .i64 ((0 : Int) + 1) = 1 := by decide
  have w2 : IntKind.wrap .i64 ((1 : Int) + 1) = 2 := by decide
  have w3 : IntKind.wrap .i64 ((2 : Int) + 1) = 3 := by decide
  refine wp_bind ((show Wp _ (fun k : Int => k = if x.2.1 ≠ 0 then 1 else 0) from ?_).mono (fun k1 hk1 => ?_))
  · refine wp_bif (fun h => wp_some ?_) (fun h => wp_some ?_)
    · rw [w1, if_pos (by simpa using h)]
    · rw [if_neg (by simpa using h)]
  refine wp_bind ((show Wp _ (fun k : Int => k = k1 + if x.2.2.1 ≠ { data := #[] } then 1 else 0) from ?_).mono (fun k2 hk2 => ?_))
  · refine wp_bif (fun h => wp_some ?_) (fun h => wp_some ?_)
    · rw [if_pos (by simpa using h)]
      split at hk1 <;> (subst hk1; first | exact w1 | exact w2)
    · rw [if_neg (by simpa using h)]; omega
  refine wp_bind ((show Wp _ (fun k : Int => k = k2 + if x.2.2.2.1 = true then 1 else 0) from ?_).mono (fun k3 hk3 => ?_))
  · refine wp_bif (fun h => wp_some ?_) (fun h => wp_some ?_)
    · have h : x.2.2.2.1 = true := h
      rw [if_pos h]
      split at hk1 <;> split at hk2 <;> (subst hk1; subst hk2; first | exact w1 | exact w2 | exact w3)
    · have h : x.2.2.2.1 = false := h
      rw [if_neg (by rw [h]; simp)]; omega
  refine wp_bind ((show Wp _ (fun s : Bool => s = false → validB x.1 = true ∧ k3 = 1 ∧ (1 ≤ x.2.2.2.2.1 ∧ x.2.2.2.2.1 ≤ 255) ∧ 0 ≤ x.2.2.2.2.2.1 ∧ x.2.2.2.2.2.1 ≤ 65535) from ?_).mono (fun s hs => ?_))
  · refine wp_bind (wp_eq (spec_ref4_Valid _) (wp_bif (fun _ => wp_some (fun h => by cases h)) (fun h1 => wp_bif (fun _ => wp_some (fun h => by cases h)) (fun h2 => ?_))))
    have h1 : validB x.1 = true := by simpa using h1
    have h2 : k3 = 1 := by simpa using h2
    refine wp_bif (fun _ => wp_bind ((tot_ref8_Address r x.2.1 hr).mono (fun k _ => wp_bifd (fun _ => wp_some (fun h => by cases h)) (fun _ => ?_)))) (fun _ => ?_)
    all_goals
      refine wp_bind (wp_eq (spec_ref8_within _ _ _) (wp_bif (fun _ => wp_some (fun h => by cases h)) (fun h3 => wp_bind (wp_eq (spec_ref8_within _ _ _) (wp_some (fun h4 => ⟨h1, h2, ?_, ?_⟩))))))
      · simpa using h3
      · simpa using h4
  refine wp_bif (fun _ => wp_some (fun h => by cases h)) (fun h1 => ?_)
  obtain ⟨g1, g2, g3, g4⟩ := hs h1
  refine wp_cutP (fun _ : Unit => x.2.2.1 ≠ { data := #[] } → 0 ≤ ifIdx r x.2.2.1) ?_ (fun _ hif => ?_)
  · refine wp_bif (fun hne => ?_) (fun hne => wp_some (e2l (fun h => absurd h (by simpa using hne))))
    refine wp_bind ((spec_ref8_Interface r _ hr).mono (fun k hk => ?_))
    subst hk
    refine wp_bifd (fun _ => wp_some (fun h => by cases h)) (fun hk => ?_)
    have hk0 : 0 ≤ ifIdx r x.2.2.1 := Int.not_lt.1 hk
    obtain ⟨y, hy, _⟩ := fidx_lt (p := fun x' : Ty.El tIface => x'.1 == x.2.2.1) (xs := r.2.2.1) hk0
    refine wp_bind (wp_eq (idx_int hk0 hy) (wp_bif (fun _ => wp_some (fun h => by cases h)) (fun _ => wp_some (e2l (fun _ => hk0)))))
  · refine wp_cntA (n := i) (P := fun _ => True) (by omega) ?_ (fun _ => e2l (wp_some (e2l ⟨rfl, g1, g3, g4, ?_, hif⟩)))
    · intro j hjl
      have hy : r.2.2.2.2.2.2.2.1[j]? = some r.2.2.2.2.2.2.2.1[j] := by simp
      simp only [idx_nat hy, Option.bind_some]
      refine wp_bind ((show Wp _ (fun _ : Bool => True) from ?_).mono (fun s _ => wp_bif (fun _ => wp_some (fun h => by cases h)) (fun _ => wp_some (e2l ⟨rfl, trivial⟩))))
      exact wp_bif (fun _ => wp_some trivial) (fun _ => wp_some trivial)
    · rw [hk3, hk2, hk1] at g2
      by_cases c1 : x.2.1 = 0 <;> by_cases c2 : x.2.2.1 = { data := #[] } <;> cases c3 : x.2.2.2.1 <;> simp [c1, c2, c3] at g2 ⊢
end Go.Ve

namespace Go.Ve
open Go
set_option maxRecDepth 1000000
set_option maxHeartbeats 4000000

/-- The index of the interface with an address, or -1. -/
def adIdx (r : Ty.El tRouter) (a : Int) : Int := fidx (fun x : Ty.El tIface => x.2.2.1 != 0 && x.2.1 == a) r.2.2.1

theorem spec_ref8_Address (r : Ty.El tRouter) (a : Int) (hr : SmR r) : Wp (ref8_Address (r, a, ())) (fun k => k = adIdx r a) := by
  unfold ref8_Address
  dsimp only
  have := hr.i1
  refine wp_fidx (p := fun x : Ty.El tIface => x.2.2.1 != 0 && x.2.1 == a) (by omega) ?_ rfl
  intro i x hx
  simp only [idx_nat hx, Option.bind_some]
  cases x.2.2.1 != 0 <;> cases x.2.1 == a <;> rfl

/-- What holds of a checked router. -/
structure RtOk (r : Ty.El tRouter) : Prop where
  asn : 0 ≤ r.2.1 ∧ r.2.1 ≤ 65535
  ifs : IfsOk r.2.2.1
  sts : StsOk r
  lists : ref8_prefixLists (r.2.2.2.1, ()) = some 0
  maps : ref8_routeMaps (r, ()) = some 0
  acls : ref8_accessLists (r.2.2.2.2.2.1, ()) = some 0
  nat : ref8_translations (r, ()) = some 0
  filters : ref8_filters (r, ()) = some 0
  ls : ref8_linkState (r, ()) = some 0
  dv : ref8_distance (r, ()) = some 0
  pv : ref8_pathVector (r, ()) = some 0
  ifl : r.2.2.1.length ≤ 8

theorem chk_CheckRouter (r : Ty.El tRouter) (hr : SmR r) : Wp (ref8_CheckRouter (r, ())) (fun e => e = 0 → RtOk r) := by
  have hr0 := hr
  obtain ⟨i1, i2, i3, i4, i5, i6, i7, i8, i9, i10, i11, i12, i13, i14, n1, n2, n3⟩ := hr0
  unfold ref8_CheckRouter
  dsimp only
  refine wp_bind ((tot_ref4_Name _).mono (fun b _ => ?_))
  refine wp_bif (fun _ => wp_some (fun h => by cases h)) (fun _ => ?_)
  refine wp_bind (wp_eq (spec_ref8_within _ _ _) (wp_bif (fun _ => wp_some (fun h => by cases h)) (fun has => ?_)))
  have has : 0 ≤ r.2.1 ∧ r.2.1 ≤ 65535 := by simpa using has
  refine wp_bind ((chk_interfaces _ i1).mono (fun y12 h12 => ?_))
  refine wp_bindT ((tot_ref8_prefixLists _ i2 n1).mono (fun _ _ => trivial)) (fun y13 h13 => ?_)
  refine wp_bindT ((tot_ref8_routeMaps _ hr).mono (fun _ _ => trivial)) (fun y14 h14 => ?_)
  refine wp_bindT ((tot_ref8_accessLists _ i4 n3).mono (fun _ _ => trivial)) (fun y15 h15 => ?_)
  refine wp_bindT ((tot_ref8_translations _ hr).mono (fun _ _ => trivial)) (fun y16 h16 => ?_)
  refine wp_bindT ((tot_ref8_filters _ hr).mono (fun _ _ => trivial)) (fun y17 h17 => ?_)
  refine wp_bind ((chk_statics _ hr).mono (fun y18 h18 => ?_))
  refine wp_bindT ((tot_ref8_linkState _ hr).mono (fun _ _ => trivial)) (fun y19 h19 => ?_)
  refine wp_bindT ((tot_ref8_distance _ hr).mono (fun _ _ => trivial)) (fun y20 h20 => ?_)
  refine wp_bindT ((tot_ref8_pathVector _ hr).mono (fun _ _ => trivial)) (fun y21 h21 => ?_)
  refine wp_all (P := fun x : Int => x = 0) (xs := [y12, y13, y14, y15, y16, y17, y18, y19, y20, y21]) (by simp) ?_ (fun hall => wp_some (fun _ => ?_))
  · intro i x hx
    simp only [idx_nat hx, Option.bind_some]
    refine wp_bif (fun hne => wp_some (fun h => ?_)) (fun h => wp_some (e2l ⟨rfl, by simpa using h⟩))
    have h : x = 0 := h
    rw [h] at hne
    cases hne
  · have e12 := hall y12 (by simp)
    have e13 := hall y13 (by simp)
    have e14 := hall y14 (by simp)
    have e15 := hall y15 (by simp)
    have e16 := hall y16 (by simp)
    have e17 := hall y17 (by simp)
    have e18 := hall y18 (by simp)
    have e19 := hall y19 (by simp)
    have e20 := hall y20 (by simp)
    have e21 := hall y21 (by simp)
    exact ⟨has, (h12 e12).1, h18 e18, e13 ▸ h13, e14 ▸ h14, e15 ▸ h15, e16 ▸ h16, e17 ▸ h17, e19 ▸ h19, e20 ▸ h20, e21 ▸ h21, (h12 e12).2⟩

/-- What holds of a checked network. -/
structure NetOk (n : Ty.El tNetwork) : Prop where
  len : n.1.length ≤ 8
  rt : ∀ r, r ∈ n.1 → RtOk r
  name : ∀ (i j : Nat) r q, j < i → n.1[i]? = some r → n.1[j]? = some q → q.1 ≠ r.1
  addr : ∀ (i j : Nat) r q, i ≠ j → n.1[i]? = some r → n.1[j]? = some q → ∀ x y, x ∈ r.2.2.1 → y ∈ q.2.2.1 → x.2.2.1 ≠ 0 → y.2.2.1 ≠ 0 → x.2.1 ≠ y.2.1

theorem chk_Check (n : Ty.El tNetwork) (hs : ∀ y, y ∈ n.1 → SmR y) : Wp (ref8_Check (n, ())) (fun e => e = 0 → NetOk n) := by
  unfold ref8_Check
  dsimp only
  refine wp_bifd (fun _ => wp_some (fun h => by cases h)) (fun hl => ?_)
  refine wp_find (by omega) (fun i => ∀ m r, m < i → n.1[m]? = some r → RtOk r ∧ (∀ j q, j < m → n.1[j]? = some q → q.1 ≠ r.1 ∧ ∀ x y, x ∈ r.2.2.1 → y ∈ q.2.2.1 → x.2.2.1 ≠ 0 → y.2.2.1 ≠ 0 → x.2.1 ≠ y.2.1)) (fun m x hm => by omega) ?_ (fun hj => wp_some (fun _ => ?_))
  · intro i r hr hj
    have hi := (List.getElem?_eq_some_iff.1 hr).1
    have hsm := hs r (List.mem_of_getElem? hr)
    have hs1 := hsm.i1
    simp only [idx_nat hr, Option.bind_some]
    refine wp_cut2 (wp_bind ((chk_CheckRouter r hsm).mono (fun e he => ?_)))
    refine wp_bif (fun hne => wp_some (fun h => ?_)) (fun h => ?_)
    · have h : e = 0 := h
      rw [h] at hne
      cases hne
    have hrt := he (by simpa using h)
    refine wp_cut2 (wp_cntA (n := i) (P := fun j => ∀ q, n.1[j]? = some q → q.1 ≠ r.1) (by omega) ?_ (fun hname => ?_))
    · intro j hjl
      have hq : n.1[j]? = some n.1[j] := by simp
      simp only [idx_nat hq, Option.bind_some]
      refine wp_bif (fun _ => wp_some (fun h => by cases h)) (fun hn => wp_some (e2l ⟨rfl, ?_⟩))
      intro q hq'
      rw [hq] at hq'
      cases hq'
      simpa using hn
    refine e2l (wp_allL (P := fun x : Ty.El tIface => ∀ j q, j < i → n.1[j]? = some q → ∀ y, y ∈ q.2.2.1 → x.2.2.1 ≠ 0 → y.2.2.1 ≠ 0 → x.2.1 ≠ y.2.1) (by omega) ?_ (fun hall => ?_))
    · intro k x hx
      simp only [idx_nat hx, Option.bind_some]
      refine wp_cut2 (wp_cntA (n := i) (P := fun j => ∀ q, n.1[j]? = some q → ∀ y, y ∈ q.2.2.1 → x.2.2.1 ≠ 0 → y.2.2.1 ≠ 0 → x.2.1 ≠ y.2.1) (by omega) ?_ (fun hall => e2l (wp_some (e2l ⟨rfl, fun j q hjl hq => hall j hjl q hq⟩))))
      intro j hjl
      have hq : n.1[j]? = some n.1[j] := by simp
      simp only [idx_nat hq, Option.bind_some]
      refine wp_bind ((show Wp _ (fun s : Bool => s = false → ∀ y, y ∈ n.1[j].2.2.1 → x.2.2.1 ≠ 0 → y.2.2.1 ≠ 0 → x.2.1 ≠ y.2.1) from ?_).mono (fun s hs' => ?_))
      · refine wp_bif (fun _ => wp_bind ((spec_ref8_Address _ _ (hs _ (List.getElem_mem _))).mono (fun k hk => wp_some ?_))) (fun hz => wp_some (fun _ y _ hne => absurd (show x.2.2.1 = 0 by simpa using hz) hne))
        subst hk
        intro hlt y hy _ hyz hxy
        have hlt : ¬ (adIdx n.1[j] x.2.1 ≥ 0) := of_decide_eq_false hlt
        apply hlt
        unfold adIdx
        rw [fidx_nonneg]
        refine List.any_eq_true.2 ⟨y, hy, ?_⟩
        have h1 : (y.2.2.1 != 0) = true := by simpa using hyz
        have h2 : (y.2.1 == x.2.1) = true := beq_iff_eq.2 hxy.symm
        rw [h1, h2]; rfl
      · refine wp_bif (fun _ => wp_some ⟨(fun u h => by cases h), (fun h => by cases h)⟩) (fun hn => wp_some (e2l ⟨rfl, ?_⟩))
        intro q hq'
        rw [hq] at hq'
        cases hq'
        exact hs' hn
    · refine e2l (wp_some (e2l ⟨rfl, ?_⟩))
      intro m z hm hz
      rcases Nat.lt_or_ge m i with h' | h'
      · exact hj m z h' hz
      · have : m = i := by omega
        subst this
        rw [hr] at hz
        cases hz
        exact ⟨hrt, fun j q hjl hq => ⟨hname j hjl q hq, fun x y hx hy => hall x hx j q hjl hq y hy⟩⟩
  · have hall : ∀ m r, n.1[m]? = some r → _ := fun m r hr => hj m r (List.getElem?_eq_some_iff.1 hr).1 hr
    refine ⟨by omega, ?_, ?_, ?_⟩
    · intro r hr
      obtain ⟨m, hm, rfl⟩ := List.getElem_of_mem hr
      exact (hall m _ (by simp [hm])).1
    · intro i j r q hji hr hq
      exact ((hall i r hr).2 j q hji hq).1
    · intro i j r q hne hr hq x y hx hy hx0 hy0
      rcases Nat.lt_or_ge j i with h' | h'
      · exact ((hall i r hr).2 j q h' hq).2 x y hx hy hx0 hy0
      · exact fun h => ((hall j q hq).2 i r (by omega) hr).2 y x hy hx hy0 hx0 h.symm

theorem net_ok {n : Ty.El tNetwork} {d : List Int} {v : Ty.El tView} (h : ViewOk n d v) : NetOk n := by
  obtain ⟨e, h1, h2⟩ := chk_Check n h.sm
  have h3 := h.chk
  rw [h1] at h3
  exact h2 (Option.some.inj h3)
end Go.Ve

namespace Go.Ve
open Go
set_option maxRecDepth 1000000
set_option maxHeartbeats 4000000

def pltI (a b c d : Int) : Prop := a < c ∨ (a = c ∧ b < d)

/-- The order of prefixes. -/
def plt (p q : Ty.El tPrefix) : Prop := pltI p.1 p.2.1 q.1 q.2.1

theorem plt_ord : Ord plt where
  asym := fun x y h => by unfold plt pltI at *; omega
  tr := fun x y z h1 h2 => by unfold plt pltI at *; omega

def rlt (x y : Ty.El tRoute) : Prop := plt x.1 y.1

theorem rlt_ord : Ord rlt where
  asym := fun x y h => plt_ord.asym _ _ h
  tr := fun x y z h1 h2 => plt_ord.tr _ _ _ h1 h2

theorem pltI_or {a b c d : Int} (h : ¬ pltI c d a b) (hne : ¬ (a = c ∧ b = d)) : pltI a b c d := by
  unfold pltI at *
  omega

theorem plt_or {p q : Ty.El tPrefix} (h : ¬ plt q p) (hne : p ≠ q) : plt p q := by
  refine pltI_or h (fun e => hne ?_)
  obtain ⟨a, b, ⟨⟩⟩ := p
  obtain ⟨c, d, ⟨⟩⟩ := q
  obtain ⟨rfl, rfl⟩ := e
  rfl

def cmpI (a b c d : Int) : Int := if a < c then -1 else if c < a then 1 else if b < d then -1 else if d < b then 1 else 0

def cmpP (p q : Ty.El tPrefix) : Int := cmpI p.1 p.2.1 q.1 q.2.1

theorem cmpI_lt {a b c d : Int} : cmpI a b c d < 0 ↔ pltI a b c d := by
  unfold cmpI pltI
  split
  · omega
  · split
    · omega
    · split
      · omega
      · split <;> omega

theorem cmpP_lt {p q : Ty.El tPrefix} : cmpP p q < 0 ↔ plt p q := cmpI_lt

theorem spec_cmp_u (a b : Int) : cmp_Compare_uint32 (a, b, ()) = some (if a < b then -1 else if b < a then 1 else 0) := by
  refine wp_val ?_
  unfold cmp_Compare_uint32 cmp_isNaN_uint32
  simp only [Option.bind_some, bne_self_eq_false, cond_false]
  refine wp_bifd (fun h => wp_some ?_) (fun h => wp_bifd (fun h' => wp_some ?_) (fun h' => wp_some ?_))
  · rw [if_pos h]
  · rw [if_neg h, if_pos h']
  · rw [if_neg h, if_neg h']

theorem spec_cmp_i (a b : Int) : cmp_Compare_int (a, b, ()) = some (if a < b then -1 else if b < a then 1 else 0) := by
  refine wp_val ?_
  unfold cmp_Compare_int cmp_isNaN_int
  simp only [Option.bind_some, bne_self_eq_false, cond_false]
  refine wp_bifd (fun h => wp_some ?_) (fun h => wp_bifd (fun h' => wp_some ?_) (fun h' => wp_some ?_))
  · rw [if_pos h]
  · rw [if_neg h, if_pos h']
  · rw [if_neg h, if_neg h']

theorem cmp_two {a b c d : Int} : (if ((if a < c then (-1 : Int) else if c < a then 1 else 0) != 0) = true then (if a < c then (-1 : Int) else if c < a then 1 else 0) else (if b < d then (-1 : Int) else if d < b then 1 else 0)) = cmpI a b c d := by
  unfold cmpI
  by_cases h1 : a < c
  · simp [h1]
  · by_cases h2 : c < a
    · simp [h1, h2]
    · simp [h1, h2]

theorem spec_addr_Compare (p q : Ty.El tPrefix) : addr_Compare (p, q, ()) = some (cmpP p q) := by
  refine wp_val ?_
  unfold addr_Compare
  dsimp only
  refine wp_bind (wp_eq (spec_cmp_u _ _) (wp_bif (fun h => wp_some ?_) (fun h => wp_bind (wp_eq (spec_cmp_i _ _) (wp_some ?_)))))
  · have := cmp_two (a := p.1) (b := p.2.1) (c := q.1) (d := q.2.1)
    rw [if_pos h] at this
    exact this
  · have := cmp_two (a := p.1) (b := p.2.1) (c := q.1) (d := q.2.1)
    rw [if_neg (by rw [h]; simp)] at this
    exact this

theorem cmpI_m {a b c d : Int} (h : pltI a b c d) : -1 = cmpI a b c d := by
  unfold cmpI; unfold pltI at h
  by_cases h1 : a < c
  · rw [if_pos h1]
  · rw [if_neg h1, if_neg (by omega), if_pos (by omega)]

theorem cmpI_z {a b : Int} : 0 = cmpI a b a b := by
  unfold cmpI
  rw [if_neg (by omega), if_neg (by omega), if_neg (by omega), if_neg (by omega)]

theorem cmpI_p {a b c d : Int} (h : ¬ pltI a b c d) (hne : ¬ (a = c ∧ b = d)) : 1 = cmpI a b c d := by
  unfold cmpI; unfold pltI at h
  rw [if_neg (by omega)]
  by_cases h1 : c < a
  · rw [if_pos h1]
  · rw [if_neg h1, if_neg (by omega), if_pos (by omega)]

theorem spec_ref4_Compare (p q : Ty.El tPrefix) : ref4_Compare (p, q, ()) = some (cmpP p q) := by
  refine wp_val ?_
  unfold ref4_Compare
  dsimp only
  refine wp_bind ((show Wp _ (fun s : Bool => s = true ↔ plt p q) from ?_).mono (fun s hs => ?_))
  · refine wp_bifd (fun h => wp_some ⟨fun _ => .inl h, fun _ => rfl⟩) (fun h => wp_bif (fun h' => wp_some ?_) (fun h' => wp_some ?_))
    · have h' : p.1 = q.1 := by simpa using h'
      rw [decide_eq_true_eq]
      constructor
      · intro h2; exact .inr ⟨h', h2⟩
      · intro h2
        rcases h2 with h2 | h2
        · exact absurd h2 h
        · exact h2.2
    · have h' : ¬ p.1 = q.1 := by simpa using h'
      constructor
      · intro h2; cases h2
      · intro h2
        exfalso
        rcases h2 with h2 | h2
        · exact h h2
        · exact h' h2.1
  · refine wp_bif (fun h => wp_some (cmpI_m (hs.1 h))) (fun h => wp_bif (fun he => wp_some ?_) (fun he => wp_some (cmpI_p ?_ ?_)))
    · have := pre_eq he
      subst this
      exact cmpI_z
    · exact fun hp => by rw [hs.2 hp] at h; cases h
    · intro e
      have h1 : (p.fst == q.fst) = true := by simpa using e.1
      have h2 : (p.snd.fst == q.snd.fst) = true := by simpa using e.2
      rw [h1, h2] at he
      cases he

theorem spec_insertion (a0 : List (Ty.El tRoute)) (hl : a0.length ≤ 1000) :
    Wp (slices_insertionSortCmpFunc_Route a0 ((0 : Int), (a0.length : Int), (), ())) (fun r => r.1.Perm a0 ∧ r.1.Pairwise (fun x y => ¬ rlt y x)) := by
  unfold slices_insertionSortCmpFunc_Route
  dsimp only
  rw [wrap_i64 (by omega) (by omega)]
  refine wp_loop (fun s : Int × List (Ty.El tRoute) => s.2.Perm a0 ∧ ∃ i : Nat, s.1 = (i : Int) ∧ 1 ≤ i ∧ (i ≤ a0.length ∨ i = 1) ∧ SortTo rlt i s.2) (fun s => ((a0.length : Int) - s.1).toNat)
    ⟨List.Perm.refl _, 1, rfl, Nat.le_refl _, .inr rfl, fun p q x y h1 h2 => by omega⟩ ?_
  rintro ⟨s, xs⟩ ⟨hp, i, hi, hi1, hi2, hso⟩
  simp only at hi hp hso
  subst hi
  have hlen : xs.length = a0.length := hp.length_eq
  refine wp_bifd (fun hlt => ?_) (fun hge => ?_)
  · have hlt : (i : Int) < (a0.length : Int) := hlt
    refine wp_bind ((show Wp _ (fun ys : List (Ty.El tRoute) => ys.Perm a0 ∧ SortTo rlt (i + 1) ys) from ?_).mono (fun ys hys => wp_some (e2l ⟨⟨hys.1, i + 1, ?_, by omega, .inl (by omega), hys.2⟩, ?_⟩)))
    · refine wp_loop (fun s : Int × List (Ty.El tRoute) => s.2.Perm a0 ∧ ∃ j : Nat, s.1 = (j : Int) ∧ j ≤ i ∧ SortEx rlt i j s.2) (fun s => s.1.toNat) ⟨hp, i, rfl, Nat.le_refl _, sort_start hso⟩ ?_
      rintro ⟨s, ys⟩ ⟨hyp, j, hj, hji, hex⟩
      simp only at hj hyp hex
      subst hj
      have hyl : ys.length = a0.length := hyp.length_eq
      refine wp_bind ((show Wp _ (fun b : Bool × List (Ty.El tRoute) => b.2 = ys ∧ (b.1 = true → 0 < j ∧ ∀ x y, ys[j]? = some x → ys[j - 1]? = some y → rlt x y) ∧ (b.1 = false → j = 0 ∨ ∀ x y, ys[j]? = some x → ys[j - 1]? = some y → ¬ rlt x y)) from ?_).mono ?_)
      · refine wp_bifd (fun hj0 => ?_) (fun hj0 => wp_some ⟨rfl, (fun h => by cases h), fun _ => .inl ?_⟩)
        · have hj0 : (j : Int) > 0 := hj0
          have hy1 : ys[j]? = some (ys[j]'(by omega)) := by simp
          have hy2 : ys[j - 1]? = some (ys[j - 1]'(by omega)) := by simp
          dsimp only
          rw [wrap_i64 (by omega) (by omega), show ((j : Int) - 1) = ((j - 1 : Nat) : Int) by omega]
          simp only [idx_nat hy1, idx_nat hy2, Int.toNat_natCast, atN_of hy1, atN_of hy2, Option.bind_some]
          unfold static_Connected_c1
          dsimp only
          refine wp_bind (wp_bind (wp_eq (spec_addr_Compare _ _) (wp_some (wp_some ⟨rfl, fun h => ⟨by omega, ?_⟩, fun h => .inr ?_⟩))))
          · intro x y hx hy
            rw [hy1] at hx; rw [hy2] at hy
            cases hx; cases hy
            exact cmpP_lt.1 (of_decide_eq_true h)
          · intro x y hx hy
            rw [hy1] at hx; rw [hy2] at hy
            cases hx; cases hy
            exact fun hh => (of_decide_eq_false h) (cmpP_lt.2 hh)
        · have hj0 : ¬ (j : Int) > 0 := hj0
          omega
      · rintro ⟨b, zs⟩ ⟨hz, ht, hf⟩
        simp only at hz ht hf
        subst hz
        refine wp_bif (fun hb => ?_) (fun hb => wp_some (e2r ⟨hyp, sort_stop rlt_ord hex hji (hf hb)⟩))
        obtain ⟨hj0, hlt2⟩ := ht hb
        have hy1 : zs[j]? = some (zs[j]'(by omega)) := by simp
        have hy2 : zs[j - 1]? = some (zs[j - 1]'(by omega)) := by simp
        have hy3 : (zs.set j (zs[j - 1]'(by omega)))[j - 1]? = some (zs[j - 1]'(by omega)) := by
          rw [List.getElem?_set_ne (by omega)]; exact hy2
        dsimp only
        rw [wrap_i64 (by omega) (by omega), show ((j : Int) - 1) = ((j - 1 : Nat) : Int) by omega]
        simp only [idx_nat hy1, idx_nat hy2, Int.toNat_natCast, atN_of hy1, atN_of hy2, Option.bind_some, idx_nat hy3, atN_of hy3]
        refine wp_some (e2l ⟨⟨?_, j - 1, rfl, by omega, sort_swap rlt_ord hex hj0 hji (by omega) (hlt2 _ _ hy1 hy2)⟩, ?_⟩)
        · exact (List.set_set_perm (as := zs) (i := j) (j := j - 1) (by omega) (by omega)).trans hyp
        · simp only; omega
    · simp only; rw [wrap_i64 (by omega) (by omega)]; omega
    · simp only; rw [wrap_i64 (by omega) (by omega)]; omega
  · have hge : ¬ (i : Int) < (a0.length : Int) := hge
    refine wp_map (wp_bif (fun _ => wp_some (e2r ⟨hp, ?_⟩)) (fun h => ?_))
    · have hiL : xs.length ≤ i := by omega
      exact sort_pair (xs := xs) (fun p q x y h1 h2 => hso p q x y h1 (Nat.lt_of_lt_of_le h2 hiL))
    · rw [hlen, Nat.beq_refl] at h
      cases h
end Go.Ve

namespace Go.Ve
open Go
set_option maxRecDepth 1000000
set_option maxHeartbeats 4000000

/-- The numbers by which a route is preferred. -/
def rankT (x : Ty.El tRoute) : Int × Int × Int × Int × Int × Int × Int :=
  bif x.2.1 == (3 : Int) then (x.2.2.1, x.2.2.2.2.1, x.2.2.2.2.2.1, x.2.2.2.2.2.2.1, (0 : Int), (0 : Int), (0 : Int))
  else bif x.2.1 == (4 : Int) then (x.2.2.2.2.1, x.2.2.1, x.2.2.2.2.2.2.1, (0 : Int), (0 : Int), (0 : Int), (0 : Int))
  else bif x.2.1 == (5 : Int) then (if (3 : Int) < x.2.2.1 then (3 : Int) else x.2.2.1, IntKind.wrap IntKind.i64 ((1000000 : Int) - x.2.2.2.2.2.2.2.1), (x.2.2.2.2.2.2.2.2.1.length : Int), x.2.2.2.2.1, x.2.2.1, IntKind.wrap IntKind.i64 x.2.2.2.2.2.2.2.2.2.1, (0 : Int))
  else (x.2.2.2.1, (0 : Int), (0 : Int), (0 : Int), (0 : Int), (0 : Int), (0 : Int))

def cmpL : List (Int × Int) → Int
  | [] => 0
  | (a, b) :: r => if a < b then -1 else if b < a then 1 else cmpL r

def prefI (x y : Ty.El tRoute) : Int :=
  cmpL [((rankT x).1, (rankT y).1), ((rankT x).2.1, (rankT y).2.1), ((rankT x).2.2.1, (rankT y).2.2.1), ((rankT x).2.2.2.1, (rankT y).2.2.2.1), ((rankT x).2.2.2.2.1, (rankT y).2.2.2.2.1), ((rankT x).2.2.2.2.2.1, (rankT y).2.2.2.2.2.1), ((rankT x).2.2.2.2.2.2, (rankT y).2.2.2.2.2.2)]

theorem spec_ref15_rank (x : Ty.El tRoute) : ref15_rank (x, ()) = some ((rankT x).1, (rankT x).2.1, (rankT x).2.2.1, (rankT x).2.2.2.1, (rankT x).2.2.2.2.1, (rankT x).2.2.2.2.2.1, (rankT x).2.2.2.2.2.2, ()) := by
  unfold ref15_rank rankT
  dsimp only
  cases x.2.1 == (3 : Int) <;> cases x.2.1 == (4 : Int) <;> cases x.2.1 == (5 : Int) <;> rfl

theorem wp_cmpL {a b : Int} {r : List (Int × Int)} {m : Option (Unit ⊕ Int)} (h : Wp m (Either2 (fun _ => cmpL r = 0) (fun k => k = cmpL r ∧ k ≠ 0))) :
    Wp (bif decide (a < b) then some (Sum.inr (-1 : Int)) else bif decide (a > b) then some (Sum.inr (1 : Int)) else m) (Either2 (fun _ => cmpL ((a, b) :: r) = 0) (fun k => k = cmpL ((a, b) :: r) ∧ k ≠ 0)) := by
  refine wp_bifd (fun h1 => wp_some (e2r ⟨?_, by omega⟩)) (fun h1 => wp_bifd (fun h2 => wp_some (e2r ⟨?_, by omega⟩)) (fun h2 => ?_))
  · simp only [cmpL, if_pos h1]
  · simp only [cmpL, if_neg h1, if_pos h2]
  · have : cmpL ((a, b) :: r) = cmpL r := by
      simp only [cmpL]
      rw [if_neg h1, if_neg h2]
    rw [this]
    exact h

theorem spec_ref15_Prefer (x y : Ty.El tRoute) : ref15_Prefer (x, y, ()) = some (prefI x y) := by
  refine wp_val ?_
  unfold ref15_Prefer
  dsimp only
  refine wp_bind (wp_eq (spec_ref15_rank x) (wp_bind (wp_eq (spec_ref15_rank y) ?_)))
  refine wp_cut2 (Wp.mono (Q := Either2 (fun _ => prefI x y = 0) (fun k => k = prefI x y ∧ k ≠ 0)) ?_ ?_)
  · unfold prefI
    exact wp_cmpL (wp_cmpL (wp_cmpL (wp_cmpL (wp_cmpL (wp_cmpL (wp_cmpL (wp_some rfl)))))))
  · intro o ho
    cases o with
    | inl u => exact wp_some ho.symm
    | inr k => exact ho.1

theorem cmpL_self (l : List Int) : cmpL (l.map (fun a => (a, a))) = 0 := by
  induction l with
  | nil => rfl
  | cons a l ih =>
    simp only [List.map_cons, cmpL]
    rw [if_neg (by omega), if_neg (by omega)]
    exact ih

theorem prefI_self (x : Ty.El tRoute) : prefI x x = 0 := cmpL_self [(rankT x).1, (rankT x).2.1, (rankT x).2.2.1, (rankT x).2.2.2.1, (rankT x).2.2.2.2.1, (rankT x).2.2.2.2.2.1, (rankT x).2.2.2.2.2.2]

section
variable {α : Type} {lt eq : α → α → Bool}

/-- Put into an ordered list, where it is not there. -/
def insG (lt eq : α → α → Bool) (h : α) : List α → List α
  | [] => [h]
  | x :: r => bif lt x h then x :: insG lt eq h r else bif eq x h then x :: r else h :: x :: r

theorem insG_at {h : α} : ∀ {l : List α} {k : Nat}, k ≤ l.length → (∀ j x, j < k → l[j]? = some x → lt x h = true) → (∀ x, l[k]? = some x → lt x h = false) →
    insG lt eq h l = if (∃ x, l[k]? = some x ∧ eq x h = true) then l else l.take k ++ [h] ++ l.drop k
  | [], k, hk, _, _ => by
    have : k = 0 := by simpa using hk
    subst this
    simp [insG]
  | x :: r, 0, _, _, h2 => by
    have hx := h2 x rfl
    simp only [insG, hx, cond_false]
    cases he : eq x h with
    | true => simp [he]
    | false => simp [he]
  | x :: r, k + 1, hk, h1, h2 => by
    have hx := h1 0 x (by omega) rfl
    have ih := insG_at (l := r) (k := k) (by simpa using hk) (fun j y hj hy => h1 (j + 1) y (by omega) (by simpa using hy)) (fun y hy => h2 y (by simpa using hy))
    simp only [insG, hx, cond_true, ih, List.getElem?_cons_succ, List.take_succ_cons, List.drop_succ_cons, List.cons_append]
    split <;> rfl

theorem insG_mem (heq : ∀ x y, eq x y = true ↔ x = y) {h z : α} : ∀ {l : List α}, z ∈ insG lt eq h l ↔ z ∈ l ∨ z = h
  | [] => by simp [insG]
  | x :: r => by
    simp only [insG]
    cases lt x h with
    | true => simp only [cond_true, List.mem_cons, insG_mem heq (l := r)]; exact or_assoc.symm
    | false =>
      simp only [cond_false]
      cases he : eq x h with
      | true =>
        have := (heq x h).1 he
        subst this
        simp only [cond_true, List.mem_cons]
        exact ⟨fun h => .inl h, fun h => h.elim id .inl⟩
      | false => simp only [cond_false, List.mem_cons]; exact ⟨fun h => h.elim .inr .inl, fun h => h.elim .inr .inl⟩

theorem insG_sorted {R : α → α → Prop} (ho : Ord R) (hlt : ∀ x y, lt x y = true ↔ R x y) (heq : ∀ x y, eq x y = true ↔ x = y) (htot : ∀ x y, ¬ R x y → x ≠ y → R y x) {h : α} : ∀ {l : List α}, l.Pairwise R → (insG lt eq h l).Pairwise R
  | [], _ => by simp [insG]
  | x :: r, hp => by
    rw [List.pairwise_cons] at hp
    simp only [insG]
    cases hx : lt x h with
    | true =>
      simp only [cond_true]
      rw [List.pairwise_cons]
      refine ⟨fun z hz => ?_, insG_sorted ho hlt heq htot hp.2⟩
      rcases (insG_mem heq).1 hz with hz | rfl
      · exact hp.1 z hz
      · exact (hlt _ _).1 hx
    | false =>
      simp only [cond_false]
      have hn : ¬ R x h := fun hh => by rw [(hlt _ _).2 hh] at hx; cases hx
      cases he : eq x h with
      | true => simp only [cond_true]; rw [List.pairwise_cons]; exact hp
      | false =>
        simp only [cond_false]
        have hne : x ≠ h := fun e => by rw [(heq _ _).2 e] at he; cases he
        have hr := htot _ _ hn hne
        have tr : ∀ z, R x z → R h z := by
          intro z hz
          exact Classical.byContradiction (fun hnz => ho.tr x z h (ho.asym _ _ hz) hnz hr)
        rw [List.pairwise_cons, List.pairwise_cons]
        refine ⟨fun z hz => ?_, hp⟩
        rcases List.mem_cons.1 hz with rfl | hz
        · exact hr
        · exact tr z (hp.1 z hz)
end
end Go.Ve

namespace Go.Ve
open Go
set_option maxRecDepth 1000000
set_option maxHeartbeats 4000000

/-- What becomes of a static route. -/
noncomputable def act (v : Ty.El tView) (t : List (Ty.El tRoute)) (r : Int) (rt : Ty.El tRouter) (x : Ty.El tStatic) : Option (Ty.El tRoute) :=
  bif x.2.1 != (0 : Int) then match resolveR t x.1 x.2.1 with
    | none => none
    | some y => bif y.2.2.2.2.2.2.2.2.2.2.2.2.1 then none else some (x.1, (2 : Int), (0 : Int), x.2.2.2.2.1, (0 : Int), (0 : Int), x.2.2.2.2.2.1, (0 : Int), [], (0 : Int), x.2.1, [], false, ())
  else bif x.2.2.1 != { data := #[] } then
    bif upB v r (ifIdx rt x.2.2.1) then some (x.1, (2 : Int), (0 : Int), x.2.2.2.2.1, (0 : Int), (0 : Int), x.2.2.2.2.2.1, (0 : Int), [], (0 : Int), (0 : Int), [(ifIdx rt x.2.2.1, (0 : Int), ())], false, ()) else none
  else bif x.2.2.2.1 then some (x.1, (2 : Int), (0 : Int), x.2.2.2.2.1, (0 : Int), (0 : Int), x.2.2.2.2.2.1, (0 : Int), [], (0 : Int), (0 : Int), [], true, ()) else none

theorem act_pre {v : Ty.El tView} {t : List (Ty.El tRoute)} {r : Int} {rt : Ty.El tRouter} {x : Ty.El tStatic} {y : Ty.El tRoute} (h : act v t r rt x = some y) : y.1 = x.1 ∧ RtS y := by
  unfold act at h
  have fin : ∀ (z : Ty.El tRoute), (some z : Option (Ty.El tRoute)) = some y → z.1 = x.1 → RtS z → y.1 = x.1 ∧ RtS y := by
    intro z hz h1 h2
    cases hz
    exact ⟨h1, h2⟩
  cases h1 : (x.2.1 != (0 : Int)) with
  | true =>
    rw [h1, cond_true] at h
    split at h
    · cases h
    · rename_i z _
      cases h2 : z.2.2.2.2.2.2.2.2.2.2.2.2.1 with
      | true => rw [h2, cond_true] at h; cases h
      | false => rw [h2, cond_false] at h; exact fin _ h rfl ⟨Nat.zero_le _, Nat.zero_le _⟩
  | false =>
    rw [h1, cond_false] at h
    cases h2 : (x.2.2.1 != { data := #[] }) with
    | true =>
      rw [h2, cond_true] at h
      cases h3 : upB v r (ifIdx rt x.2.2.1) with
      | true => rw [h3, cond_true] at h; exact fin _ h rfl ⟨Nat.zero_le _, (show 1 ≤ 1048576 by omega)⟩
      | false => rw [h3, cond_false] at h; cases h
    | false =>
      rw [h2, cond_false] at h
      cases h3 : x.2.2.2.1 with
      | true => rw [h3, cond_true] at h; exact fin _ h rfl ⟨Nat.zero_le _, Nat.zero_le _⟩
      | false => rw [h3, cond_false] at h; cases h

theorem filterMap_take {α β : Type} {f : α → Option β} {xs : List α} {i : Nat} {x : α} (h : xs[i]? = some x) : (xs.take (i + 1)).filterMap f = (xs.take i).filterMap f ++ (f x).toList := by
  rw [List.take_add_one, h, Option.toList_some, List.filterMap_append, List.filterMap_cons, List.filterMap_nil]
  cases f x <;> rfl

theorem spec_static_Active (v : Ty.El tView) (t : List (Ty.El tRoute)) (r : Nat) (rt : Ty.El tRouter) (hv : ViewS v) (hr : v.1.1[r]? = some rt) (ht : t.length ≤ 1048576) :
    Wp (static_Active (v, t, (r : Int), ())) (fun out => out = rt.2.2.2.2.2.2.2.1.filterMap (act v t r rt)) := by
  unfold static_Active
  dsimp only
  have hrl := (List.getElem?_eq_some_iff.1 hr).1
  have hsm := hv.sm rt (List.mem_of_getElem? hr)
  have hst := hsm.i6
  have hr0 : ¬ ((r : Int) < 0) := by omega
  have hr1 : ¬ ((r : Int) ≥ (List.length v.1.1 : Int)) := by omega
  refine wp_bind (wp_bifd (fun h => absurd h hr0) (fun h => wp_some ?_))
  refine wp_bifd (fun h => absurd h hr1) (fun h => ?_)
  simp only [idx_nat hr, Option.bind_some]
  refine wp_bind ((wp_fold (xs := rt.2.2.2.2.2.2.2.1) (by omega) (fun i (g : List (Ty.El tRoute)) => g = (rt.2.2.2.2.2.2.2.1.take i).filterMap (act v t r rt)) rfl ?_ (Q := fun g => g = rt.2.2.2.2.2.2.2.1.filterMap (act v t r rt)) (fun g hg => by rw [hg, List.take_length])).mono (fun g hg => wp_some hg))
  intro i x g hx hg
  have hi := (List.getElem?_eq_some_iff.1 hx).1
  have hgl : g.length ≤ i := by
    rw [hg]
    refine Nat.le_trans (List.length_filterMap_le _ _) ?_
    rw [List.length_take]
    omega
  simp only [idx_nat hx, Option.bind_some]
  rw [filterMap_take hx, ← hg]
  have skip : act v t r rt x = none → (Either2 (fun s : List (Ty.El tRoute) × Ty.El tRoute => Wp (Option.bind (app (136 : Nat) s.fst [s.snd]) fun y68 => some y68) (fun g' => g' = g ++ (act v t r rt x).toList)) (fun g' => g' = g ++ (act v t r rt x).toList)) (Sum.inr g) := by
    intro h
    rw [h]
    exact e2r (List.append_nil g).symm
  have take : ∀ y, act v t r rt x = some y → (Either2 (fun s : List (Ty.El tRoute) × Ty.El tRoute => Wp (Option.bind (app (136 : Nat) s.fst [s.snd]) fun y68 => some y68) (fun g' => g' = g ++ (act v t r rt x).toList)) (fun g' => g' = g ++ (act v t r rt x).toList)) (Sum.inl (g, y)) := by
    intro y h
    rw [h]
    refine e2l (wp_bind (wp_app (by simp only [List.length_singleton]; omega) (wp_some rfl)))
  refine wp_cut2 (wp_bif (fun h1 => ?_) (fun h1 => wp_bif (fun h2 => ?_) (fun h2 => wp_bif (fun h3 => ?_) (fun h3 => ?_))))
  · refine wp_bind ((spec_static_Resolves t x.1 x.2.1 (by omega)).mono (fun k hk => ?_))
    rcases hk with ⟨hk, hn⟩ | ⟨m, y, rfl, hm, hy⟩
    · refine wp_bind (wp_bifd (fun _ => wp_some (wp_some (skip ?_))) (fun h => absurd hk h))
      unfold act
      rw [h1, cond_true, hn]
    · refine wp_bind (wp_bifd (fun h => absurd h (by omega)) (fun _ => ?_))
      simp only [idx_nat hm, Option.bind_some]
      refine wp_some (wp_bif (fun h => wp_some (skip ?_)) (fun h => wp_some (take _ ?_)))
      · unfold act
        rw [h1, cond_true, hy]
        simp only
        have h : y.2.2.2.2.2.2.2.2.2.2.2.2.1 = true := h
        rw [h]; rfl
      · unfold act
        rw [h1, cond_true, hy]
        simp only
        have h : y.2.2.2.2.2.2.2.2.2.2.2.2.1 = false := h
        rw [h]; rfl
  · refine wp_bind ((spec_model_Interface rt x.2.2.1 hsm).mono (fun k hk => ?_))
    subst hk
    refine wp_bind ((spec_topo_Up v r _ hv).mono (fun b hb => ?_))
    subst hb
    refine wp_bif (fun h => wp_some (skip ?_)) (fun h => wp_some (take _ ?_))
    · unfold act
      rw [h1, cond_false, h2, cond_true]
      simp only [Bool.not_eq_true'] at h
      rw [h]; rfl
    · unfold act
      rw [h1, cond_false, h2, cond_true]
      simp only [Bool.not_eq_false'] at h
      rw [h]; rfl
  · refine wp_some (take _ ?_)
    unfold act
    rw [h1, cond_false, h2, cond_false, h3]; rfl
  · refine wp_some (skip ?_)
    unfold act
    rw [h1, cond_false, h2, cond_false, h3]; rfl

theorem resolveR_drop {t : List (Ty.El tRoute)} {k : Nat} {z : Ty.El tRoute} (hz : t[k]? = some z) (a : Int) : resolveR (t.take k ++ t.drop (k + 1)) z.1 a = resolveR t z.1 a := by
  have hk := (List.getElem?_eq_some_iff.1 hz).1
  have hz2 := (List.getElem?_eq_some_iff.1 hz).2
  have ht : t = t.take k ++ z :: t.drop (k + 1) := by
    rw [← hz2, ← List.drop_eq_getElem_cons hk, List.take_append_drop]
  unfold resolveR
  rw [List.foldl_append]
  conv => rhs; rw [ht]
  rw [List.foldl_append, List.foldl_cons, rstep_skip (by simp [preB])]

theorem act_drop {v : Ty.El tView} {t : List (Ty.El tRoute)} {r : Int} {rt : Ty.El tRouter} {x : Ty.El tStatic} {k : Nat} {z : Ty.El tRoute} (hz : t[k]? = some z) (hx : x.1 = z.1) :
    act v (t.take k ++ t.drop (k + 1)) r rt x = act v t r rt x := by
  unfold act
  rw [hx, resolveR_drop hz]
end Go.Ve

namespace Go.Ve
open Go
set_option maxRecDepth 1000000
set_option maxHeartbeats 4000000

theorem sub_take {α : Type} {xs : List α} {k : Nat} (h : k ≤ xs.length) : sub xs 0 (k : Int) = some (xs.take k) := by
  unfold sub
  rw [if_pos (by omega), Int.toNat_natCast]
  rfl

theorem sub_drop {α : Type} {xs : List α} {k : Nat} (h : k ≤ xs.length) : sub xs (k : Int) (xs.length : Int) = some (xs.drop k) := by
  unfold sub
  rw [if_pos (by omega), Int.toNat_natCast, Int.toNat_natCast, List.take_length]

def pltB (p q : Ty.El tPrefix) : Bool := decide (cmpP p q < 0)

theorem pltB_iff {p q : Ty.El tPrefix} : pltB p q = true ↔ plt p q := by
  unfold pltB; rw [decide_eq_true_eq]; exact cmpP_lt

theorem insG_len {α : Type} {lt eq : α → α → Bool} {h : α} : ∀ {l : List α}, (insG lt eq h l).length ≤ l.length + 1
  | [] => by simp [insG]
  | x :: r => by
    have := insG_len (lt := lt) (eq := eq) (h := h) (l := r)
    simp only [insG]
    cases lt x h <;> cases eq x h <;> simp <;> omega

/-- The prefixes of routes, ascending. -/
def preL (l : List (Ty.El tRoute)) : List (Ty.El tPrefix) := l.foldl (fun acc x => insG pltB preB x.1 acc) []

theorem preL_len_aux : ∀ (l : List (Ty.El tRoute)) (acc : List (Ty.El tPrefix)), (l.foldl (fun acc x => insG pltB preB x.1 acc) acc).length ≤ acc.length + l.length
  | [], acc => by simp
  | x :: l, acc => by
    have h1 := preL_len_aux l (insG pltB preB x.1 acc)
    have h2 := insG_len (lt := pltB) (eq := preB) (h := x.1) (l := acc)
    simp only [List.foldl_cons, List.length_cons]
    omega

theorem preL_len (l : List (Ty.El tRoute)) : (preL l).length ≤ l.length := by
  have := preL_len_aux l []
  simpa [preL] using this

theorem preL_aux : ∀ (l : List (Ty.El tRoute)) (acc : List (Ty.El tPrefix)), acc.Pairwise plt →
    (l.foldl (fun acc x => insG pltB preB x.1 acc) acc).Pairwise plt ∧ ∀ p, p ∈ l.foldl (fun acc x => insG pltB preB x.1 acc) acc ↔ p ∈ acc ∨ ∃ x, x ∈ l ∧ x.1 = p
  | [], acc, h => ⟨h, fun p => by simp⟩
  | x :: l, acc, h => by
    have h2 := preL_aux l (insG pltB preB x.1 acc) (insG_sorted plt_ord (fun _ _ => pltB_iff) (fun _ _ => preB_iff) (fun p q h1 h2 => plt_or h1 (fun e => h2 e.symm)) h)
    refine ⟨h2.1, fun p => ?_⟩
    rw [List.foldl_cons, h2.2 p, insG_mem (fun _ _ => preB_iff)]
    constructor
    · rintro ((h | rfl) | ⟨y, hy, rfl⟩)
      · exact .inl h
      · exact .inr ⟨x, by simp, rfl⟩
      · exact .inr ⟨y, by simp [hy], rfl⟩
    · rintro (h | ⟨y, hy, rfl⟩)
      · exact .inl (.inl h)
      · rcases List.mem_cons.1 hy with rfl | hy
        · exact .inl (.inr rfl)
        · exact .inr ⟨y, hy, rfl⟩

theorem preL_sorted (l : List (Ty.El tRoute)) : (preL l).Pairwise plt := (preL_aux l [] List.Pairwise.nil).1

theorem preL_mem (l : List (Ty.El tRoute)) (p : Ty.El tPrefix) : p ∈ preL l ↔ ∃ x, x ∈ l ∧ x.1 = p := by
  have := (preL_aux l [] List.Pairwise.nil).2 p
  rw [show preL l = l.foldl (fun acc x => insG pltB preB x.1 acc) [] from rfl, this]
  simp

theorem spec_ref15_prefixes (l : List (Ty.El tRoute)) (hl : l.length ≤ 1048576) : Wp (ref15_prefixes (l, ())) (fun r => r = preL l) := by
  unfold ref15_prefixes
  dsimp only
  refine wp_bind ((wp_fold (xs := l) (by omega) (fun i (acc : List (Ty.El tPrefix)) => acc.length ≤ i ∧ acc = preL (l.take i)) ⟨Nat.le_refl _, rfl⟩ ?_ (Q := fun r => r = preL l) (fun g hg => by have := hg.2; rw [List.take_length] at this; exact this)).mono (fun r hr => wp_some hr))
  rintro i x acc hx ⟨hal, hacc⟩
  have hi := (List.getElem?_eq_some_iff.1 hx).1
  have hstep : preL (l.take (i + 1)) = insG pltB preB x.1 acc := by
    unfold preL
    rw [foldl_take hx, hacc]
    rfl
  rw [hstep]
  refine Wp.mono (Q := fun r => r = insG pltB preB x.1 acc) ?_ (fun r hr => ⟨by rw [hr]; have := insG_len (lt := pltB) (eq := preB) (h := x.1) (l := acc); omega, hr⟩)
  refine wp_bind ((show Wp _ (fun s : Int × List (Ty.El tPrefix) => s.2 = acc ∧ ∃ k : Nat, s.1 = (k : Int) ∧ k ≤ acc.length ∧ (∀ j p, j < k → acc[j]? = some p → pltB p x.1 = true) ∧ ∀ p, acc[k]? = some p → pltB p x.1 = false) from ?_).mono ?_)
  · refine wp_loop (fun s : Int × List (Ty.El tPrefix) => s.2 = acc ∧ ∃ k : Nat, s.1 = (k : Int) ∧ k ≤ acc.length ∧ (∀ j p, j < k → acc[j]? = some p → pltB p x.1 = true)) (fun s => ((acc.length : Int) - s.1).toNat)
      ⟨rfl, 0, rfl, Nat.zero_le _, fun j p hj => by omega⟩ ?_
    rintro ⟨s, g⟩ ⟨hg, k, hk, hkl, hj⟩
    simp only at hg hk
    subst hg hk
    refine wp_bind ((show Wp _ (fun c : Bool × List (Ty.El tPrefix) => c.2 = g ∧ (c.1 = true → k < g.length ∧ ∀ p, g[k]? = some p → pltB p x.1 = true) ∧ (c.1 = false → ∀ p, g[k]? = some p → pltB p x.1 = false)) from ?_).mono ?_)
    · refine wp_bifd (fun h => ?_) (fun h => wp_some ⟨rfl, (fun h => by cases h), fun _ p hp => ?_⟩)
      · have h : (k : Int) < (g.length : Int) := h
        have hk : g[k]? = some (g[k]'(by omega)) := by simp
        simp only [idx_nat hk, Int.toNat_natCast, atN_of hk, idx_nat hx, Option.bind_some]
        refine wp_bind (wp_eq (spec_ref4_Compare _ _) (wp_some ⟨rfl, (fun h => ⟨by omega, fun p hp => ?_⟩), fun h p hp => ?_⟩))
        · rw [hk] at hp; cases hp; exact h
        · rw [hk] at hp; cases hp; exact h
      · have h : ¬ (k : Int) < (g.length : Int) := h
        have := (List.getElem?_eq_some_iff.1 hp).1
        omega
    · rintro ⟨c, g'⟩ ⟨hg, ht, hf⟩
      simp only at hg ht hf
      subst hg
      refine wp_bif (fun h => ?_) (fun h => wp_some (e2r ⟨rfl, k, rfl, hkl, hj, hf h⟩))
      obtain ⟨h1, h2⟩ := ht h
      refine wp_some (e2l ⟨⟨rfl, k + 1, ?_, h1, ?_⟩, ?_⟩)
      · simp only; rw [wrap_i64 (by omega) (by omega)]; omega
      · intro j p hj' hp
        rcases Nat.lt_or_ge j k with h' | h'
        · exact hj j p h' hp
        · have : j = k := by omega
          subst this
          exact h2 p hp
      · simp only; rw [wrap_i64 (by omega) (by omega)]; omega
  · rintro ⟨s, g⟩ ⟨hg, k, hk, hkl, h1, h2⟩
    simp only at hg hk
    subst hg hk
    rw [insG_at (eq := preB) hkl h1 h2]
    refine wp_bind ((show Wp _ (fun c : Bool × List (Ty.El tPrefix) => c.2 = g ∧ (c.1 = true ↔ ¬ ∃ y, g[k]? = some y ∧ preB y x.1 = true)) from ?_).mono ?_)
    · refine wp_bif (fun h => wp_some ⟨rfl, fun _ => ?_, fun _ => rfl⟩) (fun h => ?_)
      · have h : (k : Int) = (g.length : Int) := by simpa using h
        rintro ⟨y, hy, _⟩
        have := (List.getElem?_eq_some_iff.1 hy).1
        omega
      · have h : ¬ (k : Int) = (g.length : Int) := by simpa using h
        have hk : g[k]? = some (g[k]'(by omega)) := by simp
        simp only [idx_nat hk, Int.toNat_natCast, atN_of hk, idx_nat hx, Option.bind_some]
        refine wp_some ⟨rfl, ?_⟩
        have hb : (!((g[k]'(by omega)).fst == x.fst.fst && ((g[k]'(by omega)).snd.fst == x.fst.snd.fst && true))) = !preB (g[k]'(by omega)) x.1 := rfl
        rw [hb]
        constructor
        · rintro h3 ⟨y, hy, h4⟩
          rw [hk] at hy
          cases hy
          rw [h4] at h3
          cases h3
        · intro h3
          cases h4 : preB (g[k]'(by omega)) x.1 with
          | false => rfl
          | true => exact absurd ⟨_, hk, h4⟩ h3
    · rintro ⟨c, g'⟩ ⟨hg, hc⟩
      simp only at hg hc
      subst hg
      refine wp_bif (fun h => ?_) (fun h => wp_some ?_)
      · rw [if_neg (hc.1 h)]
        refine wp_bind (wp_eq (sub_take hkl) ?_)
        simp only [idx_nat hx, Option.bind_some]
        refine wp_bind (wp_eq (sub_drop hkl) ?_)
        refine wp_bind (wp_app (by simp only [List.length_nil, List.length_take]; omega) ?_)
        refine wp_bind (wp_app (by simp only [List.length_append, List.length_nil, List.length_take, List.length_singleton]; omega) ?_)
        refine wp_bind (wp_app (by simp only [List.length_append, List.length_nil, List.length_take, List.length_drop, List.length_singleton]; omega) ?_)
        exact wp_some rfl
      · have h : c = false := h
        rw [if_pos]
        exact Classical.byContradiction (fun hn => by rw [hc.2 hn] at h; cases h)

def hlt (a b : Ty.El tHop) : Prop := pltI a.1 a.2.1 b.1 b.2.1

theorem hlt_ord : Ord hlt where
  asym := fun x y h => by unfold hlt pltI at *; omega
  tr := fun x y z h1 h2 => by unfold hlt pltI at *; omega

theorem hlt_or {p q : Ty.El tHop} (h : ¬ hlt q p) (hne : p ≠ q) : hlt p q := by
  refine pltI_or h (fun e => hne ?_)
  obtain ⟨a, b, ⟨⟩⟩ := p
  obtain ⟨c, d, ⟨⟩⟩ := q
  obtain ⟨rfl, rfl⟩ := e
  rfl

def hltB (a b : Ty.El tHop) : Bool := decide (cmpI a.1 a.2.1 b.1 b.2.1 < 0)

theorem hltB_iff {a b : Ty.El tHop} : hltB a b = true ↔ hlt a b := by
  unfold hltB; rw [decide_eq_true_eq]; exact cmpI_lt

def hopB (a b : Ty.El tHop) : Bool := a.fst == b.fst && (a.snd.fst == b.snd.fst && true)

theorem spec_ref15_lessHop (a b : Ty.El tHop) : ref15_lessHop (a, b, ()) = some (hltB a b) := by
  refine wp_val ?_
  unfold ref15_lessHop
  dsimp only
  have hd : ∀ s : Bool, (s = true ↔ hlt a b) → s = hltB a b := by
    intro s hs
    rw [Bool.eq_iff_iff, hltB_iff]
    exact hs
  refine wp_bind (wp_bifd (fun h => wp_some (wp_some (hd _ ⟨fun _ => .inl h, fun _ => rfl⟩))) (fun h => wp_bif (fun h' => wp_some (wp_some (hd _ ?_))) (fun h' => wp_some (wp_some (hd _ ?_)))))
  · have h' : a.1 = b.1 := by simpa using h'
    rw [decide_eq_true_eq]
    exact ⟨fun h2 => .inr ⟨h', h2⟩, fun h2 => h2.elim (fun h3 => absurd h3 h) (fun h3 => h3.2)⟩
  · have h' : ¬ a.1 = b.1 := by simpa using h'
    exact ⟨(fun h2 => by cases h2), fun h2 => (h2.elim (fun h3 => h h3) (fun h3 => h' h3.1)).elim⟩

def addHopL (l : List (Ty.El tHop)) (h : Ty.El tHop) : List (Ty.El tHop) := insG hltB hopB h l

theorem spec_ref15_addHop (l : List (Ty.El tHop)) (h : Ty.El tHop) (hl : l.length ≤ 1099511627776) : Wp (ref15_addHop (l, h, ())) (fun r => r = addHopL l h) := by
  unfold ref15_addHop
  dsimp only
  refine wp_bind ((show Wp _ (fun s : Int => ∃ k : Nat, s = (k : Int) ∧ k ≤ l.length ∧ (∀ j p, j < k → l[j]? = some p → hltB p h = true) ∧ ∀ p, l[k]? = some p → hltB p h = false) from ?_).mono ?_)
  · refine wp_loop (fun s : Int => ∃ k : Nat, s = (k : Int) ∧ k ≤ l.length ∧ (∀ j p, j < k → l[j]? = some p → hltB p h = true)) (fun s => ((l.length : Int) - s).toNat) ⟨0, rfl, Nat.zero_le _, fun j p hj => by omega⟩ ?_
    rintro s ⟨k, rfl, hkl, hj⟩
    refine wp_bind ((show Wp _ (fun c : Bool => (c = true → k < l.length ∧ ∀ p, l[k]? = some p → hltB p h = true) ∧ (c = false → ∀ p, l[k]? = some p → hltB p h = false)) from ?_).mono ?_)
    · refine wp_bifd (fun hlt' => ?_) (fun hge => wp_some ⟨(fun h => by cases h), fun _ p hp => ?_⟩)
      · have hk : l[k]? = some (l[k]'(by omega)) := by simp
        simp only [idx_nat hk, Option.bind_some]
        refine wp_bind (wp_eq (spec_ref15_lessHop _ _) (wp_some ⟨(fun h' => ⟨by omega, fun p hp => ?_⟩), fun h' p hp => ?_⟩))
        · rw [hk] at hp; cases hp; exact h'
        · rw [hk] at hp; cases hp; exact h'
      · have := (List.getElem?_eq_some_iff.1 hp).1
        omega
    · rintro c ⟨ht, hf⟩
      refine wp_bif (fun h' => ?_) (fun h' => wp_some (e2r ⟨k, rfl, hkl, hj, hf h'⟩))
      obtain ⟨h1, h2⟩ := ht h'
      refine wp_some (e2l ⟨⟨k + 1, ?_, h1, ?_⟩, ?_⟩)
      · rw [wrap_i64 (by omega) (by omega)]; omega
      · intro j p hj' hp
        rcases Nat.lt_or_ge j k with h' | h'
        · exact hj j p h' hp
        · have : j = k := by omega
          subst this
          exact h2 p hp
      · rw [wrap_i64 (by omega) (by omega)]; omega
  · rintro s ⟨k, rfl, hkl, h1, h2⟩
    unfold addHopL
    rw [insG_at (eq := hopB) hkl h1 h2]
    refine wp_bind ((show Wp _ (fun c : Bool => (c = true ↔ ∃ y, l[k]? = some y ∧ hopB y h = true)) from ?_).mono (fun c hc => ?_))
    · refine wp_bifd (fun hlt' => ?_) (fun hge => wp_some ⟨(fun h => by cases h), ?_⟩)
      · have hk : l[k]? = some (l[k]'(by omega)) := by simp
        simp only [idx_nat hk, Option.bind_some]
        refine wp_some ⟨fun h3 => ⟨_, hk, h3⟩, ?_⟩
        rintro ⟨y, hy, h4⟩
        rw [hk] at hy
        cases hy
        exact h4
      · rintro ⟨y, hy, _⟩
        have := (List.getElem?_eq_some_iff.1 hy).1
        omega
    · refine wp_bif (fun h' => wp_some ?_) (fun h' => ?_)
      · rw [if_pos (hc.1 h')]
      · have h' : c = false := h'
        rw [if_neg (fun h3 => by rw [hc.2 h3] at h'; cases h')]
        refine wp_bind (wp_eq (sub_take hkl) (wp_bind (wp_eq (sub_drop hkl) ?_)))
        refine wp_bind (wp_app (by simp only [List.length_nil, List.length_take]; omega) ?_)
        refine wp_bind (wp_app (by simp only [List.length_append, List.length_nil, List.length_take, List.length_singleton]; omega) ?_)
        refine wp_bind (wp_app (by simp only [List.length_append, List.length_nil, List.length_take, List.length_drop, List.length_singleton]; omega) ?_)
        exact wp_some rfl

theorem addHops_len : ∀ (more l : List (Ty.El tHop)), (more.foldl addHopL l).length ≤ l.length + more.length
  | [], l => by simp
  | h :: more, l => by
    have h1 := addHops_len more (addHopL l h)
    have h2 : (addHopL l h).length ≤ l.length + 1 := insG_len
    simp only [List.foldl_cons, List.length_cons]
    omega

theorem spec_ref15_AddHops (l more : List (Ty.El tHop)) (hl : l.length + more.length ≤ 1099511627776) : Wp (ref15_AddHops (l, more, ())) (fun r => r = more.foldl addHopL l) := by
  unfold ref15_AddHops
  dsimp only
  refine wp_bind ((Wp.mono (Q := fun r => r = more.foldl addHopL l) ?_ (fun r hr => wp_some hr)))
  have h := wp_fold (xs := more) (g0 := l) (body := fun s => Option.bind (idx more s.fst) fun y7 => ref15_addHop (s.snd, y7, ())) (by omega) (fun i (g : List (Ty.El tHop)) => g = (more.take i).foldl addHopL l) rfl ?_ (Q := fun r => r = more.foldl addHopL l) (fun g hg => by rw [hg, List.take_length])
  · simp only [Option.bind_assoc] at h
    exact h
  · intro i x g hx hg
    have hi := (List.getElem?_eq_some_iff.1 hx).1
    have hgl : g.length ≤ l.length + i := by
      rw [hg]
      have := addHops_len (more.take i) l
      rw [List.length_take] at this
      omega
    simp only [idx_nat hx, Option.bind_some]
    rw [foldl_take hx, ← hg]
    exact spec_ref15_addHop g x (by omega)
end Go.Ve

namespace Go.Ve
open Go
set_option maxRecDepth 1000000
set_option maxHeartbeats 4000000

/-- Better than what was found so far. -/
def bbet (x : Ty.El tRoute) (b : Option (Ty.El tRoute)) : Bool :=
  match b with
  | none => true
  | some y => decide (prefI x y < 0)

def bstep (p : Ty.El tPrefix) (b : Option (Ty.El tRoute)) (x : Ty.El tRoute) : Option (Ty.El tRoute) :=
  bif preB x.1 p && bbet x b then some x else b

/-- The best route with a prefix, the first of the best. -/
def bestOf (l : List (Ty.El tRoute)) (p : Ty.El tPrefix) : Option (Ty.El tRoute) := l.foldl (bstep p) none

def hstep (p : Ty.El tPrefix) (b : Ty.El tRoute) (hs : List (Ty.El tHop)) (x : Ty.El tRoute) : List (Ty.El tHop) :=
  bif preB x.1 p && (prefI x b == 0) then x.2.2.2.2.2.2.2.2.2.2.2.1.foldl addHopL hs else hs

/-- The hops of the best routes with a prefix. -/
def hopsOf (l : List (Ty.El tRoute)) (p : Ty.El tPrefix) (b : Ty.El tRoute) : List (Ty.El tHop) := l.foldl (hstep p b) []

def setHops (b : Ty.El tRoute) (hs : List (Ty.El tHop)) : Ty.El tRoute :=
  ((b.1.1, b.1.2.1, ()), b.2.1, b.2.2.1, b.2.2.2.1, b.2.2.2.2.1, b.2.2.2.2.2.1, b.2.2.2.2.2.2.1, b.2.2.2.2.2.2.2.1, b.2.2.2.2.2.2.2.2.1, b.2.2.2.2.2.2.2.2.2.1, b.2.2.2.2.2.2.2.2.2.2.1, hs, b.2.2.2.2.2.2.2.2.2.2.2.2.1, ())

def mrg (l : List (Ty.El tRoute)) (p : Ty.El tPrefix) : Option (Ty.El tRoute) := (bestOf l p).map (fun b => setHops b (hopsOf l p b))

def mergeL (l : List (Ty.El tRoute)) : List (Ty.El tRoute) := (preL l).filterMap (mrg l)

theorem bstep_some {p : Ty.El tPrefix} {b : Option (Ty.El tRoute)} {x : Ty.El tRoute} (h : b.isSome = true ∨ x.1 = p) : (bstep p b x).isSome = true := by
  unfold bstep
  cases b with
  | none =>
    rcases h with h | h
    · cases h
    · rw [preB_iff.2 h]; rfl
  | some y => cases preB x.1 p && bbet x (some y) <;> rfl

theorem best_some_aux {p : Ty.El tPrefix} : ∀ (l : List (Ty.El tRoute)) (b : Option (Ty.El tRoute)), (b.isSome = true ∨ ∃ x, x ∈ l ∧ x.1 = p) → (l.foldl (bstep p) b).isSome = true
  | [], b, h => by
    rcases h with h | ⟨x, hx, _⟩
    · exact h
    · cases hx
  | x :: l, b, h => by
    rw [List.foldl_cons]
    refine best_some_aux l _ ?_
    rcases h with h | ⟨y, hy, hp⟩
    · exact .inl (bstep_some (.inl h))
    · rcases List.mem_cons.1 hy with rfl | hy
      · exact .inl (bstep_some (.inr hp))
      · exact .inr ⟨y, hy, hp⟩

theorem best_some {l : List (Ty.El tRoute)} {p : Ty.El tPrefix} (h : p ∈ preL l) : ∃ b, bestOf l p = some b :=
  Option.isSome_iff_exists.1 (best_some_aux l none (.inr ((preL_mem l p).1 h)))

theorem hstep_len {p : Ty.El tPrefix} {b : Ty.El tRoute} {hs : List (Ty.El tHop)} {x : Ty.El tRoute} : (hstep p b hs x).length ≤ hs.length + x.2.2.2.2.2.2.2.2.2.2.2.1.length := by
  unfold hstep
  cases preB x.1 p && (prefI x b == 0) with
  | true => exact addHops_len _ _
  | false => exact Nat.le_add_right _ _

theorem spec_ref15_Merge (l : List (Ty.El tRoute)) (hl : l.length ≤ 65536) (hs : ∀ y, y ∈ l → RtS y) : Wp (ref15_Merge (l, ())) (fun r => r = mergeL l) := by
  unfold ref15_Merge
  dsimp only
  refine wp_bind ((spec_ref15_prefixes l (by omega)).mono (fun P hP => ?_))
  have hPl := preL_len l
  rw [← hP] at hPl
  refine wp_bind ((wp_fold (xs := P) (by omega) (fun i (g : List (Ty.El tRoute)) => g = (P.take i).filterMap (mrg l)) rfl ?_ (Q := fun r => r = mergeL l) (fun g hg => by rw [hg, List.take_length, hP]; rfl)).mono (fun r hr => wp_some hr))
  intro k p out hp hout
  have hk := (List.getElem?_eq_some_iff.1 hp).1
  have hol : out.length ≤ k := by
    rw [hout]
    refine Nat.le_trans (List.length_filterMap_le _ _) ?_
    rw [List.length_take]
    omega
  rw [filterMap_take hp, ← hout]
  obtain ⟨b, hb⟩ := best_some (l := l) (p := p) (by rw [← hP]; exact List.mem_of_getElem? hp)
  refine wp_bind ((wp_fold (xs := l) (by omega) (fun i (g : Int × List (Ty.El tRoute)) => g.2 = out ∧ ((g.1 < 0 ∧ (l.take i).foldl (bstep p) none = none) ∨ ∃ (m : Nat) (y : Ty.El tRoute), g.1 = (m : Int) ∧ l[m]? = some y ∧ (l.take i).foldl (bstep p) none = some y)) ⟨rfl, .inl ⟨by simp only; omega, rfl⟩⟩ ?_
    (Q := fun g => g.2 = out ∧ ∃ (m : Nat), g.1 = (m : Int) ∧ l[m]? = some b) ?_).mono ?_)
  · rintro i x ⟨kb, g⟩ hx ⟨hg, hj⟩
    simp only at hg hj
    subst hg
    rw [foldl_take hx]
    generalize (l.take i).foldl (bstep p) none = c at hj
    simp only [idx_nat hx, idx_nat hp, Option.bind_some]
    refine wp_bind ((show Wp _ (fun s : Bool × List (Ty.El tRoute) => s.2 = g ∧ s.1 = (preB x.1 p && bbet x c)) from ?_).mono ?_)
    · refine wp_bif (fun h => ?_) (fun h => wp_some ⟨rfl, ?_⟩)
      · have h : preB x.1 p = true := h
        rw [h]
        rcases hj with ⟨h1, rfl⟩ | ⟨m, y, rfl, h2, rfl⟩
        · exact wp_bifd (fun _ => wp_some ⟨rfl, rfl⟩) (fun h' => absurd h1 h')
        · refine wp_bifd (fun h' => absurd h' (by omega)) (fun _ => ?_)
          simp only [idx_nat h2, Option.bind_some]
          exact wp_bind (wp_eq (spec_ref15_Prefer _ _) (wp_some ⟨rfl, rfl⟩))
      · have h : preB x.1 p = false := h
        rw [h]; rfl
    · rintro ⟨s, g'⟩ ⟨hg, hs'⟩
      simp only at hg hs'
      subst hg
      refine wp_bif (fun h => wp_some ⟨rfl, .inr ⟨i, x, rfl, hx, ?_⟩⟩) (fun h => wp_some ⟨rfl, ?_⟩)
      · have h : s = true := h
        unfold bstep
        rw [← hs', h]; rfl
      · have h : s = false := h
        have hbs : bstep p c x = c := by
          unfold bstep
          rw [← hs', h]; rfl
        rw [hbs]
        exact hj
  · rintro ⟨kb, g⟩ ⟨hg, hj⟩
    rw [List.take_length] at hj
    refine ⟨hg, ?_⟩
    have hb' : l.foldl (bstep p) none = some b := hb
    rcases hj with ⟨_, h⟩ | ⟨m, y, h1, h2, h3⟩
    · rw [hb'] at h; cases h
    · rw [hb'] at h3; cases h3; exact ⟨m, h1, h2⟩
  · rintro ⟨kb, g⟩ ⟨hg, m, hm, hbm⟩
    simp only at hg hm
    subst hg hm
    have hbS := hs b (List.mem_of_getElem? hbm)
    simp only [idx_nat hbm, Option.bind_some]
    refine wp_bind (wp_app (by have := hbS.path; simp only [List.length_nil]; omega) ?_)
    rw [List.nil_append]
    refine wp_bind ((wp_fold (xs := l) (by omega) (fun i (s : List (Ty.El tRoute) × Int × Int × Int × Int × Int × Int × Int × Int × Int × List Int × Int × Int × List (Ty.El tHop) × Bool) =>
      s = (g, b.1.1, b.1.2.1, b.2.1, b.2.2.1, b.2.2.2.1, b.2.2.2.2.1, b.2.2.2.2.2.1, b.2.2.2.2.2.2.1, b.2.2.2.2.2.2.2.1, b.2.2.2.2.2.2.2.2.1, b.2.2.2.2.2.2.2.2.2.1, b.2.2.2.2.2.2.2.2.2.2.1, (l.take i).foldl (hstep p b) [], b.2.2.2.2.2.2.2.2.2.2.2.2.1) ∧ ((l.take i).foldl (hstep p b) []).length ≤ i * 1048576) ⟨rfl, by simp⟩ ?_
      (Q := fun s => s = (g, b.1.1, b.1.2.1, b.2.1, b.2.2.1, b.2.2.2.1, b.2.2.2.2.1, b.2.2.2.2.2.1, b.2.2.2.2.2.2.1, b.2.2.2.2.2.2.2.1, b.2.2.2.2.2.2.2.2.1, b.2.2.2.2.2.2.2.2.2.1, b.2.2.2.2.2.2.2.2.2.2.1, hopsOf l p b, b.2.2.2.2.2.2.2.2.2.2.2.2.1)) (fun s hs => by have := hs.1; rw [List.take_length] at this; exact this)).mono ?_)
    · rintro i x s hx ⟨rfl, hlen⟩
      have hi := (List.getElem?_eq_some_iff.1 hx).1
      have hxS := hs x (List.mem_of_getElem? hx)
      rw [foldl_take hx]
      have hl2 := hstep_len (p := p) (b := b) (hs := (l.take i).foldl (hstep p b) []) (x := x)
      have hxh := hxS.hops
      generalize hH : (l.take i).foldl (hstep p b) [] = H at hlen hl2
      simp only [idx_nat hx, idx_nat hp, idx_nat hbm, Option.bind_some]
      have hfin : (hstep p b H x).length ≤ (i + 1) * 1048576 := by omega
      refine wp_bind (wp_bif (fun h => wp_bind (wp_eq (spec_ref15_Prefer _ _) (wp_some ?_))) (fun h => wp_some ?_))
      · have h : preB x.1 p = true := h
        refine wp_bif (fun h' => ?_) (fun h' => wp_some ⟨?_, hfin⟩)
        · have h' : (prefI x b == 0) = true := h'
          refine wp_bind ((spec_ref15_AddHops H x.2.2.2.2.2.2.2.2.2.2.2.1 (by omega)).mono (fun r hr => wp_some ⟨?_, hfin⟩))
          have he : hstep p b H x = r := by
            unfold hstep
            rw [h, h', hr]; rfl
          rw [he]
        · have h' : (prefI x b == 0) = false := h'
          have he : hstep p b H x = H := by
            unfold hstep
            rw [h, h']; rfl
          rw [he]
      · have h : preB x.1 p = false := h
        have he : hstep p b H x = H := by
          unfold hstep
          rw [h]; rfl
        refine wp_bif (fun h' => by cases h') (fun _ => wp_some ⟨?_, hfin⟩)
        rw [he]
    · rintro s rfl
      refine wp_bind (wp_app (by simp only [List.length_singleton]; omega) (wp_some ?_))
      have hm : mrg l p = some (setHops b (hopsOf l p b)) := by unfold mrg; rw [hb]; rfl
      rw [hm]
      rfl
end Go.Ve

namespace Go.Ve
open Go
set_option maxRecDepth 1000000
set_option maxHeartbeats 4000000

theorem spec_stable (a0 : List (Ty.El tRoute)) (hl : a0.length < 20) :
    Wp (slices_SortStableFunc_Route a0 ((), ())) (fun r => r.1.Perm a0 ∧ r.1.Pairwise (fun x y => ¬ rlt y x)) := by
  have hb : Nat.beq a0.length a0.length = true := Nat.beq_refl _
  unfold slices_SortStableFunc_Route slices_stableCmpFunc_Route
  dsimp only
  refine wp_bif (fun _ => ?_) (fun h => absurd h (by rw [hb]; decide))
  refine wp_bind (wp_bind (wp_loop (fun s : Int × List (Ty.El tRoute) × Int => s = ((20 : Int), a0, (0 : Int))) (fun _ => 0) rfl ?_))
  rintro s rfl
  refine wp_bifd (fun h => ?_) (fun _ => wp_some (e2r ?_))
  · have h : (20 : Int) ≤ (a0.length : Int) := h
    omega
  refine wp_bif (fun _ => ?_) (fun h => absurd h (by rw [hb]; decide))
  refine wp_bind ((spec_insertion a0 (by omega)).mono (fun y7 hy => ?_))
  have hyl := hy.1.length_eq
  refine wp_loop (fun s : Int × List (Ty.El tRoute) => s = ((20 : Int), y7.1)) (fun _ => 0) rfl ?_
  rintro s rfl
  refine wp_bifd (fun h => ?_) (fun _ => wp_map (wp_bif (fun _ => wp_some (e2r ?_)) (fun h => absurd h (by simp only; rw [hyl, hb]; decide))))
  · have h : (20 : Int) < (a0.length : Int) := h
    omega
  · refine wp_bif (fun _ => wp_some hy) (fun h => absurd h (by simp only; rw [hyl, hb]; decide))

/-- The connected route of an interface. -/
def mkc (x : Ty.El tIface) (k : Nat) : Ty.El tRoute := (netw x.2.1 x.2.2.1, (1 : Int), (0 : Int), (0 : Int), (0 : Int), (0 : Int), (0 : Int), (0 : Int), [], (0 : Int), (0 : Int), [((k : Int), (0 : Int), ())], false, ())

def connF (v : Ty.El tView) (r : Int) (rt : Ty.El tRouter) (k : Nat) : Option (Ty.El tRoute) :=
  match rt.2.2.1[k]? with
  | some x => bif upB v r k then some (mkc x k) else none
  | none => none

/-- The connected routes in the order of the interfaces. -/
def connL (v : Ty.El tView) (r : Int) (rt : Ty.El tRouter) : List (Ty.El tRoute) := (List.range rt.2.2.1.length).filterMap (connF v r rt)

theorem filterMap_range {β : Type} {f : Nat → Option β} (i : Nat) : (List.range (i + 1)).filterMap f = (List.range i).filterMap f ++ (f i).toList := by
  rw [List.range_succ, List.filterMap_append, List.filterMap_cons, List.filterMap_nil]
  cases f i <;> rfl

theorem spec_static_Connected (v : Ty.El tView) (r : Nat) (rt : Ty.El tRouter) (hv : ViewS v) (hr : v.1.1[r]? = some rt) (hlen : rt.2.2.1.length ≤ 8) :
    Wp (static_Connected (v, (r : Int), ())) (fun out => out.Perm (connL v r rt) ∧ out.Pairwise (fun x y => ¬ rlt y x)) := by
  unfold static_Connected
  dsimp only
  have hrl := (List.getElem?_eq_some_iff.1 hr).1
  have hr0 : ¬ ((r : Int) < 0) := by omega
  have hr1 : ¬ ((r : Int) ≥ (List.length v.1.1 : Int)) := by omega
  refine wp_bind (wp_bifd (fun h => absurd h hr0) (fun h => wp_some ?_))
  refine wp_bifd (fun h => absurd h hr1) (fun h => ?_)
  simp only [idx_nat hr, Option.bind_some]
  have hfl : ∀ i, i ≤ 8 → ((List.range i).filterMap (connF v r rt)).length ≤ 8 := fun i hi => Nat.le_trans (List.length_filterMap_le _ _) (by rw [List.length_range]; exact hi)
  refine wp_bind ((wp_fold (xs := rt.2.2.1) (by omega) (fun i (g : List (Ty.El tRoute)) => g = (List.range i).filterMap (connF v r rt)) rfl ?_ (Q := fun g => g = connL v r rt) (fun g hg => hg)).mono (fun g hg => ?_))
  · intro i x g hx hg
    have hi := (List.getElem?_eq_some_iff.1 hx).1
    have hgl : g.length ≤ 8 := by rw [hg]; exact hfl i (by omega)
    simp only [idx_nat hx, Option.bind_some]
    rw [filterMap_range, ← hg]
    have hf : connF v r rt i = bif upB v r i then some (mkc x i) else none := by unfold connF; rw [hx]
    rw [hf]
    refine wp_bind ((spec_topo_Up v r i hv).mono (fun b hb => ?_))
    subst hb
    refine wp_bif (fun h => wp_bind (wp_eq (spec_addr_Network _ _) (wp_bind (wp_app (by simp only [List.length_singleton]; omega) (wp_some ?_))))) (fun h => wp_some ?_)
    · have h : upB v r i = true := h
      rw [h]; rfl
    · have h : upB v r i = false := h
      rw [h]; simp
  · subst hg
    refine wp_bif (fun _ => ?_) (fun h => absurd h (by rw [Nat.beq_refl]; decide))
    have := hfl rt.2.2.1.length hlen
    exact wp_bind ((spec_stable (connL v r rt) (by unfold connL; omega)).mono (fun r hr => wp_some hr))

/-- An interface that is up has an address. -/
theorem up_addr {n : Ty.El tNetwork} {d : List Int} {v : Ty.El tView} (hv : ViewOk n d v) {r i : Nat} (h : upB v r i = true) : ∃ rt x, n.1[r]? = some rt ∧ rt.2.2.1[i]? = some x ∧ x.2.2.1 ≠ 0 ∧ x.2.2.2.2.1 = false := by
  unfold upB at h
  simp only [Bool.and_eq_true, decide_eq_true_eq] at h
  obtain ⟨dm, h1, h2⟩ := fidx_lt (p := fun d : Ty.El tDomain => d.2.2.1.any (endB ((r : Int), (i : Int), ()))) (xs := v.2.1.1) h.1
  obtain ⟨e, he, h3⟩ := List.any_eq_true.1 h2
  have h4 := endB_iff.1 h3
  subst h4
  obtain ⟨_, _, rt, x, g1, g2, g3, g4, _⟩ := (hv.topo.ends dm (List.mem_of_getElem? h1)).2 _ he
  exact ⟨rt, x, by simpa using g1, by simpa using g2, g3, g4⟩

theorem conn_mem {v : Ty.El tView} {r : Int} {rt : Ty.El tRouter} {y : Ty.El tRoute} (h : y ∈ connL v r rt) : ∃ (k : Nat) (x : Ty.El tIface), rt.2.2.1[k]? = some x ∧ upB v r k = true ∧ y = mkc x k := by
  obtain ⟨k, _, hk⟩ := List.mem_filterMap.1 h
  unfold connF at hk
  cases hx : rt.2.2.1[k]? with
  | none => rw [hx] at hk; cases hk
  | some x =>
    rw [hx] at hk
    cases hu : upB v r k with
    | false => simp only [hu, cond_false] at hk; cases hk
    | true => simp only [hu, cond_true, Option.some.injEq] at hk; exact ⟨k, x, hx, hu, hk.symm⟩

/-- Interfaces that are up are in different networks. -/
theorem conn_apart {n : Ty.El tNetwork} {d : List Int} {v : Ty.El tView} (hv : ViewOk n d v) {r : Nat} {rt : Ty.El tRouter} (hr : n.1[r]? = some rt) : (connL v r rt).Pairwise (fun x y => x.1 ≠ y.1) := by
  have hok := (net_ok hv).rt rt (List.mem_of_getElem? hr)
  unfold connL
  refine List.Pairwise.filterMap _ ?_ List.pairwise_lt_range
  intro i j hij y hy z hz
  have g : ∀ k w, connF v r rt k = some w → ∃ x, rt.2.2.1[k]? = some x ∧ x.2.2.1 ≠ 0 ∧ w = mkc x k := by
    intro k w hk
    unfold connF at hk
    cases hx : rt.2.2.1[k]? with
    | none => rw [hx] at hk; cases hk
    | some x =>
      rw [hx] at hk
      cases hu : upB v r k with
      | false => simp only [hu, cond_false] at hk; cases hk
      | true =>
        simp only [hu, cond_true, Option.some.injEq] at hk
        obtain ⟨rt', x', g1, g2, g3, _⟩ := up_addr hv hu
        rw [hr] at g1
        cases g1
        rw [hx] at g2
        cases g2
        exact ⟨x, rfl, g3, hk.symm⟩
  obtain ⟨x1, a1, a2, rfl⟩ := g i y hy
  obtain ⟨x2, b1, b2, rfl⟩ := g j z hz
  intro he
  have := (hok.ifs j x2 b1).apart i x1 hij a1 b2 a2
  have he : netw x1.2.1 x1.2.2.1 = netw x2.2.1 x2.2.2.1 := he
  rw [he, ovB_self] at this
  cases this

theorem perm_strict {xs ys : List (Ty.El tRoute)} (hp : xs.Perm ys) (hs : xs.Pairwise (fun x y => ¬ rlt y x)) (ha : ys.Pairwise (fun x y => x.1 ≠ y.1)) : xs.Pairwise rlt := by
  have h2 : xs.Pairwise (fun x y => x.1 ≠ y.1) := hp.symm.pairwise ha (fun h => h.symm)
  exact (hs.and h2).imp (fun h => plt_or h.1 h.2)

/-- A table is one where all is valid and in order. -/
theorem table_true {l : List (Ty.El tRoute)} {proto : Int} (hl : l.length ≤ 1048576) (hval : ∀ x, x ∈ l → ref15_Valid (x, ()) = some true) (hpr : ∀ x, x ∈ l → x.2.1 = proto) (hs : l.Pairwise rlt) :
    Wp (ref15_Table (l, proto, ())) (fun b => b = true) := by
  have hs' := List.pairwise_iff_getElem.1 hs
  unfold ref15_Table
  dsimp only
  refine wp_all (P := fun _ => True) (by omega) ?_ (fun _ => wp_some rfl)
  intro i x hx
  have hi := (List.getElem?_eq_some_iff.1 hx).1
  have hm := List.mem_of_getElem? hx
  have hcmp : (i : Int) > 0 → Wp (Option.bind (idx l (IntKind.wrap IntKind.i64 ((i : Int) - (1 : Int)))) fun (y44 : Ty.El tRoute) => Option.bind (ref4_Compare (y44.fst, x.fst, ())) fun (y46 : Int) => some (decide (y46 ≥ (0 : Int)))) (fun s => s = false) := by
    intro h0
    rw [wrap_i64 (by omega) (by omega), show ((i : Int) - 1) = ((i - 1 : Nat) : Int) by omega]
    have hy : l[i - 1]? = some (l[i - 1]'(by omega)) := by simp
    refine wp_bind (wp_eq (idx_nat hy) (wp_bind (wp_eq (spec_ref4_Compare _ _) (wp_some ?_))))
    have := hs' (i - 1) i (by omega) hi (by omega)
    rw [(List.getElem?_eq_some_iff.1 hx).2] at this
    exact decide_eq_false (Int.not_le.2 (cmpP_lt.2 this))
  simp only [idx_nat hx, Option.bind_some]
  refine wp_bind ((show Wp _ (fun s : Bool => s = false) from ?_).mono (fun s hs => wp_bif (fun h => by rw [hs] at h; cases h) (fun _ => wp_some (e2l ⟨rfl, trivial⟩))))
  refine wp_bind (wp_eq (hval x hm) (wp_bif (fun h => by cases h) (fun _ => wp_bif (fun _ => wp_bif (fun h => ?_) (fun _ => ?_)) (fun _ => ?_))))
  · rw [hpr x hm] at h; simp at h
  · exact wp_bifd (fun h => hcmp h) (fun _ => wp_some rfl)
  · exact wp_bifd (fun h => hcmp h) (fun _ => wp_some rfl)
end Go.Ve
