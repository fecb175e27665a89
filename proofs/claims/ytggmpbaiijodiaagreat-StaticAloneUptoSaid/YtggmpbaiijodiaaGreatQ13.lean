/-
  Plain laws: the checks of routes and tables always answer.
  Plain laws: equal routes; static routes that are active.
  Plain laws: interfaces that are up.
  Plain laws: static routes that are active.
  Plain laws, part 3: loops over lists within loops.
  Functions out of code, part 10: typed data out of data without types, lists too.
-/
import Derived.Test.YtggmpbaiijodiaaGreatQ12
import Derived.Test.YtggmpbaiijodiaaGreatQ11
namespace Go.Ve
open Go
set_option maxRecDepth 1000000
set_option maxHeartbeats 4000000

/-- A route whose lists are no longer than the bulk. -/
structure RtS (x : Ty.El tRoute) : Prop where
  path : List.length x.snd.snd.snd.snd.snd.snd.snd.snd.fst ≤ 1048576
  hops : List.length x.snd.snd.snd.snd.snd.snd.snd.snd.snd.snd.snd.fst ≤ 1048576

theorem tot_ref4_Compare (a b : Ty.El tPrefix) : Wp (ref4_Compare (a, b, ())) (fun _ => True) := compare_ref4 a b

theorem tot_ref15_within (a1 : Ty.El (tI)) (a2 : Ty.El (tI)) (a3 : Ty.El (tI))  : Wp (ref15_within (a1, a2, a3, ())) (fun _ => True) := by
  unfold ref15_within
  try dsimp only
  repeat' (first
    | with_reducible exact trivial
    | assumption
    | contradiction
    | with_reducible refine wp_some ?_
    | with_reducible refine wp_byteAt ?_ ?_ (fun y _ _ => ?_)
    | with_reducible refine wp_idx ?_ ?_ (fun y _ _ => ?_)
    | with_reducible refine wp_bifn (fun _ => ?_) (fun _ => ?_)
    | with_reducible refine wp_bifd (fun _ => ?_) (fun _ => ?_)
    | with_reducible refine wp_bif (fun _ => ?_) (fun _ => ?_)
    | with_reducible refine wp_cut2 ?_
    | with_reducible refine wp_for (fun s _ _ => ?_) (fun s _ _ => ?_)
    | simp only [idx_of ‹_[_]? = some _›, Option.bind_some]
    | with_reducible refine wp_map ?_
    | with_reducible refine wp_bind ?_
    | with_reducible refine e2l ?_
    | with_reducible refine e2r ?_
    | exact wrap_i64 (by omega) (by omega)
    | omega
    | (rw [wrap_i64 (by omega) (by omega)]; omega)
    | (simp only [beq_iff_eq] at *; omega)
    | (simp only [List.length_cons, List.length_nil] at *; exact wrap_i64 (by omega) (by omega)))

theorem tot_ref15_plain (a1 : Ty.El (tRoute)) (a2 : Ty.El (.bool)) (a3 : Ty.El (.bool)) (a4 : Ty.El (.bool)) (h0 : RtS a1) : Wp (ref15_plain (a1, a2, a3, a4, ())) (fun _ => True) := by
  have hh0 := h0
  obtain ⟨p01, p02⟩ := hh0
  unfold ref15_plain
  try dsimp only
  repeat' (first
    | with_reducible exact trivial
    | assumption
    | contradiction
    | with_reducible refine wp_some ?_
    | with_reducible refine wp_byteAt ?_ ?_ (fun y _ _ => ?_)
    | with_reducible refine wp_idx ?_ ?_ (fun y _ _ => ?_)
    | with_reducible refine wp_bifn (fun _ => ?_) (fun _ => ?_)
    | with_reducible refine wp_bifd (fun _ => ?_) (fun _ => ?_)
    | with_reducible refine wp_bif (fun _ => ?_) (fun _ => ?_)
    | with_reducible refine wp_cut2 ?_
    | with_reducible refine wp_for (fun s _ _ => ?_) (fun s _ _ => ?_)
    | simp only [idx_of ‹_[_]? = some _›, Option.bind_some]
    | with_reducible refine wp_map ?_
    | with_reducible refine wp_bind ?_
    | with_reducible refine e2l ?_
    | with_reducible refine e2r ?_
    | exact wrap_i64 (by omega) (by omega)
    | omega
    | (rw [wrap_i64 (by omega) (by omega)]; omega)
    | (simp only [beq_iff_eq] at *; omega)
    | (simp only [List.length_cons, List.length_nil] at *; exact wrap_i64 (by omega) (by omega)))

theorem tot_ref15_lessHop (a1 : Ty.El (tHop)) (a2 : Ty.El (tHop))  : Wp (ref15_lessHop (a1, a2, ())) (fun _ => True) := by
  unfold ref15_lessHop
  try dsimp only
  repeat' (first
    | with_reducible exact trivial
    | assumption
    | contradiction
    | with_reducible refine wp_some ?_
    | with_reducible refine wp_byteAt ?_ ?_ (fun y _ _ => ?_)
    | with_reducible refine wp_idx ?_ ?_ (fun y _ _ => ?_)
    | with_reducible refine wp_bifn (fun _ => ?_) (fun _ => ?_)
    | with_reducible refine wp_bifd (fun _ => ?_) (fun _ => ?_)
    | with_reducible refine wp_bif (fun _ => ?_) (fun _ => ?_)
    | with_reducible refine wp_cut2 ?_
    | with_reducible refine wp_for (fun s _ _ => ?_) (fun s _ _ => ?_)
    | simp only [idx_of ‹_[_]? = some _›, Option.bind_some]
    | with_reducible refine wp_map ?_
    | with_reducible refine wp_bind ?_
    | with_reducible refine e2l ?_
    | with_reducible refine e2r ?_
    | exact wrap_i64 (by omega) (by omega)
    | omega
    | (rw [wrap_i64 (by omega) (by omega)]; omega)
    | (simp only [beq_iff_eq] at *; omega)
    | (simp only [List.length_cons, List.length_nil] at *; exact wrap_i64 (by omega) (by omega)))

theorem tot_ref15_hops (a1 : Ty.El (.sl tHop)) (a2 : Ty.El (.bool)) (h0 : List.length a1 ≤ 1048576) : Wp (ref15_hops (a1, a2, ())) (fun _ => True) := by
  unfold ref15_hops
  try dsimp only
  repeat' (first
    | with_reducible exact trivial
    | assumption
    | contradiction
    | with_reducible refine wp_some ?_
    | with_reducible refine (tot_ref15_lessHop _ _).mono (fun r _ => ?_)
    | with_reducible refine wp_byteAt ?_ ?_ (fun y _ _ => ?_)
    | with_reducible refine wp_idx ?_ ?_ (fun y _ _ => ?_)
    | with_reducible refine wp_bifn (fun _ => ?_) (fun _ => ?_)
    | with_reducible refine wp_bifd (fun _ => ?_) (fun _ => ?_)
    | with_reducible refine wp_bif (fun _ => ?_) (fun _ => ?_)
    | with_reducible refine wp_cut2 ?_
    | with_reducible refine wp_for (fun s _ _ => ?_) (fun s _ _ => ?_)
    | simp only [idx_of ‹_[_]? = some _›, Option.bind_some]
    | with_reducible refine wp_map ?_
    | with_reducible refine wp_bind ?_
    | with_reducible refine e2l ?_
    | with_reducible refine e2r ?_
    | exact wrap_i64 (by omega) (by omega)
    | omega
    | (rw [wrap_i64 (by omega) (by omega)]; omega)
    | (simp only [beq_iff_eq] at *; omega)
    | (simp only [List.length_cons, List.length_nil] at *; exact wrap_i64 (by omega) (by omega)))

theorem tot_ref15_validStatic (a1 : Ty.El (tRoute)) (h0 : RtS a1) : Wp (ref15_validStatic (a1, ())) (fun _ => True) := by
  have hh0 := h0
  obtain ⟨p01, p02⟩ := hh0
  unfold ref15_validStatic
  try dsimp only
  repeat' (first
    | with_reducible exact trivial
    | assumption
    | contradiction
    | with_reducible refine wp_some ?_
    | with_reducible refine (tot_ref15_within _ _ _).mono (fun r _ => ?_)
    | with_reducible refine (tot_ref15_plain _ _ _ _ ?_).mono (fun r _ => ?_)
    | with_reducible refine (tot_ref15_hops _ _ ?_).mono (fun r _ => ?_)
    | with_reducible refine wp_byteAt ?_ ?_ (fun y _ _ => ?_)
    | with_reducible refine wp_idx ?_ ?_ (fun y _ _ => ?_)
    | with_reducible refine wp_bifn (fun _ => ?_) (fun _ => ?_)
    | with_reducible refine wp_bifd (fun _ => ?_) (fun _ => ?_)
    | with_reducible refine wp_bif (fun _ => ?_) (fun _ => ?_)
    | with_reducible refine wp_cut2 ?_
    | with_reducible refine wp_for (fun s _ _ => ?_) (fun s _ _ => ?_)
    | simp only [idx_of ‹_[_]? = some _›, Option.bind_some]
    | with_reducible refine wp_map ?_
    | with_reducible refine wp_bind ?_
    | with_reducible refine e2l ?_
    | with_reducible refine e2r ?_
    | exact wrap_i64 (by omega) (by omega)
    | omega
    | (rw [wrap_i64 (by omega) (by omega)]; omega)
    | (simp only [beq_iff_eq] at *; omega)
    | (simp only [List.length_cons, List.length_nil] at *; exact wrap_i64 (by omega) (by omega)))

theorem tot_ref15_validLinkState (a1 : Ty.El (tRoute)) (h0 : RtS a1) : Wp (ref15_validLinkState (a1, ())) (fun _ => True) := by
  have hh0 := h0
  obtain ⟨p01, p02⟩ := hh0
  unfold ref15_validLinkState
  try dsimp only
  repeat' (first
    | with_reducible exact trivial
    | assumption
    | contradiction
    | with_reducible refine wp_some ?_
    | with_reducible refine (tot_ref15_within _ _ _).mono (fun r _ => ?_)
    | with_reducible refine (tot_ref15_plain _ _ _ _ ?_).mono (fun r _ => ?_)
    | with_reducible refine (tot_ref15_hops _ _ ?_).mono (fun r _ => ?_)
    | with_reducible refine wp_byteAt ?_ ?_ (fun y _ _ => ?_)
    | with_reducible refine wp_idx ?_ ?_ (fun y _ _ => ?_)
    | with_reducible refine wp_bifn (fun _ => ?_) (fun _ => ?_)
    | with_reducible refine wp_bifd (fun _ => ?_) (fun _ => ?_)
    | with_reducible refine wp_bif (fun _ => ?_) (fun _ => ?_)
    | with_reducible refine wp_cut2 ?_
    | with_reducible refine wp_for (fun s _ _ => ?_) (fun s _ _ => ?_)
    | simp only [idx_of ‹_[_]? = some _›, Option.bind_some]
    | with_reducible refine wp_map ?_
    | with_reducible refine wp_bind ?_
    | with_reducible refine e2l ?_
    | with_reducible refine e2r ?_
    | exact wrap_i64 (by omega) (by omega)
    | omega
    | (rw [wrap_i64 (by omega) (by omega)]; omega)
    | (simp only [beq_iff_eq] at *; omega)
    | (simp only [List.length_cons, List.length_nil] at *; exact wrap_i64 (by omega) (by omega)))

theorem tot_ref15_validDistance (a1 : Ty.El (tRoute)) (h0 : RtS a1) : Wp (ref15_validDistance (a1, ())) (fun _ => True) := by
  have hh0 := h0
  obtain ⟨p01, p02⟩ := hh0
  unfold ref15_validDistance
  try dsimp only
  repeat' (first
    | with_reducible exact trivial
    | assumption
    | contradiction
    | with_reducible refine wp_some ?_
    | with_reducible refine (tot_ref15_within _ _ _).mono (fun r _ => ?_)
    | with_reducible refine (tot_ref15_plain _ _ _ _ ?_).mono (fun r _ => ?_)
    | with_reducible refine (tot_ref15_hops _ _ ?_).mono (fun r _ => ?_)
    | with_reducible refine wp_byteAt ?_ ?_ (fun y _ _ => ?_)
    | with_reducible refine wp_idx ?_ ?_ (fun y _ _ => ?_)
    | with_reducible refine wp_bifn (fun _ => ?_) (fun _ => ?_)
    | with_reducible refine wp_bifd (fun _ => ?_) (fun _ => ?_)
    | with_reducible refine wp_bif (fun _ => ?_) (fun _ => ?_)
    | with_reducible refine wp_cut2 ?_
    | with_reducible refine wp_for (fun s _ _ => ?_) (fun s _ _ => ?_)
    | simp only [idx_of ‹_[_]? = some _›, Option.bind_some]
    | with_reducible refine wp_map ?_
    | with_reducible refine wp_bind ?_
    | with_reducible refine e2l ?_
    | with_reducible refine e2r ?_
    | exact wrap_i64 (by omega) (by omega)
    | omega
    | (rw [wrap_i64 (by omega) (by omega)]; omega)
    | (simp only [beq_iff_eq] at *; omega)
    | (simp only [List.length_cons, List.length_nil] at *; exact wrap_i64 (by omega) (by omega)))

theorem tot_ref15_validPath (a1 : Ty.El (tRoute)) (h0 : RtS a1) : Wp (ref15_validPath (a1, ())) (fun _ => True) := by
  have hh0 := h0
  obtain ⟨p01, p02⟩ := hh0
  unfold ref15_validPath
  try dsimp only
  repeat' (first
    | with_reducible exact trivial
    | assumption
    | contradiction
    | with_reducible refine wp_some ?_
    | with_reducible refine (tot_ref15_within _ _ _).mono (fun r _ => ?_)
    | with_reducible refine (tot_ref15_plain _ _ _ _ ?_).mono (fun r _ => ?_)
    | with_reducible refine (tot_ref15_hops _ _ ?_).mono (fun r _ => ?_)
    | with_reducible refine wp_byteAt ?_ ?_ (fun y _ _ => ?_)
    | with_reducible refine wp_idx ?_ ?_ (fun y _ _ => ?_)
    | with_reducible refine wp_bifn (fun _ => ?_) (fun _ => ?_)
    | with_reducible refine wp_bifd (fun _ => ?_) (fun _ => ?_)
    | with_reducible refine wp_bif (fun _ => ?_) (fun _ => ?_)
    | with_reducible refine wp_cut2 ?_
    | with_reducible refine wp_for (fun s _ _ => ?_) (fun s _ _ => ?_)
    | simp only [idx_of ‹_[_]? = some _›, Option.bind_some]
    | with_reducible refine wp_map ?_
    | with_reducible refine wp_bind ?_
    | with_reducible refine e2l ?_
    | with_reducible refine e2r ?_
    | exact wrap_i64 (by omega) (by omega)
    | omega
    | (rw [wrap_i64 (by omega) (by omega)]; omega)
    | (simp only [beq_iff_eq] at *; omega)
    | (simp only [List.length_cons, List.length_nil] at *; exact wrap_i64 (by omega) (by omega)))

theorem tot_ref15_Valid (a1 : Ty.El (tRoute)) (h0 : RtS a1) : Wp (ref15_Valid (a1, ())) (fun _ => True) := by
  have hh0 := h0
  obtain ⟨p01, p02⟩ := hh0
  unfold ref15_Valid
  try dsimp only
  repeat' (first
    | with_reducible exact trivial
    | assumption
    | contradiction
    | with_reducible refine wp_some ?_
    | with_reducible refine (tot_ref4_Valid _).mono (fun r _ => ?_)
    | with_reducible refine (tot_ref15_within _ _ _).mono (fun r _ => ?_)
    | with_reducible refine (tot_ref15_plain _ _ _ _ ?_).mono (fun r _ => ?_)
    | with_reducible refine (tot_ref15_hops _ _ ?_).mono (fun r _ => ?_)
    | with_reducible refine (tot_ref15_validStatic _ ?_).mono (fun r _ => ?_)
    | with_reducible refine (tot_ref15_validLinkState _ ?_).mono (fun r _ => ?_)
    | with_reducible refine (tot_ref15_validDistance _ ?_).mono (fun r _ => ?_)
    | with_reducible refine (tot_ref15_validPath _ ?_).mono (fun r _ => ?_)
    | with_reducible refine wp_byteAt ?_ ?_ (fun y _ _ => ?_)
    | with_reducible refine wp_idx ?_ ?_ (fun y _ _ => ?_)
    | with_reducible refine wp_bifn (fun _ => ?_) (fun _ => ?_)
    | with_reducible refine wp_bifd (fun _ => ?_) (fun _ => ?_)
    | with_reducible refine wp_bif (fun _ => ?_) (fun _ => ?_)
    | with_reducible refine wp_cut2 ?_
    | with_reducible refine wp_for (fun s _ _ => ?_) (fun s _ _ => ?_)
    | simp only [idx_of ‹_[_]? = some _›, Option.bind_some]
    | with_reducible refine wp_map ?_
    | with_reducible refine wp_bind ?_
    | with_reducible refine e2l ?_
    | with_reducible refine e2r ?_
    | exact wrap_i64 (by omega) (by omega)
    | omega
    | (rw [wrap_i64 (by omega) (by omega)]; omega)
    | (simp only [beq_iff_eq] at *; omega)
    | (simp only [List.length_cons, List.length_nil] at *; exact wrap_i64 (by omega) (by omega)))

theorem tot_ref15_Table (a1 : Ty.El (.sl tRoute)) (a2 : Ty.El (tI)) (h0 : List.length a1 ≤ 1048576) (h1 : ∀ y, y ∈ a1 → RtS y) : Wp (ref15_Table (a1, a2, ())) (fun _ => True) := by
  unfold ref15_Table
  try dsimp only
  repeat' (first
    | with_reducible exact trivial
    | assumption
    | contradiction
    | with_reducible refine wp_some ?_
    | with_reducible refine (tot_ref15_Valid _ ?_).mono (fun r _ => ?_)
    | with_reducible refine (tot_ref4_Compare _ _).mono (fun r _ => ?_)
    | with_reducible refine wp_byteAt ?_ ?_ (fun y _ _ => ?_)
    | with_reducible refine wp_idxA h1 ?_ ?_ (fun y _ _ => ?_)
    | with_reducible refine wp_idx ?_ ?_ (fun y _ _ => ?_)
    | with_reducible refine wp_bifn (fun _ => ?_) (fun _ => ?_)
    | with_reducible refine wp_bifd (fun _ => ?_) (fun _ => ?_)
    | with_reducible refine wp_bif (fun _ => ?_) (fun _ => ?_)
    | with_reducible refine wp_cut2 ?_
    | with_reducible refine wp_for (fun s _ _ => ?_) (fun s _ _ => ?_)
    | simp only [idx_of ‹_[_]? = some _›, Option.bind_some]
    | with_reducible refine wp_map ?_
    | with_reducible refine wp_bind ?_
    | with_reducible refine e2l ?_
    | with_reducible refine e2r ?_
    | exact wrap_i64 (by omega) (by omega)
    | omega
    | (rw [wrap_i64 (by omega) (by omega)]; omega)
    | (simp only [beq_iff_eq] at *; omega)
    | (simp only [List.length_cons, List.length_nil] at *; exact wrap_i64 (by omega) (by omega)))

end Go.Ve

namespace Go.Ve
open Go
set_option maxRecDepth 1000000
set_option maxHeartbeats 4000000

/-- Two lists of one length are walked side by side. -/
theorem wp_zip {α ρ : Type} {xs ys : List α} {body : Int → Option (Int ⊕ (Unit ⊕ ρ))} {K : Unit → Option ρ} {Q : ρ → Prop} (hl : xs.length < 4611686018427387904) (he : xs.length = ys.length)
    (step : ∀ (i : Nat) x y, xs[i]? = some x → ys[i]? = some y → Wp (body (i : Int)) (Either2 (fun s' => s' = IntKind.wrap IntKind.i64 ((i : Int) + 1) ∧ x = y) (Either2 (fun _ => False) Q))) (fin : xs = ys → Wp (K ()) Q) :
    Wp (cut2 (loopX (fun s : Int => bif decide (s < (xs.length : Int)) then body s else some (Sum.inr (Sum.inl ()))) (0 : Int)) K) Q := by
  refine wp_find hl (fun i => ∀ j, j < i → xs[j]? = ys[j]?) (fun j hj => by omega) ?_ (fun h => fin ?_)
  · intro i x hx hj
    have hi := (List.getElem?_eq_some_iff.1 hx).1
    have hy : ys[i]? = some (ys[i]'(by omega)) := by simp
    refine (step i x _ hx hy).mono ?_
    intro o ho
    cases o with
    | inl s' =>
      refine ⟨ho.1, ?_⟩
      intro j hj'
      rcases Nat.lt_or_ge j i with h' | h'
      · exact hj j h'
      · have : j = i := by omega
        subst this
        rw [hx, hy, ho.2]
    | inr o => exact ho
  · refine List.ext_getElem? (fun j => ?_)
    rcases Nat.lt_or_ge j xs.length with h' | h'
    · exact h j h'
    · rw [List.getElem?_eq_none h', List.getElem?_eq_none (by omega)]

theorem same_iff (a b : Ty.El tRoute) (ha : RtS a) : Wp (ref15_Same (a, b, ())) (fun r => r = true ↔ a = b) := by
  obtain ⟨hp, hh⟩ := ha
  obtain ⟨⟨pa, pl, ⟨⟩⟩, pr, cl, ad, me, inn, tg, pf, path, fr, nx, hops, dc, ⟨⟩⟩ := a
  obtain ⟨⟨pa', pl', ⟨⟩⟩, pr', cl', ad', me', inn', tg', pf', path', fr', nx', hops', dc', ⟨⟩⟩ := b
  simp only at hp hh
  unfold ref15_Same
  dsimp only
  refine wp_bind ((show Wp _ (fun s : Bool => (s = true → ¬ (pa = pa' ∧ pl = pl' ∧ pr = pr' ∧ cl = cl' ∧ ad = ad' ∧ me = me' ∧ inn = inn' ∧ tg = tg' ∧ pf = pf' ∧ fr = fr' ∧ nx = nx' ∧ dc = dc' ∧ path.length = path'.length ∧ hops.length = hops'.length)) ∧
    (s = false → pa = pa' ∧ pl = pl' ∧ pr = pr' ∧ cl = cl' ∧ ad = ad' ∧ me = me' ∧ inn = inn' ∧ tg = tg' ∧ pf = pf' ∧ fr = fr' ∧ nx = nx' ∧ dc = dc' ∧ path.length = path'.length ∧ hops.length = hops'.length)) from ?_).mono ?_)
  · iterate 12 (refine wp_bif (fun h => wp_some ⟨fun _ e => ?_, fun h => by cases h⟩) (fun _ => ?_); · simp_all)
    refine wp_some ⟨fun h e => ?_, fun h => ?_⟩
    · simp_all
    · simp_all <;> omega
  intro s hs
  refine wp_bif (fun h => wp_some ?_) (fun h => ?_)
  · have h1 := hs.1 h
    constructor
    · intro h'; cases h'
    · intro e
      exfalso
      apply h1
      simp only [Prod.mk.injEq] at e
      obtain ⟨⟨e1, e2, _⟩, e3, e4, e5, e6, e7, e8, e9, e10, e11, e12, e13, e14, _⟩ := e
      exact ⟨e1, e2, e3, e4, e5, e6, e7, e8, e9, e11, e12, e14, by rw [e10], by rw [e13]⟩
  obtain ⟨rfl, rfl, rfl, rfl, rfl, rfl, rfl, rfl, rfl, rfl, rfl, rfl, l1, l2⟩ := hs.2 h
  refine wp_zip (xs := path) (ys := path') (by omega) l1 ?_ (fun e1 => ?_)
  · intro i x y hx hy
    simp only [idx_nat hx, idx_nat hy, Option.bind_some]
    refine wp_bif (fun h => wp_some (e2r (e2r ?_))) (fun h => wp_some (e2l ⟨rfl, ?_⟩))
    · constructor
      · intro h'; cases h'
      · intro e
        exfalso
        simp only [Prod.mk.injEq] at e
        obtain ⟨_, _, _, _, _, _, _, _, e10, _⟩ := e
        rw [e10, hy] at hx
        cases hx
        simp at h
    · simpa using h
  subst e1
  refine wp_zip (xs := hops) (ys := hops') (by omega) l2 ?_ (fun e1 => ?_)
  · intro i x y hx hy
    simp only [idx_nat hx, idx_nat hy, Option.bind_some]
    refine wp_bif (fun h => wp_some (e2r (e2r ?_))) (fun h => wp_some (e2l ⟨rfl, ?_⟩))
    · constructor
      · intro h'; cases h'
      · intro e
        exfalso
        simp only [Prod.mk.injEq] at e
        obtain ⟨_, _, _, _, _, _, _, _, _, _, _, e10, _⟩ := e
        rw [e10, hy] at hx
        cases hx
        simp at h
    · exact pre_eq (by simpa using h)
  subst e1
  exact wp_some ⟨fun _ => rfl, fun _ => rfl⟩

theorem tot_addr_Contains (p : Ty.El tPrefix) (a : Int) : Wp (addr_Contains (p, a, ())) (fun _ => True) := by
  unfold addr_Contains addr_Mask addr_clamp
  simp only [Option.bind_some]
  refine wp_bind (wp_bif (fun _ => wp_some (wp_some trivial)) (fun h => ?_))
  exfalso
  simp only [decide_eq_false_iff_not] at h
  apply h
  split <;> split <;> (rw [wrap_i64 (by omega) (by omega)]; omega)

/-- A value that is there. -/
theorem some_getD {α : Type} {m : Option α} {x : α} (h : Wp m (fun _ => True)) : m = some (m.getD x) := by
  obtain ⟨r, h, _⟩ := h
  rw [h]; rfl

noncomputable def cont (p : Ty.El tPrefix) (a : Int) : Bool := (addr_Contains (p, a, ())).getD false

theorem cont_eq (p : Ty.El tPrefix) (a : Int) : addr_Contains (p, a, ()) = some (cont p a) := some_getD (tot_addr_Contains p a)

/-- Two prefixes are the same, as the code compares them. -/
def preB (p q : Ty.El tPrefix) : Bool := p.fst == q.fst && (p.snd.fst == q.snd.fst && true)

theorem preB_iff {p q : Ty.El tPrefix} : preB p q = true ↔ p = q := ⟨fun h => pre_eq h, fun h => by subst h; simp [preB]⟩

noncomputable def rstep (own : Ty.El tPrefix) (a : Int) (best : Option (Ty.El tRoute)) (x : Ty.El tRoute) : Option (Ty.El tRoute) :=
  if preB x.1 own || !cont x.1 a then best else match best with
    | none => some x
    | some b => if x.1.2.1 > b.1.2.1 then some x else best

theorem rstep_skip {own : Ty.El tPrefix} {a : Int} {b : Option (Ty.El tRoute)} {x : Ty.El tRoute} (h : (preB x.1 own || !cont x.1 a) = true) : rstep own a b x = b := by
  unfold rstep; rw [if_pos h]

theorem rstep_none {own : Ty.El tPrefix} {a : Int} {x : Ty.El tRoute} (h : (preB x.1 own || !cont x.1 a) = false) : rstep own a none x = some x := by
  unfold rstep; rw [if_neg (by rw [h]; simp)]

theorem rstep_some {own : Ty.El tPrefix} {a : Int} {b x : Ty.El tRoute} (h : (preB x.1 own || !cont x.1 a) = false) : rstep own a (some b) x = if x.1.2.1 > b.1.2.1 then some x else some b := by
  unfold rstep; rw [if_neg (by rw [h]; simp)]

/-- The route of the longest prefix other than its own. -/
noncomputable def resolveR (t : List (Ty.El tRoute)) (own : Ty.El tPrefix) (a : Int) : Option (Ty.El tRoute) := t.foldl (rstep own a) none

theorem foldl_take {α β : Type} {f : β → α → β} {b : β} {xs : List α} {i : Nat} {x : α} (h : xs[i]? = some x) : (xs.take (i + 1)).foldl f b = f ((xs.take i).foldl f b) x := by
  rw [List.take_add_one, h]
  simp

theorem spec_static_Resolves (t : List (Ty.El tRoute)) (own : Ty.El tPrefix) (a : Int) (hl : t.length < 4611686018427387904) :
    Wp (static_Resolves (t, own, a, ())) (fun k => (k < 0 ∧ resolveR t own a = none) ∨ ∃ (i : Nat) (y : Ty.El tRoute), k = (i : Int) ∧ t[i]? = some y ∧ resolveR t own a = some y) := by
  unfold static_Resolves
  dsimp only
  refine wp_bind ((wp_fold (xs := t) hl (fun i (k : Int) => (k < 0 ∧ (t.take i).foldl (rstep own a) none = none) ∨ ∃ (m : Nat) (y : Ty.El tRoute), k = (m : Int) ∧ t[m]? = some y ∧ (t.take i).foldl (rstep own a) none = some y)
    (.inl ⟨by omega, rfl⟩) ?_ (fun g hg => ?_) (Q := fun k => (k < 0 ∧ resolveR t own a = none) ∨ ∃ (i : Nat) (y : Ty.El tRoute), k = (i : Int) ∧ t[i]? = some y ∧ resolveR t own a = some y)).mono (fun k hk => wp_some hk))
  · intro i x k hx hj
    rw [foldl_take hx]
    generalize (t.take i).foldl (rstep own a) none = b at hj
    simp only [idx_nat hx, Option.bind_some]
    refine wp_bind ((show Wp _ (fun s : Bool => s = (preB x.1 own || !cont x.1 a)) from ?_).mono ?_)
    · refine wp_bif (fun h => wp_some ?_) (fun h => wp_bind (wp_eq (cont_eq _ _) (wp_some ?_)))
      · have h' : preB x.1 own = true := h
        simp [h']
      · have h' : preB x.1 own = false := h
        simp [h']
    intro s hs
    refine wp_bif (fun h => wp_some ?_) (fun h => ?_)
    · rw [rstep_skip (by rw [← hs, h])]
      exact hj
    · have hsk : (preB x.1 own || !cont x.1 a) = false := by rw [← hs, h]
      rcases hj with ⟨h1, rfl⟩ | ⟨m, y, rfl, h2, rfl⟩
      · refine wp_bind (wp_bif (fun _ => wp_some ?_) (fun h' => ?_))
        · exact wp_some (.inr ⟨i, x, rfl, hx, rstep_none hsk⟩)
        · exfalso; simp only [decide_eq_false_iff_not] at h'; exact h' h1
      · refine wp_bind (wp_bif (fun h' => ?_) (fun _ => ?_))
        · exfalso; simp only [decide_eq_true_eq] at h'; omega
        · simp only [idx_nat h2, Option.bind_some]
          refine wp_some (wp_bifd (fun h' => ?_) (fun h' => ?_))
          · exact wp_some (.inr ⟨i, x, rfl, hx, by rw [rstep_some hsk, if_pos h']⟩)
          · exact wp_some (.inr ⟨m, y, rfl, h2, by rw [rstep_some hsk, if_neg h']⟩)
  · rw [List.take_length] at hg
    exact hg
end Go.Ve

namespace Go.Ve
open Go
set_option maxRecDepth 1000000
set_option maxHeartbeats 4000000

def endB (e y : Ty.El tPorts) : Bool := y.fst == e.fst && (y.snd.fst == e.snd.fst && true)

theorem endB_iff {e y : Ty.El tPorts} : endB e y = true ↔ y = e := ⟨fun h => pre_eq h, fun h => by subst h; simp [endB]⟩

/-- The index of the domain of an interface, or -1. -/
def domIdx (v : Ty.El tView) (r i : Int) : Int := fidx (fun d : Ty.El tDomain => d.2.2.1.any (endB (r, i, ()))) v.2.1.1

/-- The index of its link, or -1. -/
def linkIdx (v : Ty.El tView) (r i : Int) : Int := fidx (fun l : Int => decide (domIdx v r i ≥ 0) && l == domIdx v r i) v.2.1.2.1

def upB (v : Ty.El tView) (r i : Int) : Bool := decide (0 ≤ domIdx v r i) && v.2.2.1.all (fun x : Int => !(x == linkIdx v r i))

/-- The lists of a view are short. -/
structure ViewS (v : Ty.El tView) : Prop where
  rs : v.1.1.length ≤ 9
  sm : ∀ y, y ∈ v.1.1 → SmR y
  doms : v.2.1.1.length ≤ 360
  ends : ∀ d, d ∈ v.2.1.1 → d.2.2.1.length ≤ 360
  links : v.2.1.2.1.length ≤ 12
  link0 : ∀ l, l ∈ v.2.1.2.1 → (0 : Int) ≤ l
  down : v.2.2.1.length ≤ 2
  down0 : ∀ l, l ∈ v.2.2.1 → (0 : Int) ≤ l

theorem ViewOk.s {n : Ty.El tNetwork} {d : List Int} {v : Ty.El tView} (h : ViewOk n d v) : ViewS v where
  rs := by rw [h.net]; exact h.rs
  sm := by rw [h.net]; exact h.sm
  doms := h.topo.doms
  ends := fun d hd => (h.topo.ends d hd).1
  links := h.topo.links
  link0 := fun l hl => (h.topo.link l hl).1
  down := by rw [h.dn]; exact h.down.len
  down0 := by rw [h.dn]; exact fun l hl => (h.down.lo l hl).1

theorem fidx_nonneg {α : Type} {p : α → Bool} {xs : List α} : fidx p xs ≥ 0 ↔ xs.any p = true := by
  rcases fidx_cases p xs with ⟨h, h2⟩ | ⟨i, x, h, h2, h3, _⟩
  · rw [h]
    constructor
    · intro h'; omega
    · intro h'
      obtain ⟨x, hx, hp⟩ := List.any_eq_true.1 h'
      rw [h2 x hx] at hp
      cases hp
  · rw [h]
    exact ⟨fun _ => List.any_eq_true.2 ⟨x, List.mem_of_getElem? h2, h3⟩, fun _ => by omega⟩

theorem fidx_ge {α : Type} {p : α → Bool} {xs : List α} : -1 ≤ fidx p xs := by
  rcases fidx_cases p xs with ⟨h, h2⟩ | ⟨i, x, h, h2, h3, _⟩ <;> omega

theorem fidx_lt {α : Type} {p : α → Bool} {xs : List α} (h : 0 ≤ fidx p xs) : ∃ x, xs[(fidx p xs).toNat]? = some x ∧ p x = true := by
  rcases fidx_cases p xs with ⟨h1, h2⟩ | ⟨i, x, h1, h2, h3, _⟩
  · omega
  · rw [h1]; exact ⟨x, by simpa using h2, h3⟩

theorem spec_slices_Index_End (l : List (Ty.El tPorts)) (e : Ty.El tPorts) (hl : l.length ≤ 1048576) : Wp (slices_Index_End (l, e, ())) (fun k => k = fidx (endB e) l) := by
  unfold slices_Index_End
  dsimp only
  refine wp_fidx (p := endB e) (by omega) ?_ rfl
  intro i x hx
  simp only [idx_nat hx, Option.bind_some]
  have : (e.fst == x.fst && (e.snd.fst == x.snd.fst && true)) = endB e x := by
    unfold endB
    rw [Bool.eq_iff_iff]
    simp only [Bool.and_true, Bool.and_eq_true, beq_iff_eq]
    exact ⟨fun h => ⟨h.1.symm, h.2.symm⟩, fun h => ⟨h.1.symm, h.2.symm⟩⟩
  rw [this]
  cases endB e x <;> rfl

theorem spec_slices_Contains_End (l : List (Ty.El tPorts)) (e : Ty.El tPorts) (hl : l.length ≤ 1048576) : Wp (slices_Contains_End (l, e, ())) (fun b => b = l.any (endB e)) := by
  unfold slices_Contains_End
  dsimp only
  refine wp_bind ((spec_slices_Index_End l e hl).mono (fun k hk => wp_some ?_))
  subst hk
  rw [Bool.eq_iff_iff, decide_eq_true_eq]
  exact fidx_nonneg

theorem wp_val {α : Type} {m : Option α} {x : α} (h : Wp m (fun r => r = x)) : m = some x := by
  obtain ⟨r, h1, rfl⟩ := h; exact h1

theorem spec_topo_Domain (v : Ty.El tView) (r i : Int) (hv : ViewS v) : Wp (topo_Domain (v, r, i, ())) (fun k => k = domIdx v r i) := by
  unfold topo_Domain
  dsimp only
  have := hv.doms
  refine wp_fidx (p := fun d : Ty.El tDomain => d.2.2.1.any (endB (r, i, ()))) (by omega) ?_ rfl
  intro k x hx
  simp only [idx_nat hx, Option.bind_some]
  have := hv.ends x (List.mem_of_getElem? hx)
  have h1 := wp_val (spec_slices_Contains_End x.2.2.1 (r, i, ()) (by omega))
  refine (congrArg (fun m => Option.bind m _) h1).trans ?_
  simp only [Option.bind_some]
  cases List.any x.2.2.1 (endB (r, i, ())) <;> rfl

theorem spec_ref15_Domain (v : Ty.El tView) (r i : Int) (hv : ViewS v) : Wp (ref15_Domain (v, r, i, ())) (fun k => k = domIdx v r i) := by
  unfold ref15_Domain
  dsimp only
  have := hv.doms
  refine wp_find (by omega) (fun k => ∀ j y, j < k → v.2.1.1[j]? = some y → y.2.2.1.any (endB (r, i, ())) = false) (fun j y hj => by omega) ?_ ?_
  · intro k x hx hj
    have hends := hv.ends x (List.mem_of_getElem? hx)
    simp only [idx_nat hx, Option.bind_some]
    refine wp_find (xs := x.2.2.1) (by omega) (fun m => ∀ y, y ∈ x.2.2.1.take m → endB (r, i, ()) y = false) (fun y hy => by simp at hy) ?_ ?_
    · intro m y hy hm
      simp only [idx_nat hy, Option.bind_some]
      refine wp_bif (fun h => wp_some (e2r (e2r (e2r (e2r ?_))))) (fun h => wp_some (e2l ⟨rfl, ?_⟩))
      · have h1 : x.2.2.1.any (endB (r, i, ())) = true := List.any_eq_true.2 ⟨y, List.mem_of_getElem? hy, h⟩
        exact (fidx_at (p := fun d : Ty.El tDomain => d.2.2.1.any (endB (r, i, ()))) hx h1 hj).symm
      · intro z hz
        rw [List.take_add_one, hy] at hz
        simp only [Option.toList_some, List.mem_append, List.mem_singleton] at hz
        rcases hz with hz | rfl
        · exact hm z hz
        · exact h
    · intro hm
      rw [List.take_length] at hm
      refine wp_some (e2l ⟨rfl, ?_⟩)
      intro j y hj' hy
      rcases Nat.lt_or_ge j k with h' | h'
      · exact hj j y h' hy
      · have : j = k := by omega
        subst this
        rw [hx] at hy
        cases hy
        rw [Bool.eq_false_iff]
        intro h
        obtain ⟨z, hz, hz2⟩ := List.any_eq_true.1 h
        rw [hm z hz] at hz2
        cases hz2
  · intro hj
    refine wp_some (fidx_none ?_).symm
    intro x hx
    obtain ⟨j, hjl, rfl⟩ := List.getElem_of_mem hx
    exact hj j _ hjl (by simp [hjl])

theorem spec_slices_Index_int (l : List Int) (e : Int) (hl : l.length ≤ 1048576) : Wp (slices_Index_int (l, e, ())) (fun k => k = fidx (fun x => x == e) l) := by
  unfold slices_Index_int
  dsimp only
  refine wp_fidx (p := fun x : Int => x == e) (by omega) ?_ rfl
  intro i (x : Int) hx
  simp only [idx_nat hx, Option.bind_some]
  have : (e == x) = (x == e) := by rw [Bool.eq_iff_iff, beq_iff_eq, beq_iff_eq]; exact eq_comm
  rw [this]
  cases x == e <;> rfl

theorem spec_slices_Contains_int (l : List Int) (e : Int) (hl : l.length ≤ 1048576) : Wp (slices_Contains_int (l, e, ())) (fun b => b = l.any (fun x => x == e)) := by
  unfold slices_Contains_int
  dsimp only
  refine wp_bind ((spec_slices_Index_int l e hl).mono (fun k hk => wp_some ?_))
  subst hk
  rw [Bool.eq_iff_iff, decide_eq_true_eq]
  exact fidx_nonneg

theorem spec_topo_Link (v : Ty.El tView) (r i : Int) (hv : ViewS v) : Wp (topo_Link (v, r, i, ())) (fun k => k = linkIdx v r i) := by
  unfold topo_Link
  dsimp only
  refine wp_bind ((spec_topo_Domain v r i hv).mono (fun k hk => ?_))
  subst hk
  refine wp_bifd (fun h => wp_some ?_) (fun h => ?_)
  · unfold linkIdx
    rw [fidx_none]
    intro x _
    have : ¬ (domIdx v r i ≥ 0) := by omega
    simp [this]
  · have := hv.links
    refine wp_bind ((spec_slices_Index_int _ _ (by omega)).mono (fun k hk => wp_some ?_))
    rw [hk]
    unfold linkIdx
    have h2 : domIdx v r i ≥ 0 := by omega
    congr 1
    funext l
    simp [h2]

theorem spec_ref15_Link (v : Ty.El tView) (r i : Int) (hv : ViewS v) : Wp (ref15_Link (v, r, i, ())) (fun k => k = linkIdx v r i) := by
  unfold ref15_Link
  dsimp only
  refine wp_bind ((spec_ref15_Domain v r i hv).mono (fun k hk => ?_))
  subst hk
  have := hv.links
  refine wp_fidx (p := fun l : Int => decide (domIdx v r i ≥ 0) && l == domIdx v r i) (by omega) ?_ rfl
  intro i' (x : Int) hx
  simp only [idx_nat hx, Option.bind_some]
  cases decide (domIdx v r i ≥ 0) <;> cases x == domIdx v r i <;> rfl

theorem all_not_any {α : Type} {p : α → Bool} (l : List α) : (!l.any p) = l.all (fun x => !p x) := by
  induction l with
  | nil => rfl
  | cons x l ih => simp [← ih]

theorem spec_topo_Up (v : Ty.El tView) (r i : Int) (hv : ViewS v) : Wp (topo_Up (v, r, i, ())) (fun b => b = upB v r i) := by
  unfold topo_Up
  dsimp only
  refine wp_bind ((spec_topo_Domain v r i hv).mono (fun k hk => ?_))
  subst hk
  refine wp_bifd (fun h => wp_some ?_) (fun h => ?_)
  · unfold upB
    have : ¬ (0 ≤ domIdx v r i) := by omega
    simp [this]
  · refine wp_bind ((spec_topo_Link v r i hv).mono (fun k hk => ?_))
    subst hk
    have h0 : 0 ≤ domIdx v r i := by omega
    have hd := hv.down
    refine wp_bind (wp_bifd (fun h => wp_some (wp_some ?_)) (fun h => ?_))
    · unfold upB
      simp only [h0, decide_true, Bool.true_and]
      symm
      rw [List.all_eq_true]
      intro x hx
      have := hv.down0 x hx
      simp only [Bool.not_eq_true', beq_eq_false_iff_ne]
      omega
    · refine wp_bind ((spec_slices_Contains_int _ _ (by omega)).mono (fun b hb => wp_some (wp_some ?_)))
      subst hb
      unfold upB
      simp only [h0, decide_true, Bool.true_and]
      exact all_not_any _

theorem spec_ref15_Up (v : Ty.El tView) (r i : Int) (hv : ViewS v) : Wp (ref15_Up (v, r, i, ())) (fun b => b = upB v r i) := by
  unfold ref15_Up
  dsimp only
  refine wp_bind ((spec_ref15_Domain v r i hv).mono (fun k hk => ?_))
  subst hk
  refine wp_bifd (fun h => wp_some ?_) (fun h => ?_)
  · unfold upB
    have : ¬ (0 ≤ domIdx v r i) := by omega
    simp [this]
  · refine wp_bind ((spec_ref15_Link v r i hv).mono (fun k hk => ?_))
    subst hk
    have h0 : 0 ≤ domIdx v r i := by omega
    have hd := hv.down
    refine wp_all (P := fun x : Int => (x == linkIdx v r i) = false) (by omega) ?_ (fun hall => wp_some ?_)
    · intro i' (x : Int) hx
      simp only [idx_nat hx, Option.bind_some]
      refine wp_bif (fun h => wp_some (e2r (e2r ?_))) (fun h => wp_some (e2l ⟨rfl, h⟩))
      unfold upB
      simp only [h0, decide_true, Bool.true_and]
      symm
      rw [Bool.eq_false_iff]
      intro hh
      have := List.all_eq_true.1 hh x (List.mem_of_getElem? hx)
      simp [h] at this
    · unfold upB
      simp only [h0, decide_true, Bool.true_and]
      symm
      rw [List.all_eq_true]
      intro x hx
      simp [hall x hx]

/-- The index of the interface with this name, or -1. -/
def ifIdx (r : Ty.El tRouter) (nm : Ty.El .str) : Int := fidx (fun x : Ty.El tIface => x.1 == nm) r.2.2.1

theorem spec_model_Interface (r : Ty.El tRouter) (nm : Ty.El .str) (hr : SmR r) : Wp (model_Interface (r, nm, ())) (fun k => k = ifIdx r nm) := by
  unfold model_Interface slices_IndexFunc_Interface__c63 model_Interface_c1
  dsimp only
  have := hr.i1
  refine wp_bind (wp_fidx (p := fun x : Ty.El tIface => x.1 == nm) (by omega) ?_ (wp_some rfl))
  intro i x hx
  simp only [idx_nat hx, Option.bind_some]
  cases x.1 == nm <;> rfl

theorem spec_ref8_Interface (r : Ty.El tRouter) (nm : Ty.El .str) (hr : SmR r) : Wp (ref8_Interface (r, nm, ())) (fun k => k = ifIdx r nm) := by
  unfold ref8_Interface
  dsimp only
  have := hr.i1
  refine wp_fidx (p := fun x : Ty.El tIface => x.1 == nm) (by omega) ?_ rfl
  intro i x hx
  simp only [idx_nat hx, Option.bind_some]
  cases x.1 == nm <;> rfl
end Go.Ve

namespace Go.Ve
open Go
set_option maxRecDepth 1000000
set_option maxHeartbeats 4000000

/-- What becomes of a static route. -/
noncomputable def act (v : Ty.El tView) (t : List (Ty.El tRoute)) (r : Int) (rt : Ty.El tRouter) (x : Ty.El tStatic) : Option (Ty.El tRoute) :=
  bif x.2.1 != (0 : Int) then match resolveR t x.1 x.2.1 with
    | none => none
    | some y => bif y.2.2.2.2.2.2.2.2.2.2.2.2.1 then none else some (x.1, (2 : Int), (0 : Int), x.2.2.2.2.1, (0 : Int), (0 : Int), x.2.2.2.2.2.1, (0 : Int), [], (0 : Int), x.2.1, [], false, ())
  else bif x.2.2.1 != { data := #[] } then
    bif upB v r (ifIdx rt x.2.2.1) then some (x.1, (2 : Int), (0 : Int), x.2.2.2.2.1, (0 : Int), (0 : Int), x.2.2.2.2.2.1, (0 : Int), [], (0 : Int), (0 : Int), [(ifIdx rt x.2.2.1, (0 : Int), ())], false, ()) else none
  else bif x.2.2.2.1 then some (x.1, (2 : Int), (0 : Int), x.2.2.2.2.1, (0 : Int), (0 : Int), x.2.2.2.2.2.1, (0 : Int), [], (0 : Int), (0 : Int), [], true, ()) else none

theorem act_pre {v : Ty.El tView} {t : List (Ty.El tRoute)} {r : Int} {rt : Ty.El tRouter} {x : Ty.El tStatic} {y : Ty.El tRoute} (h : act v t r rt x = some y) : y.1 = x.1 ∧ RtS y := by
  unfold act at h
  have fin : ∀ (z : Ty.El tRoute), (some z : Option (Ty.El tRoute)) = some y → z.1 = x.1 → RtS z → y.1 = x.1 ∧ RtS y := by
    intro z hz h1 h2
    cases hz
    exact ⟨h1, h2⟩
  cases h1 : (x.2.1 != (0 : Int)) with
  | true =>
    rw [h1, cond_true] at h
    split at h
    · cases h
    · rename_i z _
      cases h2 : z.2.2.2.2.2.2.2.2.2.2.2.2.1 with
      | true => rw [h2, cond_true] at h; cases h
      | false => rw [h2, cond_false] at h; exact fin _ h rfl ⟨Nat.zero_le _, Nat.zero_le _⟩
  | false =>
    rw [h1, cond_false] at h
    cases h2 : (x.2.2.1 != { data := #[] }) with
    | true =>
      rw [h2, cond_true] at h
      cases h3 : upB v r (ifIdx rt x.2.2.1) with
      | true => rw [h3, cond_true] at h; exact fin _ h rfl ⟨Nat.zero_le _, (show 1 ≤ 1048576 by omega)⟩
      | false => rw [h3, cond_false] at h; cases h
    | false =>
      rw [h2, cond_false] at h
      cases h3 : x.2.2.2.1 with
      | true => rw [h3, cond_true] at h; exact fin _ h rfl ⟨Nat.zero_le _, Nat.zero_le _⟩
      | false => rw [h3, cond_false] at h; cases h

theorem filterMap_take {α β : Type} {f : α → Option β} {xs : List α} {i : Nat} {x : α} (h : xs[i]? = some x) : (xs.take (i + 1)).filterMap f = (xs.take i).filterMap f ++ (f x).toList := by
  rw [List.take_add_one, h, Option.toList_some, List.filterMap_append, List.filterMap_cons, List.filterMap_nil]
  cases f x <;> rfl

theorem spec_static_Active (v : Ty.El tView) (t : List (Ty.El tRoute)) (r : Nat) (rt : Ty.El tRouter) (hv : ViewS v) (hr : v.1.1[r]? = some rt) (ht : t.length ≤ 1048576) :
    Wp (static_Active (v, t, (r : Int), ())) (fun out => out = rt.2.2.2.2.2.2.2.1.filterMap (act v t r rt)) := by
  unfold static_Active
  dsimp only
  have hrl := (List.getElem?_eq_some_iff.1 hr).1
  have hsm := hv.sm rt (List.mem_of_getElem? hr)
  have hst := hsm.i6
  have hr0 : ¬ ((r : Int) < 0) := by omega
  have hr1 : ¬ ((r : Int) ≥ (List.length v.1.1 : Int)) := by omega
  refine wp_bind (wp_bifd (fun h => absurd h hr0) (fun h => wp_some ?_))
  refine wp_bifd (fun h => absurd h hr1) (fun h => ?_)
  simp only [idx_nat hr, Option.bind_some]
  refine wp_bind ((wp_fold (xs := rt.2.2.2.2.2.2.2.1) (by omega) (fun i (g : List (Ty.El tRoute)) => g = (rt.2.2.2.2.2.2.2.1.take i).filterMap (act v t r rt)) rfl ?_ (Q := fun g => g = rt.2.2.2.2.2.2.2.1.filterMap (act v t r rt)) (fun g hg => by rw [hg, List.take_length])).mono (fun g hg => wp_some hg))
  intro i x g hx hg
  have hi := (List.getElem?_eq_some_iff.1 hx).1
  have hgl : g.length ≤ i := by
    rw [hg]
    refine Nat.le_trans (List.length_filterMap_le _ _) ?_
    rw [List.length_take]
    omega
  simp only [idx_nat hx, Option.bind_some]
  rw [filterMap_take hx, ← hg]
  have skip : act v t r rt x = none → (Either2 (fun s : List (Ty.El tRoute) × Ty.El tRoute => Wp (Option.bind (app (136 : Nat) s.fst [s.snd]) fun y68 => some y68) (fun g' => g' = g ++ (act v t r rt x).toList)) (fun g' => g' = g ++ (act v t r rt x).toList)) (Sum.inr g) := by
    intro h
    rw [h]
    exact e2r (List.append_nil g).symm
  have take : ∀ y, act v t r rt x = some y → (Either2 (fun s : List (Ty.El tRoute) × Ty.El tRoute => Wp (Option.bind (app (136 : Nat) s.fst [s.snd]) fun y68 => some y68) (fun g' => g' = g ++ (act v t r rt x).toList)) (fun g' => g' = g ++ (act v t r rt x).toList)) (Sum.inl (g, y)) := by
    intro y h
    rw [h]
    refine e2l (wp_bind (wp_app (by simp only [List.length_singleton]; omega) (wp_some rfl)))
  refine wp_cut2 (wp_bif (fun h1 => ?_) (fun h1 => wp_bif (fun h2 => ?_) (fun h2 => wp_bif (fun h3 => ?_) (fun h3 => ?_))))
  · refine wp_bind ((spec_static_Resolves t x.1 x.2.1 (by omega)).mono (fun k hk => ?_))
    rcases hk with ⟨hk, hn⟩ | ⟨m, y, rfl, hm, hy⟩
    · refine wp_bind (wp_bifd (fun _ => wp_some (wp_some (skip ?_))) (fun h => absurd hk h))
      unfold act
      rw [h1, cond_true, hn]
    · refine wp_bind (wp_bifd (fun h => absurd h (by omega)) (fun _ => ?_))
      simp only [idx_nat hm, Option.bind_some]
      refine wp_some (wp_bif (fun h => wp_some (skip ?_)) (fun h => wp_some (take _ ?_)))
      · unfold act
        rw [h1, cond_true, hy]
        simp only
        have h : y.2.2.2.2.2.2.2.2.2.2.2.2.1 = true := h
        rw [h]; rfl
      · unfold act
        rw [h1, cond_true, hy]
        simp only
        have h : y.2.2.2.2.2.2.2.2.2.2.2.2.1 = false := h
        rw [h]; rfl
  · refine wp_bind ((spec_model_Interface rt x.2.2.1 hsm).mono (fun k hk => ?_))
    subst hk
    refine wp_bind ((spec_topo_Up v r _ hv).mono (fun b hb => ?_))
    subst hb
    refine wp_bif (fun h => wp_some (skip ?_)) (fun h => wp_some (take _ ?_))
    · unfold act
      rw [h1, cond_false, h2, cond_true]
      simp only [Bool.not_eq_true'] at h
      rw [h]; rfl
    · unfold act
      rw [h1, cond_false, h2, cond_true]
      simp only [Bool.not_eq_false'] at h
      rw [h]; rfl
  · refine wp_some (take _ ?_)
    unfold act
    rw [h1, cond_false, h2, cond_false, h3]; rfl
  · refine wp_some (skip ?_)
    unfold act
    rw [h1, cond_false, h2, cond_false, h3]; rfl

theorem resolveR_drop {t : List (Ty.El tRoute)} {k : Nat} {z : Ty.El tRoute} (hz : t[k]? = some z) (a : Int) : resolveR (t.take k ++ t.drop (k + 1)) z.1 a = resolveR t z.1 a := by
  have hk := (List.getElem?_eq_some_iff.1 hz).1
  have hz2 := (List.getElem?_eq_some_iff.1 hz).2
  have ht : t = t.take k ++ z :: t.drop (k + 1) := by
    rw [← hz2, ← List.drop_eq_getElem_cons hk, List.take_append_drop]
  unfold resolveR
  rw [List.foldl_append]
  conv => rhs; rw [ht]
  rw [List.foldl_append, List.foldl_cons, rstep_skip (by simp [preB])]

theorem act_drop {v : Ty.El tView} {t : List (Ty.El tRoute)} {r : Int} {rt : Ty.El tRouter} {x : Ty.El tStatic} {k : Nat} {z : Ty.El tRoute} (hz : t[k]? = some z) (hx : x.1 = z.1) :
    act v (t.take k ++ t.drop (k + 1)) r rt x = act v t r rt x := by
  unfold act
  rw [hx, resolveR_drop hz]
end Go.Ve

namespace Go.Ve
open Go

section
variable {α ρ : Type}

/-- A loop over a list that may end early, whose end is looked at elsewhere. -/
theorem wp_findL {xs : List α} {body : Int → Option (Int ⊕ (Unit ⊕ ρ))} {Q : Unit ⊕ ρ → Prop} (hl : xs.length < 4611686018427387904) (J : Nat → Prop) (h0 : J 0)
    (step : ∀ i x, xs[i]? = some x → J i → Wp (body (i : Int)) (Either2 (fun s' => s' = IntKind.wrap IntKind.i64 ((i : Int) + 1) ∧ J (i + 1)) (fun o => (∀ u, o ≠ Sum.inl u) ∧ Q o))) (fin : J xs.length → Q (Sum.inl ())) :
    Wp (loopX (fun s : Int => bif decide (s < (xs.length : Int)) then body s else some (Sum.inr (Sum.inl ()))) (0 : Int)) Q := by
  refine wp_loop (fun (s : Int) => ∃ i : Nat, s = (i : Int) ∧ i ≤ xs.length ∧ J i) (fun (s : Int) => ((xs.length : Int) - s).toNat) ⟨(0 : Nat), rfl, Nat.zero_le _, h0⟩ ?_
  rintro s ⟨i, hi, hle, hj⟩
  subst hi
  refine wp_bifd ?_ ?_
  · intro hc
    have hlt : i < xs.length := by omega
    refine (step i xs[i] (by simp [hlt]) hj).mono ?_
    intro o ho
    cases o with
    | inl s' =>
      obtain ⟨rfl, h2⟩ := ho
      rw [wrap_i64 (by omega) (by omega)]
      exact ⟨⟨i + 1, by omega, hlt, h2⟩, by omega⟩
    | inr o => exact ho.2
  · intro hc
    have : i = xs.length := by omega
    subst this
    exact wp_some (e2r (fin hj))

theorem wp_allL {xs : List α} {P : α → Prop} {body : Int → Option (Int ⊕ (Unit ⊕ ρ))} {Q : Unit ⊕ ρ → Prop} (hl : xs.length < 4611686018427387904)
    (step : ∀ (i : Nat) x, xs[i]? = some x → Wp (body (i : Int)) (Either2 (fun s' => s' = IntKind.wrap IntKind.i64 ((i : Int) + 1) ∧ P x) (fun o => (∀ u, o ≠ Sum.inl u) ∧ Q o))) (fin : (∀ x, x ∈ xs → P x) → Q (Sum.inl ())) :
    Wp (loopX (fun s : Int => bif decide (s < (xs.length : Int)) then body s else some (Sum.inr (Sum.inl ()))) (0 : Int)) Q := by
  refine wp_findL hl (fun i => ∀ j y, j < i → xs[j]? = some y → P y) (fun j y hj => by omega) ?_ (fun h => fin ?_)
  · intro i x hx hj
    refine (step i x hx).mono ?_
    intro o ho
    cases o with
    | inl s' =>
      refine ⟨ho.1, ?_⟩
      intro j y hj' hy
      rcases Nat.lt_or_ge j i with h' | h'
      · exact hj j y h' hy
      · have : j = i := by omega
        subst this
        rw [hx] at hy
        cases hy
        exact ho.2
    | inr o => exact ho
  · intro x hx
    obtain ⟨j, hjl, rfl⟩ := List.getElem_of_mem hx
    exact h j _ hjl (by simp [hjl])

/-- Whether something is among a list: the loop that looks through all of it. -/
theorem wp_any {xs : List α} {body : Int × Bool → Option Bool} {Q : Bool → Prop} {p : α → Prop} (hl : xs.length < 4611686018427387904)
    (step : ∀ (i : Nat) x, xs[i]? = some x → body ((i : Int), true) = some true ∧ Wp (body ((i : Int), false)) (fun b => b = true ↔ p x)) (fin : ∀ b : Bool, (b = true ↔ ∃ x, x ∈ xs ∧ p x) → Q b) :
    Wp (loopX (fun s : Int × Bool => bif decide (s.fst < (xs.length : Int)) then Option.bind (body s) (fun g => some (Sum.inl (IntKind.wrap IntKind.i64 (s.fst + (1 : Int)), g))) else some (Sum.inr s.snd)) ((0 : Int), false)) Q := by
  refine wp_fold hl (fun i b => b = true ↔ ∃ x, x ∈ xs.take i ∧ p x) (by simp) ?_ (fun b hb => fin b (by rw [List.take_length] at hb; exact hb))
  intro i x b hx hb
  obtain ⟨h1, h2⟩ := step i x hx
  have hm : ∀ y, y ∈ xs.take (i + 1) ↔ y ∈ xs.take i ∨ y = x := by
    intro y
    rw [List.take_add_one, hx, Option.toList_some, List.mem_append, List.mem_singleton]
  cases b with
  | true =>
    obtain ⟨y, hy, hp⟩ := hb.1 rfl
    refine wp_eq h1 ⟨fun _ => ⟨y, (hm y).2 (.inl hy), hp⟩, fun _ => rfl⟩
  | false =>
    refine h2.mono (fun c hc => hc.trans ⟨fun hp => ⟨x, (hm x).2 (.inr rfl), hp⟩, ?_⟩)
    rintro ⟨y, hy, hp⟩
    rcases (hm y).1 hy with hy | rfl
    · exact absurd (hb.2 ⟨y, hy, hp⟩) (by simp)
    · exact hp
end
end Go.Ve

namespace Go.Ve
open Go

def decL {α : Type} (f : List V → Option (α × List V)) : List V → Option (List α)
  | [] => some []
  | e :: r => match f e.cells with
    | some (x, []) => match decL f r with
      | some xs => some (x :: xs)
      | none => none
    | _ => none

/-- A typed datum, taken off the head of these cells; lists without types are looked into. -/
def Ty.unc : (t : Ty) → List V → Option (t.El × List V)
  | .pair a b, cs => match a.unc cs with
    | some (x, r) => match b.unc r with
      | some (y, r) => some ((x, y), r)
      | none => none
    | none => none
  | .sl t, cs => match cs with
    | .sl es :: r => match decL t.unc es with
      | some xs => some (xs, r)
      | none => none
    | cs => takeSl t cs
  | .int k, cs => takeInt k cs
  | .bool, cs => takeBool cs
  | .str, cs => takeStr cs
  | .unit, cs => some ((), cs)
  | .rf, cs => takeRf cs

theorem decL_get {α : Type} {f : List V → Option (α × List V)} : ∀ {es : List V} {xs : List α}, decL f es = some xs → es.length = xs.length ∧ ∀ (i : Nat) (x : α), xs[i]? = some x → ∃ e, es[i]? = some e ∧ f e.cells = some (x, [])
  | [], xs, h => by simp only [decL, Option.some.injEq] at h; subst h; exact ⟨rfl, fun i x h => by simp at h⟩
  | e :: r, xs, h => by
    simp only [decL] at h
    split at h
    · rename_i x hx
      split at h
      · rename_i xs' hxs
        simp only [Option.some.injEq] at h
        subst h
        obtain ⟨h1, h2⟩ := decL_get hxs
        refine ⟨by simp [h1], fun i y hy => ?_⟩
        cases i with
        | zero => simp only [List.getElem?_cons_zero, Option.some.injEq] at hy; subst hy; exact ⟨e, rfl, hx⟩
        | succ i => exact h2 i y (by simpa using hy)
      · cases h
    · cases h

theorem wk_list {t : Ty} {es : List V} {xs : List t.El} (hl : es.length = xs.length) (h : ∀ (i : Nat) (e : V) (x : t.El), es[i]? = some e → xs[i]? = some x → WkVs e.cells (t.cells x)) : WkV (.sl es) (.tl t xs) := by
  intro w F v hr
  refine .tl t xs v ?_
  cases hr with
  | slemp a cap =>
    have : xs = [] := List.eq_nil_of_length_eq_zero hl.symm
    subst this
    exact .slemp a cap
  | sl b off cap k _ g hFb hcap hk hg hr =>
    have hel : es.length = (xs.map t.enc).length := by simpa using hl
    rw [hel] at hg hcap ⊢
    refine .sl b off cap k _ g hFb hcap ?_ hg ?_
    · intro e he
      simp only [List.mem_map] at he
      obtain ⟨x, hx, rfl⟩ := he
      obtain ⟨j, hj⟩ := List.getElem?_of_mem hx
      have hjl : j < es.length := by rw [hl]; exact (List.getElem?_eq_some_iff.1 hj).1
      have h1 := (h j es[j] x (by simp [hjl]) hj).len
      rw [enc_cells, ← h1]
      exact hk _ (List.getElem_mem hjl)
    · intro i j e d hi hj
      simp only [List.getElem?_map, Option.map_eq_some_iff] at hi
      obtain ⟨x, hx, rfl⟩ := hi
      rw [enc_cells] at hj
      have hil : i < es.length := by rw [hl]; exact (List.getElem?_eq_some_iff.1 hx).1
      have h1 := h i es[i] x (by simp [hil]) hx
      have hjl : j < (es[i]).cells.length := by rw [h1.len]; exact (List.getElem?_eq_some_iff.1 hj).1
      exact h1.get j _ d (List.getElem?_eq_getElem hjl) hj w F _ (hr i j es[i] _ (by simp [hil]) (List.getElem?_eq_getElem hjl))

theorem unc_sound : ∀ (t : Ty) (cs : List V) (x : t.El) (r : List V), t.unc cs = some (x, r) → ∃ cs1, cs = cs1 ++ r ∧ WkVs cs1 (t.cells x) := by
  intro t
  induction t with
  | int k => exact fun cs x r h => uncells_sound (.int k) cs x r h
  | bool => exact fun cs x r h => uncells_sound .bool cs x r h
  | str => exact fun cs x r h => uncells_sound .str cs x r h
  | unit => exact fun cs x r h => uncells_sound .unit cs x r h
  | rf => exact fun cs x r h => uncells_sound .rf cs x r h
  | pair a b iha ihb =>
    intro cs x r h
    simp only [Ty.unc] at h
    split at h
    · rename_i xa r1 h1
      split at h
      · rename_i xb r2 h2
        simp only [Option.some.injEq, Prod.mk.injEq] at h
        obtain ⟨rfl, rfl⟩ := h
        obtain ⟨c1, rfl, k1⟩ := iha cs xa r1 h1
        obtain ⟨c2, rfl, k2⟩ := ihb r1 xb r2 h2
        exact ⟨c1 ++ c2, by rw [List.append_assoc], k1.append k2⟩
      · cases h
    · cases h
  | sl t ih =>
    intro cs x r h
    simp only [Ty.unc] at h
    split at h
    · rename_i es r'
      split at h
      · rename_i xs hxs
        simp only [Option.some.injEq, Prod.mk.injEq] at h
        obtain ⟨rfl, rfl⟩ := h
        obtain ⟨h1, h2⟩ := decL_get hxs
        refine ⟨[.sl es], rfl, wk_list h1 ?_, trivial⟩
        intro i e y he hy
        obtain ⟨e', he', hf⟩ := h2 i y hy
        rw [he] at he'
        simp only [Option.some.injEq] at he'
        subst he'
        obtain ⟨c1, hc, hw⟩ := ih e.cells y [] hf
        rw [List.append_nil] at hc
        rw [hc]; exact hw
      · cases h
    · exact uncells_sound (.sl t) _ x r h

def Ty.decW (t : Ty) (d : V) : Option t.El :=
  match t with
  | .pair a b => match d with
    | .agg cs => match (Ty.pair a b).unc cs with
      | some (x, []) => some x
      | _ => none
    | _ => none
  | .unit => none
  | .sl t => match (Ty.sl t).unc [d] with
    | some (x, []) => some x
    | _ => none
  | .int k => (Ty.int k).dec d
  | .bool => Ty.bool.dec d
  | .str => Ty.str.dec d
  | .rf => Ty.rf.dec d

theorem decW_sound {t : Ty} {d : V} {x : t.El} (h : t.decW d = some x) : WkV d (t.enc x) := by
  cases t with
  | pair a b =>
    simp only [Ty.decW] at h
    split at h
    · rename_i cs
      split at h
      · rename_i x' hx
        simp only [Option.some.injEq] at h
        subst h
        obtain ⟨c1, h1, h2⟩ := unc_sound (.pair a b) cs x' [] hx
        simp only [List.append_nil] at h1
        subst h1
        exact WkV.agg h2
      · cases h
    · cases h
  | unit => simp [Ty.decW] at h
  | sl t =>
    simp only [Ty.decW] at h
    split at h
    · rename_i x' hx
      simp only [Option.some.injEq] at h
      subst h
      obtain ⟨c1, h1, h2⟩ := unc_sound (.sl t) [d] x' [] hx
      rw [List.append_nil] at h1
      subst h1
      exact h2.1
    · cases h
  | int k => exact dec_sound h
  | bool => exact dec_sound h
  | str => exact dec_sound h
  | rf => exact dec_sound h

def decSW : (ts : List Ty) → List V → Option (ElS ts)
  | [], [] => some ()
  | t :: ts, d :: ds => match t.decW d with
    | some x => match decSW ts ds with
      | some xs => some (x, xs)
      | none => none
    | none => none
  | _, _ => none

theorem decSW_sound : ∀ (ts : List Ty) (ds : List V) (x : ElS ts), decSW ts ds = some x → WkVs ds (encS ts x)
  | [], [], _, _ => trivial
  | [], _ :: _, _, h => by simp [decSW] at h
  | _ :: _, [], _, h => by simp [decSW] at h
  | t :: ts, d :: ds, x, h => by
    simp only [decSW] at h
    split at h
    · rename_i y hy
      split at h
      · rename_i ys hys
        simp only [Option.some.injEq] at h
        subst h
        exact ⟨decW_sound hy, decSW_sound ts ds ys hys⟩
      · cases h
    · cases h

/-- A contract over typed data, taken of data without types. -/
theorem fnOk_wide {Γ : Sig} {P : Program} {G : Nat → Option (List V)} {f : FuncId} {ts : List Ty} {R : RTy} {g : ElS ts → Option R.El} (h : FnOk Γ P G f (callS (specX ts R g))) : FnOk Γ P G f (callS (specG (decSW ts) R g)) := by
  intro w F O s args ds s' r hsig hG hF hlen hrd hspec
  simp only [callS, specG] at hspec
  cases hx : decSW ts ds with
  | none => rw [hx] at hspec; cases hspec
  | some x =>
    rw [hx] at hspec
    have hwk := decSW_sound ts ds x hx
    refine h w F O s args (encS ts x) s' r hsig hG hF (hlen.trans hwk.len) ?_ ?_
    · intro i u d hu hd
      have hlt : i < ds.length := by rw [hwk.len]; exact (List.getElem?_eq_some_iff.1 hd).1
      exact hwk.get i ds[i] d (by simp [hlt]) hd w F u (hrd i u ds[i] hu (by simp [hlt]))
    · simp only [callS, specX, specG, decS_enc]; exact hspec
end Go.Ve
