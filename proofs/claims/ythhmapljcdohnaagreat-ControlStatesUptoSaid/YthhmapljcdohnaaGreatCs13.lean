/-
  Plain laws: the checks of a network always answer.
  Plain laws: the topology of a network is built, and what it is made of.
  Plain laws: the topology of a network is built: the walk.
  Plain laws: views.
  Plain laws: the checks of routes and tables always answer.
  Plain laws: equal routes; static routes that are active.
  Plain laws: interfaces that are up.
  Plain laws: masks, networks, and what prefixes contain.
  Plain laws: what the checks of a network say of its interfaces and static routes.
  Plain laws: what the checks of a network say.
  Plain laws: prefixes in order; the sorting of routes; connected routes.
  Plain laws: preference of routes; insertion into ordered lists; the prefixes of routes; hops added.
  Plain laws: static routes that are active.
  Plain laws: the prefixes of routes; hops added; routes merged.
  Plain laws: routes merged.
  Plain laws: connected routes: sorted, and valid; static routes are valid.
  Plain laws: merging where prefixes differ; the reference's connected and active routes.
  Plain laws: ranges swapped and rotated, stated place by place.
  Functions out of code: sorting, for any elements and any comparison.
  Plain laws: ranges swapped and rotated: the walks.
  Plain laws: stable merging in place: what the steps keep.
  Plain laws: stable merging in place: the walk.
  Plain laws: stable sorting, for any elements and any comparison that goes by a key.
  Plain laws: merging by prefix, as the program does it: what merging depends on.
  Plain laws: a sorted list without its repetitions.
  slices.Clone: the contract over typed lists, out of three that tell nil, empty and the rest apart.
  Functions out of code, part 10: typed data out of data without types, lists too.
  Contracts at one point: what a function answers at given data.
  Pointers to what the state holds: the state of an area set. Its blocks stay, but for cells that hold what is computed once; they hold nothing or what H says.
  Values at points: a part of a function out of code that can be computed.
-/
import Derived.KernelRfl
import Derived.Test.YthhmapljcdohnaaGreatCs12
import Derived.Test.YthhmapljcdohnaaGreatCs11
import Derived.Test.YthhmapljcdohnaaGreatCs2
set_option linter.unusedVariables false
namespace Go.Ve
open Go
set_option maxRecDepth 1000000
set_option maxHeartbeats 4000000

theorem idx_of {α : Type} {xs : List α} {i : Int} {y : α} (h : xs[i.toNat]? = some y) (h0 : 0 ≤ i := by omega) : idx xs i = some y := by
  rw [idx, if_pos h0]; exact h

theorem wp_idxA {α : Type} {xs : List α} {i : Int} {Q : α → Prop} {B : α → Prop} (hB : ∀ y, y ∈ xs → B y) (h0 : 0 ≤ i) (h1 : i < xs.length) (h : ∀ y, xs[i.toNat]? = some y → B y → Q y) : Wp (idx xs i) Q :=
  wp_idx h0 h1 (fun y hm hy => h y hy (hB y hm))

/-- A router whose lists are short. -/
structure SmR (r : Ty.El tRouter) : Prop where
  i1 : List.length r.snd.snd.fst ≤ 20
  i2 : List.length r.snd.snd.snd.fst ≤ 20
  i3 : List.length r.snd.snd.snd.snd.fst ≤ 20
  i4 : List.length r.snd.snd.snd.snd.snd.fst ≤ 20
  i5 : List.length r.snd.snd.snd.snd.snd.snd.fst ≤ 20
  i6 : List.length r.snd.snd.snd.snd.snd.snd.snd.fst ≤ 20
  i7 : List.length r.snd.snd.snd.snd.snd.snd.snd.snd.fst.snd.snd.fst ≤ 20
  i8 : List.length r.snd.snd.snd.snd.snd.snd.snd.snd.fst.snd.snd.snd.fst ≤ 20
  i9 : List.length r.snd.snd.snd.snd.snd.snd.snd.snd.snd.fst.snd.snd.snd.snd.fst ≤ 20
  i10 : List.length r.snd.snd.snd.snd.snd.snd.snd.snd.snd.snd.fst.snd.snd.snd.fst ≤ 20
  i11 : List.length r.snd.snd.snd.snd.snd.snd.snd.snd.snd.snd.fst.snd.snd.snd.snd.fst ≤ 20
  i12 : List.length r.snd.snd.snd.snd.snd.snd.snd.snd.snd.snd.fst.snd.snd.snd.snd.snd.fst ≤ 20
  i13 : List.length r.snd.snd.snd.snd.snd.snd.snd.snd.snd.snd.fst.snd.snd.snd.snd.snd.snd.fst ≤ 20
  i14 : List.length r.snd.snd.snd.snd.snd.snd.snd.snd.snd.snd.fst.snd.snd.snd.snd.snd.snd.snd.fst ≤ 20
  n1 : ∀ y, y ∈ r.snd.snd.snd.fst → List.length y.snd.fst ≤ 20
  n2 : ∀ y, y ∈ r.snd.snd.snd.snd.fst → List.length y.snd.fst ≤ 20
  n3 : ∀ y, y ∈ r.snd.snd.snd.snd.snd.fst → List.length y.snd.fst ≤ 20

structure SmPV (r : Ty.El tPV) : Prop where
  i10 : List.length r.snd.snd.snd.fst ≤ 20
  i11 : List.length r.snd.snd.snd.snd.fst ≤ 20
  i12 : List.length r.snd.snd.snd.snd.snd.fst ≤ 20
  i13 : List.length r.snd.snd.snd.snd.snd.snd.fst ≤ 20
  i14 : List.length r.snd.snd.snd.snd.snd.snd.snd.fst ≤ 20

theorem tot_ref4_Mask (a1 : Int) : Wp (ref4_Mask (a1, ())) (fun _ => True) := by
  unfold ref4_Mask
  refine wp_bind ?_
  refine wp_for2 (fun _ _ => True) trivial (fun s g h1 h2 _ => ?_) (fun s g _ _ _ => wp_some (e2r (wp_some trivial)))
  refine wp_bind ?_
  refine wp_bifd (fun _ => ?_) (fun _ => ?_)
  · refine wp_bifd (fun _ => ?_) (fun hn => ?_)
    · exact wp_some (wp_some (e2l ⟨wrap_i64 (by simp only; omega) (by simp only; omega), trivial⟩))
    grind [wrap_i64, wrap_u64]
  · exact wp_some (wp_some (e2l ⟨wrap_i64 (by simp only; omega) (by simp only; omega), trivial⟩))

theorem tot_ref4_letter (a1 : Ty.El (.int .u8))  : Wp (ref4_letter (a1, ())) (fun _ => True) := by
  unfold ref4_letter
  try dsimp only
  repeat' (first
    | with_reducible exact trivial
    | assumption
    | contradiction
    | with_reducible first | refine wp_some ?_ | refine wp_bifd (fun _ => ?_) (fun _ => ?_) | refine wp_bif (fun _ => ?_) (fun _ => ?_) | refine wp_bind ?_
    | omega)

theorem tot_ref4_Name (a1 : Ty.El (.str))  : Wp (ref4_Name (a1, ())) (fun _ => True) := by
  unfold ref4_Name
  try dsimp only
  repeat' (first
    | with_reducible exact trivial
    | assumption
    | contradiction
    | with_reducible first | refine wp_some ?_ | refine (tot_ref4_letter _).mono (fun r _ => ?_) | refine wp_byteAt ?_ ?_ (fun y _ _ => ?_) | refine wp_bifn (fun _ => ?_) (fun _ => ?_) | refine wp_bifd (fun _ => ?_) (fun _ => ?_) | refine wp_bif (fun _ => ?_) (fun _ => ?_) | refine wp_cut2 ?_ | refine wp_for (fun s _ _ => ?_) (fun s _ _ => ?_) | refine wp_bind ?_ | refine e2l ?_ | refine e2r ?_
    | exact wrap_i64 (by omega) (by omega)
    | omega
    | (simp only [List.length_cons, List.length_nil] at *; exact wrap_i64 (by omega) (by omega)))

theorem tot_ref8_within (a1 : Ty.El (tI)) (a2 : Ty.El (tI)) (a3 : Ty.El (tI))  : Wp (ref8_within (a1, a2, a3, ())) (fun _ => True) := by
  simp_all [wp_some, wp_bif, ref8_within]

theorem tot_ref4_Network (a1 : Ty.El (tU)) (a2 : Ty.El (tI))  : Wp (ref4_Network (a1, a2, ())) (fun _ => True) := by
  unfold ref4_Network
  try dsimp only
  repeat' (first
    | with_reducible exact trivial
    | assumption
    | contradiction
    | with_reducible first | refine wp_some ?_ | refine (tot_ref4_Mask _).mono (fun r _ => ?_) | refine wp_bind ?_
    | exact wrap_i64 (by omega) (by omega)
    | omega
    | (simp only [List.length_cons, List.length_nil] at *; exact wrap_i64 (by omega) (by omega)))

theorem tot_ref4_Contains (a1 : Ty.El (tPrefix)) (a2 : Ty.El (tU))  : Wp (ref4_Contains (a1, a2, ())) (fun _ => True) := by
  unfold ref4_Contains
  try dsimp only
  repeat' (first
    | with_reducible exact trivial
    | assumption
    | contradiction
    | with_reducible first | refine wp_some ?_ | refine (tot_ref4_Mask _).mono (fun r _ => ?_) | refine wp_bind ?_
    | exact wrap_i64 (by omega) (by omega)
    | omega
    | (simp only [List.length_cons, List.length_nil] at *; exact wrap_i64 (by omega) (by omega)))

theorem tot_ref4_Covers (a1 : Ty.El (tPrefix)) (a2 : Ty.El (tPrefix))  : Wp (ref4_Covers (a1, a2, ())) (fun _ => True) := by
  unfold ref4_Covers
  try dsimp only
  repeat' (first
    | with_reducible exact trivial
    | assumption
    | contradiction
    | with_reducible first | refine wp_some ?_ | refine (tot_ref4_Contains _ _).mono (fun r _ => ?_) | refine wp_bifd (fun _ => ?_) (fun _ => ?_) | refine wp_bif (fun _ => ?_) (fun _ => ?_) | refine wp_bind ?_
    | omega)

theorem tot_ref4_Overlaps (a1 : Ty.El (tPrefix)) (a2 : Ty.El (tPrefix))  : Wp (ref4_Overlaps (a1, a2, ())) (fun _ => True) := by
  unfold ref4_Overlaps
  try dsimp only
  repeat' (first
    | with_reducible exact trivial
    | assumption
    | contradiction
    | with_reducible first | refine wp_some ?_ | refine (tot_ref4_Covers _ _).mono (fun r _ => ?_) | refine wp_bif (fun _ => ?_) (fun _ => ?_) | refine wp_bind ?_
    | omega)

theorem tot_ref8_interfaces (a1 : Ty.El (.sl tIface)) (h0 : List.length a1 ≤ 20) : Wp (ref8_interfaces (a1, ())) (fun _ => True) := by
  unfold ref8_interfaces
  try dsimp only
  repeat' (first
    | with_reducible exact trivial
    | assumption
    | contradiction
    | with_reducible first | refine wp_some ?_ | refine (tot_ref4_Name _).mono (fun r _ => ?_) | refine (tot_ref8_within _ _ _).mono (fun r _ => ?_) | refine (tot_ref4_Network _ _).mono (fun r _ => ?_) | refine (tot_ref4_Overlaps _ _).mono (fun r _ => ?_) | refine wp_idx ?_ ?_ (fun y _ _ => ?_) | refine wp_bifn (fun _ => ?_) (fun _ => ?_) | refine wp_bifd (fun _ => ?_) (fun _ => ?_) | refine wp_bif (fun _ => ?_) (fun _ => ?_) | refine wp_cut2 ?_ | refine wp_for (fun s _ _ => ?_) (fun s _ _ => ?_)
    | simp only [idx_of ‹_[_]? = some _›, Option.bind_some]
    | with_reducible first | refine wp_bind ?_ | refine e2l ?_ | refine e2r ?_
    | exact wrap_i64 (by omega) (by omega)
    | omega
    | (simp only [List.length_cons, List.length_nil] at *; exact wrap_i64 (by omega) (by omega)))

theorem tot_ref4_Valid (a1 : Ty.El (tPrefix))  : Wp (ref4_Valid (a1, ())) (fun _ => True) := by
  unfold ref4_Valid
  try dsimp only
  repeat' (first
    | with_reducible exact trivial
    | assumption
    | contradiction
    | with_reducible first | refine wp_some ?_ | refine (tot_ref4_Mask _).mono (fun r _ => ?_) | refine wp_bifd (fun _ => ?_) (fun _ => ?_) | refine wp_bif (fun _ => ?_) (fun _ => ?_) | refine wp_bind ?_
    | exact wrap_i64 (by omega) (by omega)
    | omega
    | (simp only [List.length_cons, List.length_nil] at *; exact wrap_i64 (by omega) (by omega)))

theorem tot_ref8_ValidPrefixRule (a1 : Ty.El (tPRule))  : Wp (ref8_ValidPrefixRule (a1, ())) (fun _ => True) := by
  unfold ref8_ValidPrefixRule
  try dsimp only
  repeat' (first
    | with_reducible exact trivial
    | assumption
    | contradiction
    | with_reducible first | refine wp_some ?_ | refine (tot_ref4_Valid _).mono (fun r _ => ?_) | refine wp_bifd (fun _ => ?_) (fun _ => ?_) | refine wp_bif (fun _ => ?_) (fun _ => ?_) | refine wp_bind ?_
    | omega)

theorem tot_ref8_prefixLists (a1 : Ty.El (.sl tPList)) (h0 : List.length a1 ≤ 20) (h1 : ∀ y, y ∈ a1 → List.length y.snd.fst ≤ 20) : Wp (ref8_prefixLists (a1, ())) (fun _ => True) := by
  unfold ref8_prefixLists
  try dsimp only
  repeat' (first
    | with_reducible exact trivial
    | assumption
    | contradiction
    | with_reducible first | refine wp_some ?_ | refine (tot_ref4_Name _).mono (fun r _ => ?_) | refine (tot_ref8_ValidPrefixRule _).mono (fun r _ => ?_) | refine wp_idxA h1 ?_ ?_ (fun y _ _ => ?_) | refine wp_idx ?_ ?_ (fun y _ _ => ?_) | refine wp_bifn (fun _ => ?_) (fun _ => ?_) | refine wp_bifd (fun _ => ?_) (fun _ => ?_) | refine wp_bif (fun _ => ?_) (fun _ => ?_) | refine wp_cut2 ?_ | refine wp_for (fun s _ _ => ?_) (fun s _ _ => ?_)
    | simp only [idx_of ‹_[_]? = some _›, Option.bind_some]
    | with_reducible first | refine wp_bind ?_ | refine e2l ?_ | refine e2r ?_
    | exact wrap_i64 (by omega) (by omega)
    | omega
    | (simp only [List.length_cons, List.length_nil] at *; exact wrap_i64 (by omega) (by omega)))

theorem tot_ref8_PrefixList (a1 : Ty.El (tRouter)) (a2 : Ty.El (.str)) (h0 : SmR a1) : Wp (ref8_PrefixList (a1, a2, ())) (fun (r : Int) => -1 ≤ r ∧ r < (List.length a1.snd.snd.snd.fst : Int)) := by
  have hh0 := h0
  obtain ⟨i1, i2, i3, i4, i5, i6, i7, i8, i9, i10, i11, i12, i13, i14, n1, n2, n3⟩ := hh0
  unfold ref8_PrefixList
  try dsimp only
  repeat' (first
    | with_reducible exact trivial
    | exact ⟨i10, i11, i12, i13, i14⟩
    | assumption
    | contradiction
    | with_reducible first | refine wp_some ?_ | refine wp_idxA n1 ?_ ?_ (fun y _ _ => ?_) | refine wp_idxA n2 ?_ ?_ (fun y _ _ => ?_) | refine wp_idxA n3 ?_ ?_ (fun y _ _ => ?_) | refine wp_idx ?_ ?_ (fun y _ _ => ?_) | refine wp_bifd (fun _ => ?_) (fun _ => ?_) | refine wp_bif (fun _ => ?_) (fun _ => ?_) | refine wp_cut2 ?_ | refine wp_for (fun s _ _ => ?_) (fun s _ _ => ?_)
    | simp only [idx_of ‹_[_]? = some _›, Option.bind_some]
    | with_reducible first | refine wp_bind ?_ | refine e2l ?_ | refine e2r ?_
    | exact wrap_i64 (by omega) (by omega)
    | omega
    | (simp only [List.length_cons, List.length_nil] at *; exact wrap_i64 (by omega) (by omega))
    | exact ⟨by omega, by omega⟩)

theorem tot_ref8_routeMaps (a1 : Ty.El (tRouter)) (h0 : SmR a1) : Wp (ref8_routeMaps (a1, ())) (fun _ => True) := by
  have hh0 := h0
  obtain ⟨i1, i2, i3, i4, i5, i6, i7, i8, i9, i10, i11, i12, i13, i14, n1, n2, n3⟩ := hh0
  unfold ref8_routeMaps
  try dsimp only
  repeat' (first
    | with_reducible exact trivial
    | exact ⟨i10, i11, i12, i13, i14⟩
    | assumption
    | contradiction
    | with_reducible first | refine wp_some ?_ | refine (tot_ref4_Name _).mono (fun r _ => ?_) | refine (tot_ref8_PrefixList _ _ ?_).mono (fun r _ => ?_) | refine (tot_ref8_within _ _ _).mono (fun r _ => ?_) | refine wp_idxA n1 ?_ ?_ (fun y _ _ => ?_) | refine wp_idxA n2 ?_ ?_ (fun y _ _ => ?_) | refine wp_idxA n3 ?_ ?_ (fun y _ _ => ?_) | refine wp_idx ?_ ?_ (fun y _ _ => ?_) | refine wp_bifn (fun _ => ?_) (fun _ => ?_) | refine wp_bifd (fun _ => ?_) (fun _ => ?_) | refine wp_bif (fun _ => ?_) (fun _ => ?_) | refine wp_cut2 ?_ | refine wp_for (fun s _ _ => ?_) (fun s _ _ => ?_)
    | simp only [idx_of ‹_[_]? = some _›, Option.bind_some]
    | with_reducible first | refine wp_bind ?_ | refine e2l ?_ | refine e2r ?_
    | exact wrap_i64 (by omega) (by omega)
    | omega
    | (simp only [List.length_cons, List.length_nil] at *; exact wrap_i64 (by omega) (by omega)))

theorem tot_ref8_ports (a1 : Ty.El (tPorts))  : Wp (ref8_ports (a1, ())) (fun _ => True) := by
  unfold ref8_ports
  try dsimp only
  repeat' (first
    | with_reducible exact trivial
    | assumption
    | contradiction
    | with_reducible first | refine wp_some ?_ | refine wp_bifd (fun _ => ?_) (fun _ => ?_) | refine wp_bif (fun _ => ?_) (fun _ => ?_) | refine wp_bind ?_
    | omega)

theorem tot_ref8_all (a1 : Ty.El (tPorts))  : Wp (ref8_all (a1, ())) (fun _ => True) := by
  simp_all [wp_some, ref8_all]

theorem tot_ref8_ValidRule (a1 : Ty.El (tRule))  : Wp (ref8_ValidRule (a1, ())) (fun _ => True) := by
  unfold ref8_ValidRule
  try dsimp only
  repeat' (first
    | with_reducible exact trivial
    | assumption
    | contradiction
    | with_reducible first | refine wp_some ?_ | refine (tot_ref8_within _ _ _).mono (fun r _ => ?_) | refine (tot_ref8_ports _).mono (fun r _ => ?_) | refine (tot_ref8_all _).mono (fun r _ => ?_) | refine wp_bifn (fun _ => ?_) (fun _ => ?_) | refine wp_bif (fun _ => ?_) (fun _ => ?_) | refine wp_bind ?_
    | exact wrap_i64 (by omega) (by omega)
    | omega
    | (simp only [List.length_cons, List.length_nil] at *; exact wrap_i64 (by omega) (by omega)))

theorem tot_ref8_accessLists (a1 : Ty.El (.sl tACL)) (h0 : List.length a1 ≤ 20) (h1 : ∀ y, y ∈ a1 → List.length y.snd.fst ≤ 20) : Wp (ref8_accessLists (a1, ())) (fun _ => True) := by
  unfold ref8_accessLists
  try dsimp only
  repeat' (first
    | with_reducible exact trivial
    | assumption
    | contradiction
    | with_reducible first | refine wp_some ?_ | refine (tot_ref4_Name _).mono (fun r _ => ?_) | refine (tot_ref8_ValidRule _).mono (fun r _ => ?_) | refine wp_idxA h1 ?_ ?_ (fun y _ _ => ?_) | refine wp_idx ?_ ?_ (fun y _ _ => ?_) | refine wp_bifn (fun _ => ?_) (fun _ => ?_) | refine wp_bifd (fun _ => ?_) (fun _ => ?_) | refine wp_bif (fun _ => ?_) (fun _ => ?_) | refine wp_cut2 ?_ | refine wp_for (fun s _ _ => ?_) (fun s _ _ => ?_)
    | simp only [idx_of ‹_[_]? = some _›, Option.bind_some]
    | with_reducible first | refine wp_bind ?_ | refine e2l ?_ | refine e2r ?_
    | exact wrap_i64 (by omega) (by omega)
    | omega
    | (simp only [List.length_cons, List.length_nil] at *; exact wrap_i64 (by omega) (by omega)))

theorem tot_ref8_ACL (a1 : Ty.El (tRouter)) (a2 : Ty.El (.str)) (h0 : SmR a1) : Wp (ref8_ACL (a1, a2, ())) (fun (r : Int) => -1 ≤ r ∧ r < (List.length a1.snd.snd.snd.snd.snd.fst : Int)) := by
  have hh0 := h0
  obtain ⟨i1, i2, i3, i4, i5, i6, i7, i8, i9, i10, i11, i12, i13, i14, n1, n2, n3⟩ := hh0
  unfold ref8_ACL
  try dsimp only
  repeat' (first
    | with_reducible exact trivial
    | exact ⟨i10, i11, i12, i13, i14⟩
    | assumption
    | contradiction
    | with_reducible first | refine wp_some ?_ | refine wp_idxA n1 ?_ ?_ (fun y _ _ => ?_) | refine wp_idxA n2 ?_ ?_ (fun y _ _ => ?_) | refine wp_idxA n3 ?_ ?_ (fun y _ _ => ?_) | refine wp_idx ?_ ?_ (fun y _ _ => ?_) | refine wp_bifd (fun _ => ?_) (fun _ => ?_) | refine wp_bif (fun _ => ?_) (fun _ => ?_) | refine wp_cut2 ?_ | refine wp_for (fun s _ _ => ?_) (fun s _ _ => ?_)
    | simp only [idx_of ‹_[_]? = some _›, Option.bind_some]
    | with_reducible first | refine wp_bind ?_ | refine e2l ?_ | refine e2r ?_
    | exact wrap_i64 (by omega) (by omega)
    | omega
    | (simp only [List.length_cons, List.length_nil] at *; exact wrap_i64 (by omega) (by omega))
    | exact ⟨by omega, by omega⟩)

theorem tot_ref8_translations (a1 : Ty.El (tRouter)) (h0 : SmR a1) : Wp (ref8_translations (a1, ())) (fun _ => True) := by
  have hh0 := h0
  obtain ⟨i1, i2, i3, i4, i5, i6, i7, i8, i9, i10, i11, i12, i13, i14, n1, n2, n3⟩ := hh0
  unfold ref8_translations
  try dsimp only
  repeat' (first
    | with_reducible exact trivial
    | exact ⟨i10, i11, i12, i13, i14⟩
    | assumption
    | contradiction
    | with_reducible first | refine wp_some ?_ | refine (tot_ref8_within _ _ _).mono (fun r _ => ?_) | refine (tot_ref8_ACL _ _ ?_).mono (fun r _ => ?_) | refine wp_idxA n1 ?_ ?_ (fun y _ _ => ?_) | refine wp_idxA n2 ?_ ?_ (fun y _ _ => ?_) | refine wp_idxA n3 ?_ ?_ (fun y _ _ => ?_) | refine wp_idx ?_ ?_ (fun y _ _ => ?_) | refine wp_bifn (fun _ => ?_) (fun _ => ?_) | refine wp_bifd (fun _ => ?_) (fun _ => ?_) | refine wp_bif (fun _ => ?_) (fun _ => ?_) | refine wp_cut2 ?_ | refine wp_for (fun s _ _ => ?_) (fun s _ _ => ?_)
    | simp only [idx_of ‹_[_]? = some _›, Option.bind_some]
    | with_reducible first | refine wp_bind ?_ | refine e2l ?_ | refine e2r ?_
    | exact wrap_i64 (by omega) (by omega)
    | omega
    | (simp only [List.length_cons, List.length_nil] at *; exact wrap_i64 (by omega) (by omega)))

theorem tot_ref8_filters (a1 : Ty.El (tRouter)) (h0 : SmR a1) : Wp (ref8_filters (a1, ())) (fun _ => True) := by
  have hh0 := h0
  obtain ⟨i1, i2, i3, i4, i5, i6, i7, i8, i9, i10, i11, i12, i13, i14, n1, n2, n3⟩ := hh0
  unfold ref8_filters
  try dsimp only
  repeat' (first
    | with_reducible exact trivial
    | exact ⟨i10, i11, i12, i13, i14⟩
    | assumption
    | contradiction
    | with_reducible first | refine wp_some ?_ | refine (tot_ref8_ACL _ _ ?_).mono (fun r _ => ?_) | refine wp_idxA n1 ?_ ?_ (fun y _ _ => ?_) | refine wp_idxA n2 ?_ ?_ (fun y _ _ => ?_) | refine wp_idxA n3 ?_ ?_ (fun y _ _ => ?_) | refine wp_idx ?_ ?_ (fun y _ _ => ?_) | refine wp_bifd (fun _ => ?_) (fun _ => ?_) | refine wp_bif (fun _ => ?_) (fun _ => ?_) | refine wp_cut2 ?_ | refine wp_for (fun s _ _ => ?_) (fun s _ _ => ?_)
    | simp only [idx_of ‹_[_]? = some _›, Option.bind_some]
    | with_reducible first | refine wp_bind ?_ | refine e2l ?_ | refine e2r ?_
    | exact wrap_i64 (by omega) (by omega)
    | omega
    | (simp only [List.length_cons, List.length_nil] at *; exact wrap_i64 (by omega) (by omega)))

theorem tot_ref8_Address (a1 : Ty.El (tRouter)) (a2 : Ty.El (tU)) (h0 : SmR a1) : Wp (ref8_Address (a1, a2, ())) (fun (r : Int) => -1 ≤ r ∧ r < (List.length a1.snd.snd.fst : Int)) := by
  have hh0 := h0
  obtain ⟨i1, i2, i3, i4, i5, i6, i7, i8, i9, i10, i11, i12, i13, i14, n1, n2, n3⟩ := hh0
  unfold ref8_Address
  try dsimp only
  repeat' (first
    | with_reducible exact trivial
    | exact ⟨i10, i11, i12, i13, i14⟩
    | assumption
    | contradiction
    | with_reducible first | refine wp_some ?_ | refine wp_idxA n1 ?_ ?_ (fun y _ _ => ?_) | refine wp_idxA n2 ?_ ?_ (fun y _ _ => ?_) | refine wp_idxA n3 ?_ ?_ (fun y _ _ => ?_) | refine wp_idx ?_ ?_ (fun y _ _ => ?_) | refine wp_bifd (fun _ => ?_) (fun _ => ?_) | refine wp_bif (fun _ => ?_) (fun _ => ?_) | refine wp_cut2 ?_ | refine wp_for (fun s _ _ => ?_) (fun s _ _ => ?_)
    | simp only [idx_of ‹_[_]? = some _›, Option.bind_some]
    | with_reducible first | refine wp_bind ?_ | refine e2l ?_ | refine e2r ?_
    | exact wrap_i64 (by omega) (by omega)
    | omega
    | (simp only [List.length_cons, List.length_nil] at *; exact wrap_i64 (by omega) (by omega))
    | exact ⟨by omega, by omega⟩)

theorem tot_ref8_Interface (a1 : Ty.El (tRouter)) (a2 : Ty.El (.str)) (h0 : SmR a1) : Wp (ref8_Interface (a1, a2, ())) (fun (r : Int) => -1 ≤ r ∧ r < (List.length a1.snd.snd.fst : Int)) := by
  have hh0 := h0
  obtain ⟨i1, i2, i3, i4, i5, i6, i7, i8, i9, i10, i11, i12, i13, i14, n1, n2, n3⟩ := hh0
  unfold ref8_Interface
  try dsimp only
  repeat' (first
    | with_reducible exact trivial
    | exact ⟨i10, i11, i12, i13, i14⟩
    | assumption
    | contradiction
    | with_reducible first | refine wp_some ?_ | refine wp_idxA n1 ?_ ?_ (fun y _ _ => ?_) | refine wp_idxA n2 ?_ ?_ (fun y _ _ => ?_) | refine wp_idxA n3 ?_ ?_ (fun y _ _ => ?_) | refine wp_idx ?_ ?_ (fun y _ _ => ?_) | refine wp_bifd (fun _ => ?_) (fun _ => ?_) | refine wp_bif (fun _ => ?_) (fun _ => ?_) | refine wp_cut2 ?_ | refine wp_for (fun s _ _ => ?_) (fun s _ _ => ?_)
    | simp only [idx_of ‹_[_]? = some _›, Option.bind_some]
    | with_reducible first | refine wp_bind ?_ | refine e2l ?_ | refine e2r ?_
    | exact wrap_i64 (by omega) (by omega)
    | omega
    | (simp only [List.length_cons, List.length_nil] at *; exact wrap_i64 (by omega) (by omega))
    | exact ⟨by omega, by omega⟩)

theorem tot_ref8_statics (a1 : Ty.El (tRouter)) (h0 : SmR a1) : Wp (ref8_statics (a1, ())) (fun _ => True) := by
  have hh0 := h0
  obtain ⟨i1, i2, i3, i4, i5, i6, i7, i8, i9, i10, i11, i12, i13, i14, n1, n2, n3⟩ := hh0
  unfold ref8_statics
  try dsimp only
  repeat' (first
    | with_reducible exact trivial
    | exact ⟨i10, i11, i12, i13, i14⟩
    | assumption
    | contradiction
    | with_reducible first | refine wp_some ?_ | refine (tot_ref4_Valid _).mono (fun r _ => ?_) | refine (tot_ref8_Address _ _ ?_).mono (fun r _ => ?_) | refine (tot_ref8_within _ _ _).mono (fun r _ => ?_) | refine (tot_ref8_Interface _ _ ?_).mono (fun r _ => ?_) | refine wp_idxA n1 ?_ ?_ (fun y _ _ => ?_) | refine wp_idxA n2 ?_ ?_ (fun y _ _ => ?_) | refine wp_idxA n3 ?_ ?_ (fun y _ _ => ?_) | refine wp_idx ?_ ?_ (fun y _ _ => ?_) | refine wp_bifn (fun _ => ?_) (fun _ => ?_) | refine wp_bifd (fun _ => ?_) (fun _ => ?_) | refine wp_bif (fun _ => ?_) (fun _ => ?_) | refine wp_cut2 ?_ | refine wp_for (fun s _ _ => ?_) (fun s _ _ => ?_)
    | simp only [idx_of ‹_[_]? = some _›, Option.bind_some]
    | with_reducible first | refine wp_bind ?_ | refine e2l ?_ | refine e2r ?_
    | exact wrap_i64 (by omega) (by omega)
    | omega
    | (simp only [List.length_cons, List.length_nil] at *; exact wrap_i64 (by omega) (by omega)))

theorem tot_ref8_RouteMap (a1 : Ty.El (tRouter)) (a2 : Ty.El (.str)) (h0 : SmR a1) : Wp (ref8_RouteMap (a1, a2, ())) (fun (r : Int) => -1 ≤ r ∧ r < (List.length a1.snd.snd.snd.snd.fst : Int)) := by
  have hh0 := h0
  obtain ⟨i1, i2, i3, i4, i5, i6, i7, i8, i9, i10, i11, i12, i13, i14, n1, n2, n3⟩ := hh0
  unfold ref8_RouteMap
  try dsimp only
  repeat' (first
    | with_reducible exact trivial
    | exact ⟨i10, i11, i12, i13, i14⟩
    | assumption
    | contradiction
    | with_reducible first | refine wp_some ?_ | refine wp_idxA n1 ?_ ?_ (fun y _ _ => ?_) | refine wp_idxA n2 ?_ ?_ (fun y _ _ => ?_) | refine wp_idxA n3 ?_ ?_ (fun y _ _ => ?_) | refine wp_idx ?_ ?_ (fun y _ _ => ?_) | refine wp_bifd (fun _ => ?_) (fun _ => ?_) | refine wp_bif (fun _ => ?_) (fun _ => ?_) | refine wp_cut2 ?_ | refine wp_for (fun s _ _ => ?_) (fun s _ _ => ?_)
    | simp only [idx_of ‹_[_]? = some _›, Option.bind_some]
    | with_reducible first | refine wp_bind ?_ | refine e2l ?_ | refine e2r ?_
    | exact wrap_i64 (by omega) (by omega)
    | omega
    | (simp only [List.length_cons, List.length_nil] at *; exact wrap_i64 (by omega) (by omega))
    | exact ⟨by omega, by omega⟩)

theorem tot_ref8_redistributions (a1 : Ty.El (tRouter)) (a2 : Ty.El (.sl tRedist)) (a3 : Ty.El (tI)) (a4 : Ty.El (tI)) (a5 : Ty.El (tI)) (h0 : SmR a1) (h1 : List.length a2 ≤ 20) : Wp (ref8_redistributions (a1, a2, a3, a4, a5, ())) (fun _ => True) := by
  have hh0 := h0
  obtain ⟨i1, i2, i3, i4, i5, i6, i7, i8, i9, i10, i11, i12, i13, i14, n1, n2, n3⟩ := hh0
  unfold ref8_redistributions
  try dsimp only
  repeat' (first
    | with_reducible exact trivial
    | exact ⟨i10, i11, i12, i13, i14⟩
    | assumption
    | contradiction
    | with_reducible first | refine wp_some ?_ | refine (tot_ref8_within _ _ _).mono (fun r _ => ?_) | refine (tot_ref8_RouteMap _ _ ?_).mono (fun r _ => ?_) | refine wp_idxA n1 ?_ ?_ (fun y _ _ => ?_) | refine wp_idxA n2 ?_ ?_ (fun y _ _ => ?_) | refine wp_idxA n3 ?_ ?_ (fun y _ _ => ?_) | refine wp_idx ?_ ?_ (fun y _ _ => ?_) | refine wp_bifn (fun _ => ?_) (fun _ => ?_) | refine wp_bifd (fun _ => ?_) (fun _ => ?_) | refine wp_bif (fun _ => ?_) (fun _ => ?_) | refine wp_cut2 ?_ | refine wp_for (fun s _ _ => ?_) (fun s _ _ => ?_)
    | simp only [idx_of ‹_[_]? = some _›, Option.bind_some]
    | with_reducible first | refine wp_bind ?_ | refine e2l ?_ | refine e2r ?_
    | exact wrap_i64 (by omega) (by omega)
    | omega
    | (simp only [List.length_cons, List.length_nil] at *; exact wrap_i64 (by omega) (by omega)))

theorem tot_ref8_linkState (a1 : Ty.El (tRouter)) (h0 : SmR a1) : Wp (ref8_linkState (a1, ())) (fun _ => True) := by
  have hh0 := h0
  obtain ⟨i1, i2, i3, i4, i5, i6, i7, i8, i9, i10, i11, i12, i13, i14, n1, n2, n3⟩ := hh0
  unfold ref8_linkState
  try dsimp only
  repeat' (first
    | with_reducible exact trivial
    | exact ⟨i10, i11, i12, i13, i14⟩
    | assumption
    | contradiction
    | with_reducible first | refine wp_some ?_ | refine (tot_ref8_within _ _ _).mono (fun r _ => ?_) | refine (tot_ref4_Valid _).mono (fun r _ => ?_) | refine (tot_ref4_Overlaps _ _).mono (fun r _ => ?_) | refine (tot_ref8_redistributions _ _ _ _ _ ?_ ?_).mono (fun r _ => ?_) | refine wp_idxA n1 ?_ ?_ (fun y _ _ => ?_) | refine wp_idxA n2 ?_ ?_ (fun y _ _ => ?_) | refine wp_idxA n3 ?_ ?_ (fun y _ _ => ?_) | refine wp_idx ?_ ?_ (fun y _ _ => ?_) | refine wp_bifn (fun _ => ?_) (fun _ => ?_) | refine wp_bifd (fun _ => ?_) (fun _ => ?_) | refine wp_bif (fun _ => ?_) (fun _ => ?_) | refine wp_cut2 ?_ | refine wp_for (fun s _ _ => ?_) (fun s _ _ => ?_)
    | simp only [idx_of ‹_[_]? = some _›, Option.bind_some]
    | with_reducible first | refine wp_bind ?_ | refine e2l ?_ | refine e2r ?_
    | exact wrap_i64 (by omega) (by omega)
    | omega
    | (simp only [List.length_cons, List.length_nil] at *; exact wrap_i64 (by omega) (by omega)))

theorem tot_ref8_distance (a1 : Ty.El (tRouter)) (h0 : SmR a1) : Wp (ref8_distance (a1, ())) (fun _ => True) := by
  have hh0 := h0
  obtain ⟨i1, i2, i3, i4, i5, i6, i7, i8, i9, i10, i11, i12, i13, i14, n1, n2, n3⟩ := hh0
  unfold ref8_distance
  try dsimp only
  repeat' (first
    | with_reducible exact trivial
    | exact ⟨i10, i11, i12, i13, i14⟩
    | assumption
    | contradiction
    | with_reducible first | refine wp_some ?_ | refine (tot_ref8_within _ _ _).mono (fun r _ => ?_) | refine (tot_ref8_PrefixList _ _ ?_).mono (fun r _ => ?_) | refine (tot_ref8_redistributions _ _ _ _ _ ?_ ?_).mono (fun r _ => ?_) | refine wp_bifn (fun _ => ?_) (fun _ => ?_) | refine wp_bifd (fun _ => ?_) (fun _ => ?_) | refine wp_bif (fun _ => ?_) (fun _ => ?_) | refine wp_bind ?_
    | omega)

theorem tot_ref8_neighbors (a1 : Ty.El (tRouter)) (h0 : SmR a1) : Wp (ref8_neighbors (a1, ())) (fun _ => True) := by
  have hh0 := h0
  obtain ⟨i1, i2, i3, i4, i5, i6, i7, i8, i9, i10, i11, i12, i13, i14, n1, n2, n3⟩ := hh0
  unfold ref8_neighbors
  try dsimp only
  repeat' (first
    | with_reducible exact trivial
    | exact ⟨i10, i11, i12, i13, i14⟩
    | assumption
    | contradiction
    | with_reducible first | refine wp_some ?_ | refine (tot_ref8_within _ _ _).mono (fun r _ => ?_) | refine (tot_ref8_RouteMap _ _ ?_).mono (fun r _ => ?_) | refine wp_idxA n1 ?_ ?_ (fun y _ _ => ?_) | refine wp_idxA n2 ?_ ?_ (fun y _ _ => ?_) | refine wp_idxA n3 ?_ ?_ (fun y _ _ => ?_) | refine wp_idx ?_ ?_ (fun y _ _ => ?_) | refine wp_bifd (fun _ => ?_) (fun _ => ?_) | refine wp_bif (fun _ => ?_) (fun _ => ?_) | refine wp_cut2 ?_ | refine wp_for (fun s _ _ => ?_) (fun s _ _ => ?_)
    | simp only [idx_of ‹_[_]? = some _›, Option.bind_some]
    | with_reducible first | refine wp_bind ?_ | refine e2l ?_ | refine e2r ?_
    | exact wrap_i64 (by omega) (by omega)
    | omega
    | (simp only [List.length_cons, List.length_nil] at *; exact wrap_i64 (by omega) (by omega)))

theorem tot_ref8_originations (a1 : Ty.El (tPV)) (h0 : SmPV a1) : Wp (ref8_originations (a1, ())) (fun _ => True) := by
  have hh0 := h0
  obtain ⟨i10, i11, i12, i13, i14⟩ := hh0
  unfold ref8_originations
  try dsimp only
  repeat' (first
    | with_reducible exact trivial
    | assumption
    | contradiction
    | with_reducible first | refine wp_some ?_ | refine (tot_ref4_Valid _).mono (fun r _ => ?_) | refine wp_idx ?_ ?_ (fun y _ _ => ?_) | refine wp_bifn (fun _ => ?_) (fun _ => ?_) | refine wp_bifd (fun _ => ?_) (fun _ => ?_) | refine wp_bif (fun _ => ?_) (fun _ => ?_) | refine wp_cut2 ?_ | refine wp_for (fun s _ _ => ?_) (fun s _ _ => ?_)
    | simp only [idx_of ‹_[_]? = some _›, Option.bind_some]
    | with_reducible first | refine wp_bind ?_ | refine e2l ?_ | refine e2r ?_
    | exact wrap_i64 (by omega) (by omega)
    | omega
    | (simp only [List.length_cons, List.length_nil] at *; exact wrap_i64 (by omega) (by omega)))

theorem tot_ref8_pathVector (a1 : Ty.El (tRouter)) (h0 : SmR a1) : Wp (ref8_pathVector (a1, ())) (fun _ => True) := by
  have hh0 := h0
  obtain ⟨i1, i2, i3, i4, i5, i6, i7, i8, i9, i10, i11, i12, i13, i14, n1, n2, n3⟩ := hh0
  unfold ref8_pathVector
  try dsimp only
  repeat' (first
    | with_reducible exact trivial
    | exact ⟨i10, i11, i12, i13, i14⟩
    | assumption
    | contradiction
    | with_reducible first | refine wp_some ?_ | refine (tot_ref8_within _ _ _).mono (fun r _ => ?_) | refine (tot_ref8_neighbors _ ?_).mono (fun r _ => ?_) | refine (tot_ref8_originations _ ?_).mono (fun r _ => ?_) | refine (tot_ref8_redistributions _ _ _ _ _ ?_ ?_).mono (fun r _ => ?_) | refine wp_bifn (fun _ => ?_) (fun _ => ?_) | refine wp_bif (fun _ => ?_) (fun _ => ?_) | refine wp_bind ?_
    | exact wrap_i64 (by omega) (by omega)
    | omega
    | (simp only [List.length_cons, List.length_nil] at *; exact wrap_i64 (by omega) (by omega)))

theorem tot_ref8_CheckRouter (a1 : Ty.El (tRouter)) (h0 : SmR a1) : Wp (ref8_CheckRouter (a1, ())) (fun _ => True) := by
  have hh0 := h0
  obtain ⟨i1, i2, i3, i4, i5, i6, i7, i8, i9, i10, i11, i12, i13, i14, n1, n2, n3⟩ := hh0
  unfold ref8_CheckRouter
  try dsimp only
  repeat' (first
    | with_reducible exact trivial
    | exact ⟨i10, i11, i12, i13, i14⟩
    | assumption
    | contradiction
    | with_reducible first | refine wp_some ?_ | refine (tot_ref4_Name _).mono (fun r _ => ?_) | refine (tot_ref8_within _ _ _).mono (fun r _ => ?_) | refine (tot_ref8_interfaces _ ?_).mono (fun r _ => ?_) | refine (tot_ref8_prefixLists _ ?_ ?_).mono (fun r _ => ?_) | refine (tot_ref8_routeMaps _ ?_).mono (fun r _ => ?_) | refine (tot_ref8_accessLists _ ?_ ?_).mono (fun r _ => ?_) | refine (tot_ref8_translations _ ?_).mono (fun r _ => ?_) | refine (tot_ref8_filters _ ?_).mono (fun r _ => ?_) | refine (tot_ref8_statics _ ?_).mono (fun r _ => ?_) | refine (tot_ref8_linkState _ ?_).mono (fun r _ => ?_) | refine (tot_ref8_distance _ ?_).mono (fun r _ => ?_) | refine (tot_ref8_pathVector _ ?_).mono (fun r _ => ?_) | refine wp_idxA n1 ?_ ?_ (fun y _ _ => ?_) | refine wp_idxA n2 ?_ ?_ (fun y _ _ => ?_) | refine wp_idxA n3 ?_ ?_ (fun y _ _ => ?_) | refine wp_idx ?_ ?_ (fun y _ _ => ?_) | refine wp_bifn (fun _ => ?_) (fun _ => ?_) | refine wp_bifd (fun _ => ?_) (fun _ => ?_) | refine wp_bif (fun _ => ?_) (fun _ => ?_) | refine wp_cut2 ?_ | refine wp_for (fun s _ _ => ?_) (fun s _ _ => ?_)
    | simp only [idx_of ‹_[_]? = some _›, Option.bind_some]
    | with_reducible first | refine wp_bind ?_ | refine e2l ?_ | refine e2r ?_
    | exact wrap_i64 (by omega) (by omega)
    | omega
    | (simp only [List.length_cons, List.length_nil] at *; exact wrap_i64 (by omega) (by omega)))

theorem tot_ref8_Check (a1 : Ty.El (tNetwork)) (h0 : ∀ y, y ∈ a1.fst → SmR y) : Wp (ref8_Check (a1, ())) (fun _ => True) := by
  unfold ref8_Check
  try dsimp only
  repeat' (first
    | with_reducible exact trivial
    | assumption
    | contradiction
    | with_reducible first | refine wp_some ?_ | refine (tot_ref8_CheckRouter _ ?_).mono (fun r _ => ?_) | refine (tot_ref8_Address _ _ ?_).mono (fun r _ => ?_) | refine wp_idxA h0 ?_ ?_ (fun y _ _ => ?_) | refine wp_idx ?_ ?_ (fun y _ _ => ?_) | refine wp_bifd (fun _ => ?_) (fun _ => ?_) | refine wp_bif (fun _ => ?_) (fun _ => ?_) | refine wp_cut2 ?_ | refine wp_for (fun s _ _ => ?_) (fun s _ _ => ?_)
    | simp only [idx_of ‹_[_]? = some _›, Option.bind_some]
    | with_reducible first | refine wp_bind ?_ | refine e2l ?_ | refine e2r ?_
    | exact wrap_i64 (by omega) (by omega)
    | omega
    | (simp only [List.length_cons, List.length_nil] at *; exact wrap_i64 (by omega) (by omega))
    | exact wrap_i64 (by omega) (by have := SmR.i1 ‹SmR _›; omega))

end Go.Ve

namespace Go.Ve
open Go
set_option maxRecDepth 1000000
set_option maxHeartbeats 4000000

/-- The end of an interface of the network, with this prefix and number. -/
def EndOk (n : Ty.El tNetwork) (p : Ty.El tPrefix) (vl : Int) (e : Ty.El tPorts) : Prop :=
  0 ≤ e.1 ∧ 0 ≤ e.2.1 ∧ ∃ r x, n.1[e.1.toNat]? = some r ∧ r.2.2.1[e.2.1.toNat]? = some x ∧ x.2.2.1 ≠ 0 ∧ x.2.2.2.2.1 = false ∧ ref4_Network (x.2.1, x.2.2.1, ()) = some p ∧ x.2.2.2.1 = vl

def rfOk (st : HSt tPorts) (B : Nat) (E : Ty.El tPorts → Prop) (q : Option (Nat × Nat)) : Prop :=
  ∀ id m, q = some (id, m) → ∃ xs, st[id]? = some (some xs) ∧ xs.length = m ∧ xs.length ≤ B ∧ ∀ e, e ∈ xs → E e

def Apart (d d' : Ty.El tDomainR) : Prop := ∀ id m m', d.2.2.1 = some (id, m) → d'.2.2.1 = some (id, m') → False

theorem Apart.symm {d d' : Ty.El tDomainR} (h : Apart d d') : Apart d' d := fun id m m' h1 h2 => h id m' m h2 h1

/-- Domains under way. -/
structure Bld (n : Ty.El tNetwork) (B : Nat) (D : List (Ty.El tDomainR)) (st : HSt tPorts) : Prop where
  len : D.length ≤ B
  ok : ∀ d, d ∈ D → rfOk st B (EndOk n d.1 d.2.1) d.2.2.1
  ap : D.Pairwise Apart
  so : D.Pairwise (fun d d' => keyLt d.1 d.2.1 d'.1 d'.2.1)

theorem bld_mono {n : Ty.El tNetwork} {B B' : Nat} {D : List (Ty.El tDomainR)} {st : HSt tPorts} (h : Bld n B D st) (hb : B ≤ B') : Bld n B' D st := by
  refine ⟨Nat.le_trans h.len hb, ?_, h.ap, h.so⟩
  intro d hd id m hq
  obtain ⟨xs, h1, h2, h3, h4⟩ := h.ok d hd id m hq
  grind

theorem bld_nil {n : Ty.El tNetwork} {B : Nat} {st : HSt tPorts} : Bld n B [] st := ⟨Nat.zero_le _, (fun d hd => by cases hd), List.Pairwise.nil, List.Pairwise.nil⟩

theorem bld_ins {n : Ty.El tNetwork} {B : Nat} {D : List (Ty.El tDomainR)} {st : HSt tPorts} (h : Bld n B D st) (k : Nat) (p : Ty.El tPrefix) (v : Int)
    (hlo : ∀ j d, j < k → D[j]? = some d → keyLt d.1 d.2.1 p v) (hhi : ∀ d, D[k]? = some d → keyLt p v d.1 d.2.1) :
    Bld n (B + 1) (D.take k ++ [((p, v, none, ()) : Ty.El tDomainR)] ++ D.drop k) st := by
  have h' := bld_mono h (Nat.le_succ B)
  have hnew : ∀ d : Ty.El tDomainR, Apart d ((p, v, none, ()) : Ty.El tDomainR) := fun d id m m' _ h2 => by cases h2
  refine ⟨?_, ?_, ?_, ?_⟩
  · have := h.len; grind
  · intro d hd
    simp only [List.mem_append, List.mem_singleton] at hd
    rcases hd with (hd | rfl) | hd
    · exact h'.ok d (List.mem_of_mem_take hd)
    · intro id m hq; cases hq
    · exact h'.ok d (List.mem_of_mem_drop hd)
  · have hp := h.ap
    rw [← List.take_append_drop k D, List.pairwise_append] at hp
    obtain ⟨h1, h2, h3⟩ := hp
    rw [List.pairwise_append, List.pairwise_append]
    refine ⟨⟨h1, List.pairwise_singleton _ _, ?_⟩, h2, ?_⟩
    · grind
    · intro a ha b hb
      simp at ha
      rcases ha with ha | rfl
      · grind
      · exact (hnew b).symm
  · have hso := h.so
    have hso' := List.pairwise_iff_getElem.1 hso
    rw [← List.take_append_drop k D, List.pairwise_append] at hso
    obtain ⟨h1, h2, h3⟩ := hso
    rw [List.pairwise_append, List.pairwise_append]
    refine ⟨⟨h1, List.pairwise_singleton _ _, ?_⟩, h2, ?_⟩
    · intro a ha b hb
      simp at hb
      subst hb
      obtain ⟨j, hj, hje⟩ := List.getElem_of_mem ha
      grind
    · intro a ha b hb
      simp at ha
      rcases ha with ha | rfl
      · grind
      · obtain ⟨j, hj, hje⟩ := List.getElem_of_mem hb
        rw [List.length_drop] at hj
        rw [List.getElem_drop] at hje
        have hk : D[k]? = some (D[k]'(by omega)) := by simp
        have hlt := hhi _ hk
        rcases Nat.eq_zero_or_pos j with h0 | h0
        · subst h0
          grind
        · rw [← hje]
          exact keyLt_trans hlt (hso' k (k + j) (by omega) (by omega) (by omega))

theorem bld_set {n : Ty.El tNetwork} {B : Nat} {D : List (Ty.El tDomainR)} {st st' : HSt tPorts} (h : Bld n B D st) {k : Nat} {d : Ty.El tDomainR} (hd : D[k]? = some d) {id m : Nat} {xs : List (Ty.El tPorts)}
    (hnew : st'[id]? = some (some xs)) (hm : xs.length = m) (hB : xs.length ≤ B + 1) (hE : ∀ e, e ∈ xs → EndOk n d.1 d.2.1 e) (hid : st.length ≤ id)
    (hkeep : ∀ j ys, st[j]? = some (some ys) → (∀ m', d.2.2.1 ≠ some (j, m')) → st'[j]? = some (some ys)) :
    Bld n (B + 1) (D.set k ((d.1, d.2.1, some (id, m), ()) : Ty.El tDomainR)) st' := by
  have hlt : k < D.length := (List.getElem?_eq_some_iff.1 hd).1
  have hdk : D[k] = d := (List.getElem?_eq_some_iff.1 hd).2
  have hap := List.pairwise_iff_getElem.1 h.ap
  have hother : ∀ j (hj : j < D.length), j ≠ k → Apart d D[j] := by
    intro j hj hne
    rcases Nat.lt_or_ge j k with hh | hh
    · have := hap j k hj hlt hh; rw [hdk] at this; exact this.symm
    grind
  have hold : ∀ j (hj : j < D.length), Apart D[j] ((d.1, d.2.1, some (id, m), ()) : Ty.El tDomainR) := by
    intro j hj i m1 m2 h1 h2
    obtain ⟨ys, g1, _⟩ := h.ok D[j] (List.getElem_mem hj) i m1 h1
    grind
  refine ⟨by rw [List.length_set]; have := h.len; omega, ?_, ?_, ?_⟩
  · intro x hx
    obtain ⟨j, hj, rfl⟩ := List.getElem_of_mem hx
    rw [List.length_set] at hj
    rw [List.getElem_set]
    split
    · intro i m1 h1
      grind
    · rename_i hne
      intro i m1 h1
      obtain ⟨ys, g1, g2, g3, g4⟩ := h.ok D[j] (List.getElem_mem hj) i m1 h1
      exact ⟨ys, hkeep i ys g1 (fun m' hq => hother j hj (fun hh => hne hh.symm) i m' m1 hq h1), g2, by omega, g4⟩
  · rw [List.pairwise_iff_getElem]
    intro i j hi hj hij
    rw [List.length_set] at hi hj
    rw [List.getElem_set, List.getElem_set]
    split
    · split
      · omega
      · exact (hold j hj).symm
    grind
  · have hso := List.pairwise_iff_getElem.1 h.so
    rw [List.pairwise_iff_getElem]
    intro i j hi hj hij
    rw [List.length_set] at hi hj
    have := hso i j hi hj hij
    rw [List.getElem_set, List.getElem_set]
    split
    · split
      all_goals grind
    · split
      all_goals grind

theorem bld_app {n : Ty.El tNetwork} {B : Nat} {D : List (Ty.El tDomainR)} {st : HSt tPorts} (h : Bld n B D st) (hb : B ≤ 1000) {k : Nat} {d : Ty.El tDomainR} (hd : D[k]? = some d) {e : Ty.El tPorts} (he : EndOk n d.1 d.2.1 e) :
    Wp (happ 16 st d.2.2.1 [e]) (fun r => Bld n (B + 1) (D.set k ((d.1, d.2.1, r.2, ()) : Ty.El tDomainR)) r.1) := by
  have hmem : d ∈ D := List.mem_of_getElem? hd
  cases hq : d.2.2.1 with
  | none =>
    refine ⟨(st ++ [some [e]], some (st.length, 1)), ?_, ?_⟩
    · simp_all [happ]
    · refine bld_set h hd (xs := [e]) ?_ rfl (by simp) (fun e' h' => by grind) (Nat.le_refl _) ?_
      all_goals grind
  | some q =>
    obtain ⟨id, m⟩ := q
    obtain ⟨xs, h1, h2, h3, h4⟩ := h.ok d hmem id m hq
    have hlt := (List.getElem?_eq_some_iff.1 h1).1
    refine ⟨(st.set id none ++ [some (xs ++ [e])], some (st.length, (xs ++ [e]).length)), ?_, ?_⟩
    · simp only [happ, h1, List.length_singleton]
      grind
    · refine bld_set h hd (xs := xs ++ [e]) ?_ rfl (by simp; omega) ?_ (Nat.le_refl _) ?_
      all_goals grind

/-- What a topology is made of. -/
structure TopoOk (n : Ty.El tNetwork) (t : Ty.El tTopo) : Prop where
  doms : t.1.length ≤ 360
  ends : ∀ d, d ∈ t.1 → d.2.2.1.length ≤ 360 ∧ ∀ e, e ∈ d.2.2.1 → EndOk n d.1 d.2.1 e
  links : t.2.1.length ≤ 12
  link : ∀ l, l ∈ t.2.1 → 0 ≤ l ∧ l < (t.1.length : Int)
  so : t.1.Pairwise (fun d d' => keyLt d.1 d.2.1 d'.1 d'.2.1)

theorem mapO_rel {α β : Type} {f : α → Option β} {R : α → β → Prop} : ∀ {xs : List α}, (∀ x, x ∈ xs → Wp (f x) (R x)) → Wp (mapO f xs) (fun ys : List β => ys.length = xs.length ∧ ∀ (i : Nat) x y, xs[i]? = some x → ys[i]? = some y → R x y)
  | [], _ => ⟨[], rfl, rfl, fun i x y h => by simp at h⟩
  | x :: r, h => by
    obtain ⟨y, h1, h2⟩ := h x (by simp)
    obtain ⟨ys, h3, h4, h5⟩ := mapO_rel (xs := r) (fun z hz => h z (List.mem_cons_of_mem _ hz))
    refine ⟨y :: ys, by grind [mapO], by simp [h4], ?_⟩
    grind

theorem bld_unrf {n : Ty.El tNetwork} {B : Nat} {D : List (Ty.El tDomainR)} {st : HSt tPorts} (h : Bld n B D st) :
    Wp (mapO (unrfV st tDomainR) D) (fun ys => ys.length = D.length ∧ (∀ d : Ty.El tDomain, d ∈ ys → d.2.2.1.length ≤ B ∧ ∀ e, e ∈ d.2.2.1 → EndOk n d.1 d.2.1 e) ∧ ys.Pairwise (fun d d' : Ty.El tDomain => keyLt d.1 d.2.1 d'.1 d'.2.1)) := by
  refine (mapO_rel (R := fun (d : Ty.El tDomainR) (y : Ty.El tDomain) => (y.2.2.1.length ≤ B ∧ ∀ e, e ∈ y.2.2.1 → EndOk n y.1 y.2.1 e) ∧ y.1 = d.1 ∧ y.2.1 = d.2.1) ?_).mono ?_
  · intro d hd
    obtain ⟨⟨p1, p2, ⟨⟩⟩, v, q, ⟨⟩⟩ := d
    cases q with
    | none => exact ⟨((p1, p2, ()), v, [], ()), rfl, ⟨Nat.zero_le _, fun e he => by cases he⟩, rfl, rfl⟩
    | some q =>
      obtain ⟨id, m⟩ := q
      obtain ⟨xs, h1, h2, h3, h4⟩ := h.ok _ hd id m rfl
      refine ⟨((p1, p2, ()), v, xs, ()), ?_, ⟨h3, h4⟩, rfl, rfl⟩
      grind [unrfV]
  · rintro ys ⟨h1, h2⟩
    have hat : ∀ i (hi : i < ys.length), ∃ d, D[i]? = some d ∧ ((ys[i].2.2.1.length ≤ B ∧ ∀ e, e ∈ ys[i].2.2.1 → EndOk n ys[i].1 ys[i].2.1 e) ∧ ys[i].1 = d.1 ∧ ys[i].2.1 = d.2.1) := by
      intro i hi
      refine ⟨D[i]'(by omega), by simp, h2 i _ _ (by simp) (by simp [hi])⟩
    refine ⟨h1, ?_, ?_⟩
    · intro d hd
      obtain ⟨i, hi, rfl⟩ := List.getElem_of_mem hd
      grind
    · rw [List.pairwise_iff_getElem]
      intro i j hi hj hij
      have hso := List.pairwise_iff_getElem.1 h.so i j (by omega) (by omega) hij
      grind
end Go.Ve

namespace Go.Ve
open Go
set_option maxRecDepth 1000000
set_option maxHeartbeats 4000000

theorem atN_of {α : Type} {xs : List α} {i : Nat} {x : α} (h : xs[i]? = some x) : atN xs i = some x := h

abbrev BSt := (List (Ty.El tDomainR) × List Int) × HSt tPorts

theorem tot_ref15_Build_H (a1 : Ty.El tNetwork) (hn : a1.1.length ≤ 9) (hs : ∀ y, y ∈ a1.fst → SmR y) :
    Wp (ref15_Build_H [] (a1, ())) (fun r => (r.2.2.1 = 0 → Bld a1 360 r.2.1.1 r.1 ∧ r.2.1.2.1.length ≤ 12 ∧ (∀ l, l ∈ r.2.1.2.1 → 0 ≤ l ∧ l < (r.2.1.1.length : Int)) ∧ ref8_Check (a1, ()) = some 0) ∧ (r.2.2.1 ≠ 0 → r.2.1 = ([], [], ()))) := by
  unfold ref15_Build_H
  dsimp only
  refine wp_bindT ((tot_ref8_Check a1 hs).mono (fun _ _ => trivial)) (fun y0 hy0 => ?_)
  refine wp_bif (fun hc => ?_) (fun hc => ?_)
  · refine wp_some ⟨fun h => ?_, fun _ => rfl⟩
    grind
  have hy : y0 = 0 := by simpa using hc
  subst hy
  refine wp_bind ((wp_fold (xs := a1.fst) (by omega) (fun i (g : BSt) => g.1.2 = [] ∧ Bld a1 (40 * i) g.1.1 g.2) ⟨rfl, bld_nil⟩ ?_ (Q := fun g => g.1.2 = [] ∧ Bld a1 360 g.1.1 g.2) (fun g hg => ⟨hg.1, bld_mono hg.2 (by omega)⟩)).mono ?_)
  · intro i x g hx hj
    have hi : i < 9 := by grind
    have hsx := (hs x (List.mem_of_getElem? hx)).i1
    simp only [idx_nat hx, Option.bind_some]
    refine (wp_fold (xs := x.snd.snd.fst) (by omega) (fun j (g : BSt) => g.1.2 = [] ∧ Bld a1 (40 * i + 2 * j) g.1.1 g.2) hj ?_ (fun g hg => ⟨hg.1, bld_mono hg.2 (by omega)⟩))
    intro j f g hf hj
    have hjl : j < 20 := by grind
    obtain ⟨⟨D, L⟩, st⟩ := g
    obtain ⟨rfl, hD⟩ := hj
    simp only [idx_nat hf, Option.bind_some]
    refine wp_bind ((show Wp _ (fun s : Bool × BSt => s.2 = ((D, []), st) ∧ (s.1 = false → f.snd.snd.fst ≠ 0 ∧ f.snd.snd.snd.snd.fst = false)) from ?_).mono ?_)
    · refine wp_bif (fun h => wp_some ⟨rfl, fun h => by cases h⟩) (fun h => wp_some ⟨rfl, fun h' => ⟨by simpa using h, h'⟩⟩)
    rintro ⟨b, g⟩ ⟨hg, hb⟩
    simp only at hg hb
    subst hg
    refine wp_bif (fun _ => wp_some ⟨rfl, bld_mono hD (by omega)⟩) (fun hb' => ?_)
    obtain ⟨hlen, hdown⟩ := hb hb'
    refine wp_bindT (tot_ref4_Network _ _) (fun p hp => ?_)
    -- the place of the domain
    refine wp_bind ((show Wp _ (fun s : Int × BSt => ∃ k : Nat, s.1 = (k : Int) ∧ k ≤ D.length ∧ s.2 = ((D, []), st) ∧ (∀ m d, m < k → D[m]? = some d → keyLt d.1 d.2.1 p f.snd.snd.snd.fst) ∧ (∀ d, D[k]? = some d → ¬ keyLt d.1 d.2.1 p f.snd.snd.snd.fst)) from ?_).mono ?_)
    · refine wp_loop (fun s : Int × BSt => ∃ k : Nat, s.1 = (k : Int) ∧ k ≤ D.length ∧ s.2 = ((D, []), st) ∧ (∀ m d, m < k → D[m]? = some d → keyLt d.1 d.2.1 p f.snd.snd.snd.fst)) (fun s => ((D.length : Int) - s.1).toNat) ⟨(0 : Nat), rfl, Nat.zero_le _, rfl, fun m d hm => by omega⟩ ?_
      rintro ⟨s, g⟩ ⟨k, hk, hkl, hg, hlo⟩
      simp only at hk hg
      subst hk hg
      have hDl : D.length ≤ _ := hD.len
      refine wp_bind ((show Wp _ (fun s : Bool × BSt => s.2 = ((D, []), st) ∧ (s.1 = true → ∃ d, D[k]? = some d ∧ keyLt d.1 d.2.1 p f.snd.snd.snd.fst) ∧ (s.1 = false → ∀ d, D[k]? = some d → ¬ keyLt d.1 d.2.1 p f.snd.snd.snd.fst)) from ?_).mono ?_)
      · refine wp_bifd (fun hlt => ?_) (fun hge => wp_some ⟨rfl, (fun h => by cases h), fun _ d hd => ?_⟩)
        · have hlt : k < D.length := by grind
          have hk : D[k]? = some D[k] := by simp [hlt]
          generalize D[k] = dk at hk
          have hone : ∀ d, D[k]? = some d → d = dk := fun d hd => by grind
          simp only [idx_nat hk, Int.toNat_natCast, atN_of hk, Option.bind_some]
          refine wp_bind (wp_eq (spec_ref4_Compare _ _) ?_)
          refine wp_bifd (fun hc => wp_some ⟨rfl, fun _ => ⟨dk, hk, .inl (cmpP_lt.1 hc)⟩, fun h => by cases h⟩) (fun hc => ?_)
          have hc : ¬ plt dk.1 p := fun h => hc (cmpP_lt.2 h)
          refine wp_bif (fun he => wp_some ⟨rfl, fun h => ⟨dk, hk, .inr ⟨pre_eq he, of_decide_eq_true h⟩⟩, fun h d hd => ?_⟩) (fun he => wp_some ⟨rfl, (fun h => by cases h), fun _ d hd => ?_⟩)
          · have hd : d = dk := hone d hd
            subst hd
            rintro (h1 | ⟨_, h1⟩)
            all_goals grind
          · have hd : d = dk := hone d hd
            subst hd
            rintro (h1 | ⟨h1, _⟩)
            all_goals grind
        grind
      · rintro ⟨b, g⟩ ⟨hg, hb, hb2⟩
        simp only at hg hb hb2
        subst hg
        refine wp_bif (fun h => ?_) (fun h => ?_)
        · obtain ⟨d, hd, hlt2⟩ := hb h
          have hlt := (List.getElem?_eq_some_iff.1 hd).1
          refine wp_some (e2l ⟨⟨k + 1, ?_, hlt, rfl, ?_⟩, ?_⟩)
          · simp only; rw [wrap_i64 (by omega) (by omega)]; omega
          · intro m d' hm hd'
            rcases Nat.lt_or_ge m k with h' | h'
            · exact hlo m d' h' hd'
            grind
          · simp only; rw [wrap_i64 (by omega) (by omega)]; omega
        · exact wp_some (e2r ⟨k, rfl, hkl, rfl, hlo, hb2 h⟩)
    rintro ⟨s, g⟩ ⟨k, hk, hkl, hg, hlo, hhi⟩
    simp only at hk hg
    subst hk hg
    have hDl : D.length ≤ _ := hD.len
    -- a new domain, where there is none
    refine wp_bind ((show Wp _ (fun g : BSt => g.1.2 = [] ∧ Bld a1 (40 * i + 2 * j + 1) g.1.1 g.2 ∧ ∃ d, g.1.1[k]? = some d ∧ d.1 = p ∧ d.2.1 = f.snd.snd.snd.fst) from ?_).mono ?_)
    · refine wp_bind ((show Wp _ (fun s : Bool × BSt => s.2 = ((D, []), st) ∧ (s.1 = false → ∃ d, D[k]? = some d ∧ d.1 = p ∧ d.2.1 = f.snd.snd.snd.fst) ∧ (s.1 = true → ∀ d, D[k]? = some d → ¬ (d.1 = p ∧ d.2.1 = f.snd.snd.snd.fst))) from ?_).mono ?_)
      · refine wp_bif (fun heq => wp_some ⟨rfl, (fun h => by cases h), fun _ d hd => ?_⟩) (fun hne => ?_)
        · grind
        have hlt : k < D.length := by
          grind
        have hk : D[k]? = some D[k] := by simp [hlt]
        generalize D[k] = dk at hk
        have hone : ∀ d, D[k]? = some d → d = dk := fun d hd => by grind
        simp only [idx_nat hk, Int.toNat_natCast, atN_of hk, Option.bind_some]
        refine wp_bif (fun he => wp_some ⟨rfl, (fun h => by cases h), fun _ d hd h2 => ?_⟩) (fun he => ?_)
        · grind
        have hpe := pre_eq (by simpa using he)
        refine wp_some ⟨rfl, fun hv => ⟨dk, hk, hpe, by simpa using hv⟩, fun hv d hd h2 => ?_⟩
        grind
      · rintro ⟨b, g⟩ ⟨hg, hb, hb2⟩
        simp only at hg hb hb2
        subst hg
        refine wp_bif (fun hbt => ?_) (fun hf' => wp_some ⟨rfl, bld_mono hD (by omega), hb hf'⟩)
        have hins : ∀ d, D[k]? = some d → keyLt p f.snd.snd.snd.fst d.1 d.2.1 := fun d hd => keyLt_or (hhi d hd) (hb2 hbt d hd)
        refine wp_bif (fun _ => ?_) (fun h => ?_)
        · simp only [Int.toNat_natCast, List.take_length]
          refine wp_bind (wp_app (by simp only [List.length_nil, List.length_drop]; omega) ?_)
          refine wp_bif (fun _ => ?_) (fun h => ?_)
          · refine wp_bind (wp_app (by simp; omega) ?_)
            refine wp_bind (wp_app (by simp only [List.length_append, List.length_nil, List.length_take, List.length_drop, List.length_singleton]; omega) ?_)
            rw [List.nil_append]
            refine wp_some ⟨rfl, bld_ins hD k p _ hlo hins, ⟨(p, f.snd.snd.snd.fst, none, ()), ?_, rfl, rfl⟩⟩
            simp only
            rw [List.append_assoc, List.getElem?_append_right (by simp; omega)]
            simp only [List.length_take]
            rw [show k - min k D.length = 0 by omega]
            rfl
          grind
        grind
    rintro ⟨⟨D', L'⟩, st'⟩ ⟨hL, hD', d, hk, hd1, hd2⟩
    simp only at hL hD' hk
    subst hL
    have hD'l : D'.length ≤ _ := hD'.len
    simp [idx_nat hk, atN_of hk]
    refine wp_bind ((bld_app hD' (by omega) hk (e := (↑i, ↑j, ())) ⟨(show (0 : Int) ≤ (i : Int) by omega), (show (0 : Int) ≤ (j : Int) by omega), x, f, by simpa using hx, by simpa using hf, hlen, hdown, ?_, ?_⟩).mono ?_)
    · rw [hp, hd1]
    · exact hd2.symm
    · rintro ⟨st2, q2⟩ hB
      exact wp_some ⟨rfl, bld_mono hB (by omega)⟩
  · rintro ⟨⟨D, L⟩, st⟩ ⟨hL, hD⟩
    simp only at hL hD
    subst hL
    have hDl : D.length ≤ _ := hD.len
    refine wp_bind ((wp_foldN (n := D.length) (by omega) (fun i (g : BSt) => g.1.1 = D ∧ g.2 = st ∧ g.1.2.length ≤ i ∧ ∀ l, l ∈ g.1.2 → 0 ≤ l ∧ l < (D.length : Int)) ⟨rfl, rfl, Nat.le_refl _, (fun l hl => by cases hl)⟩ (fun i g hg => by simp only [hg.1]) ?_
      (Q := fun g : BSt => g.1.1 = D ∧ g.2 = st ∧ ∀ l, l ∈ g.1.2 → 0 ≤ l ∧ l < (D.length : Int)) (fun g hg => ⟨hg.1, hg.2.1, hg.2.2.2⟩)).mono ?_)
    · rintro i ⟨⟨D', L⟩, st'⟩ hi ⟨rfl, rfl, hL, hl⟩
      simp only at hi hL hl
      have hDl2 : D'.length ≤ 360 := hD.len
      have hk : D'[i]? = some D'[i] := by simp [hi]
      simp only [idx_nat hk, Int.toNat_natCast, atN_of hk, Option.bind_some]
      refine wp_bifd (fun _ => ?_) (fun _ => wp_some ⟨rfl, rfl, by simp only; omega, hl⟩)
      refine wp_bind (wp_app (by grind) (wp_some ⟨rfl, rfl, by grind, ?_⟩))
      grind
    · rintro ⟨⟨D', L⟩, st'⟩ ⟨rfl, rfl, hl⟩
      simp only at hl
      refine wp_bifd (fun _ => wp_some ⟨(fun h => by cases h), fun _ => rfl⟩) (fun h => wp_some ⟨fun _ => ⟨hD, ?_, hl, hy0⟩, fun h => absurd rfl h⟩)
      grind
end Go.Ve

namespace Go.Ve
open Go
set_option maxRecDepth 1000000
set_option maxHeartbeats 4000000

theorem unrf_pair {tE a b : Ty} {st : HSt tE} {x : a.El} {y : b.El} {x' : (unrfT tE a).El} {y' : (unrfT tE b).El} (h1 : unrfV st a x = some x') (h2 : unrfV st b y = some y') : unrfV st (.pair a b) (x, y) = some (x', y') := by
  grind [unrfV]

theorem unrfS_cons {tE a : Ty} {r : List Ty} {st : HSt tE} {x : a.El} {y : ElS r} {x' : (unrfT tE a).El} {y' : ElS (unrfTs tE r)} (h1 : unrfV st a x = some x') (h2 : unrfS st r y = some y') : unrfS st (a :: r) (x, y) = some (x', y') := by
  grind [unrfS]

theorem mapO_some {α : Type} {f : α → Option α} (hf : ∀ x, f x = some x) : ∀ l : List α, mapO f l = some l
  | [] => rfl
  | x :: l => by simp [mapO, hf x, mapO_some hf l]

theorem tot_ref15_Build (a1 : Ty.El tNetwork) (hn : a1.1.length ≤ 9) (hs : ∀ y, y ∈ a1.fst → SmR y) :
    Wp (ref15_Build (a1, ())) (fun r => r.2.1 = 0 → TopoOk a1 r.1 ∧ ref8_Check (a1, ()) = some 0) := by
  obtain ⟨⟨st, ⟨D, L, ⟨⟩⟩, e, ⟨⟩⟩, h1, h2, h3⟩ := tot_ref15_Build_H a1 hn hs
  unfold ref15_Build unheap
  rw [h1]
  simp only at h2 h3
  by_cases he : e = 0
  · subst he
    obtain ⟨hB, hL, hl, hc⟩ := h2 rfl
    obtain ⟨ys, g1, g2, g3, g4⟩ := bld_unrf hB
    refine ⟨((ys, L, ()), 0, ()), ?_, fun _ => ⟨⟨?_, g3, hL, ?_, g4⟩, hc⟩⟩
    · have e1 : unrfV st (.sl tDomainR) D = some ys := g1
      have e2 : unrfV st (.sl tI) L = some L := mapO_some (fun _ => rfl) L
      exact unrfS_cons (r := [tI]) (unrf_pair e1 (unrf_pair e2 rfl)) rfl
    · simp only; have : D.length ≤ 360 := hB.len; omega
    grind
  · have := h3 he
    simp only [Prod.mk.injEq] at this
    obtain ⟨rfl, rfl, _⟩ := this
    exact ⟨(([], [], ()), e, ()), rfl, fun h => absurd h he⟩

/-- The failed links ascend. -/
structure DownOk (d : List Int) (m : Int) : Prop where
  len : d.length ≤ 2
  lo : ∀ x, x ∈ d → 0 ≤ x ∧ x < m

theorem tot_ref15_Ascending (d : List Int) (m : Int) : Wp (ref15_Ascending (d, m, ())) (fun b => b = true → DownOk d m) := by
  unfold ref15_Ascending
  dsimp only
  refine wp_bifd (fun _ => wp_some (fun h => by cases h)) (fun h => ?_)
  refine wp_find (by omega) (fun i => ∀ (j : Nat) (y : Int), j < i → d[j]? = some y → 0 ≤ y ∧ y < m) (fun j y hj => by omega) ?_ ?_
  · intro i (x : Int) hx hj
    have hi := (List.getElem?_eq_some_iff.1 hx).1
    simp only [idx_nat hx, Option.bind_some]
    refine wp_bind ((show Wp _ (fun b : Bool => b = false → 0 ≤ x ∧ x < m) from ?_).mono ?_)
    · refine wp_bifd (fun _ => wp_some (fun h => by cases h)) (fun h1 => ?_)
      refine wp_bifd (fun _ => wp_some (fun h => by cases h)) (fun h2 => ?_)
      refine wp_bifd (fun h3 => ?_) (fun _ => wp_some (fun _ => ⟨by omega, by omega⟩))
      refine wp_bind (wp_idx (by grind [wrap_i64]) (by grind [wrap_i64]) (fun y _ _ => wp_some (fun _ => ⟨by omega, by omega⟩)))
    · intro b hb
      refine wp_bif (fun _ => wp_some (e2r (e2r (fun h => by cases h)))) (fun h => wp_some (e2l ⟨rfl, ?_⟩))
      grind
  · intro hj
    refine wp_some (fun _ => ⟨by omega, ?_⟩)
    intro x hx
    obtain ⟨j, hjl, rfl⟩ := List.getElem_of_mem hx
    simp_all

theorem all_of {α : Type} {xs : List α} {P : α → Prop} (h : ∀ j y, j < xs.length → xs[j]? = some y → P y) : ∀ y, y ∈ xs → P y := by
  intro x hx
  obtain ⟨j, hjl, rfl⟩ := List.getElem_of_mem hx
  simp_all

/-- A loop that looks whether all are so. -/
theorem wp_all {α ρ : Type} {xs : List α} {P : α → Prop} {body : Int → Option (Int ⊕ (Unit ⊕ ρ))} {K : Unit → Option ρ} {Q : ρ → Prop} (hl : xs.length < 4611686018427387904)
    (step : ∀ (i : Nat) x, xs[i]? = some x → Wp (body (i : Int)) (Either2 (fun s' => s' = IntKind.wrap IntKind.i64 ((i : Int) + 1) ∧ P x) (Either2 (fun _ => False) Q))) (fin : (∀ x, x ∈ xs → P x) → Wp (K ()) Q) :
    Wp (cut2 (loopX (fun s : Int => bif decide (s < (xs.length : Int)) then body s else some (Sum.inr (Sum.inl ()))) (0 : Int)) K) Q := by
  refine wp_find hl (fun i => ∀ j y, j < i → xs[j]? = some y → P y) (fun j y hj => by omega) ?_ (fun h => fin (all_of h))
  intro i x hx hj
  refine (step i x hx).mono ?_
  grind

theorem tot_law5_Small (a1 : Ty.El tRouter) : Wp (law5_Small (a1, ())) (fun b => b = true → SmR a1) := by
  unfold law5_Small
  dsimp only
  refine wp_bind ((show Wp _ (fun b : Bool => b = false → List.length a1.snd.snd.fst ≤ 12 ∧ List.length a1.snd.snd.snd.fst ≤ 12 ∧ List.length a1.snd.snd.snd.snd.fst ≤ 12 ∧ List.length a1.snd.snd.snd.snd.snd.fst ≤ 12 ∧ List.length a1.snd.snd.snd.snd.snd.snd.fst ≤ 12 ∧
    List.length a1.snd.snd.snd.snd.snd.snd.snd.fst ≤ 20 ∧ List.length a1.snd.snd.snd.snd.snd.snd.snd.snd.fst.snd.snd.fst ≤ 8 ∧ List.length a1.snd.snd.snd.snd.snd.snd.snd.snd.fst.snd.snd.snd.fst ≤ 8 ∧ List.length a1.snd.snd.snd.snd.snd.snd.snd.snd.snd.fst.snd.snd.snd.snd.fst ≤ 8 ∧
    List.length a1.snd.snd.snd.snd.snd.snd.snd.snd.snd.snd.fst.snd.snd.snd.snd.snd.snd.snd.fst ≤ 8 ∧ List.length a1.snd.snd.snd.snd.snd.snd.snd.snd.snd.snd.fst.snd.snd.snd.fst ≤ 12 ∧ List.length a1.snd.snd.snd.snd.snd.snd.snd.snd.snd.snd.fst.snd.snd.snd.snd.fst ≤ 12 ∧
    List.length a1.snd.snd.snd.snd.snd.snd.snd.snd.snd.snd.fst.snd.snd.snd.snd.snd.fst ≤ 12 ∧ List.length a1.snd.snd.snd.snd.snd.snd.snd.snd.snd.snd.fst.snd.snd.snd.snd.snd.snd.fst ≤ 12) from ?_).mono ?_)
  · iterate 13 (refine wp_bifd (fun _ => wp_some (fun h => by cases h)) (fun _ => ?_))
    grind [wp_some, of_decide_eq_false]
  intro b hb
  refine wp_bif (fun _ => wp_some (fun h => by cases h)) (fun h => ?_)
  obtain ⟨i1, i2, i3, i4, i5, i6, i7, i8, i9, i10, i11, i12, i13, i14⟩ := hb h
  refine wp_all (P := fun y => List.length y.snd.fst ≤ 20) (by omega) ?_ (fun n1 => ?_)
  · intro i x hx
    simp only [idx_nat hx, Option.bind_some]
    exact wp_bifd (fun _ => wp_some (e2r (e2r (fun h => by cases h)))) (fun _ => wp_some (e2l ⟨rfl, by omega⟩))
  refine wp_all (P := fun y => List.length y.snd.fst ≤ 20) (by omega) ?_ (fun n2 => ?_)
  · intro i x hx
    simp only [idx_nat hx, Option.bind_some]
    exact wp_bifd (fun _ => wp_some (e2r (e2r (fun h => by cases h)))) (fun _ => wp_some (e2l ⟨rfl, by omega⟩))
  refine wp_all (P := fun y => List.length y.snd.fst ≤ 20) (by omega) ?_ (fun n3 => ?_)
  · intro i x hx
    simp only [idx_nat hx, Option.bind_some]
    exact wp_bifd (fun _ => wp_some (e2r (e2r (fun h => by cases h)))) (fun _ => wp_some (e2l ⟨rfl, by omega⟩))
  refine wp_some (fun _ => ?_)
  constructor <;> first | assumption | omega

theorem tot_law13_Small (a1 : Ty.El tNetwork) : Wp (law13_Small (a1, ())) (fun b => b = true → a1.1.length ≤ 9 ∧ ∀ y, y ∈ a1.1 → SmR y) := by
  unfold law13_Small
  dsimp only
  refine wp_bifd (fun _ => wp_some (fun h => by cases h)) (fun hn => ?_)
  refine wp_all (P := SmR) (by omega) ?_ (fun h => wp_some (fun _ => ⟨by omega, h⟩))
  intro i x hx
  simp only [idx_nat hx, Option.bind_some]
  refine wp_bind ((tot_law5_Small x).mono (fun b hb => ?_))
  refine wp_bif (fun _ => wp_some (e2r (e2r (fun h => by cases h)))) (fun h => wp_some (e2l ⟨rfl, hb (by simpa using h)⟩))

/-- What a view is made of. -/
structure ViewOk (n : Ty.El tNetwork) (d : List Int) (v : Ty.El tView) : Prop where
  net : v.1 = n
  rs : n.1.length ≤ 9
  sm : ∀ y, y ∈ n.1 → SmR y
  chk : ref8_Check (n, ()) = some 0
  topo : TopoOk n v.2.1
  dn : v.2.2.1 = d
  down : DownOk d v.2.1.2.1.length

theorem tot_ref15_Make (n : Ty.El tNetwork) (d : List Int) (hn : n.1.length ≤ 9) (hs : ∀ y, y ∈ n.fst → SmR y) :
    Wp (ref15_Make (n, d, ())) (fun r => r.2.1 = 0 → ViewOk n d r.1) := by
  unfold ref15_Make
  dsimp only
  refine wp_bind ((tot_ref15_Build n hn hs).mono (fun y0 hy => ?_))
  refine wp_bif (fun h => wp_some (fun h' => ?_)) (fun h => ?_)
  · grind
  have he : y0.2.1 = 0 := by simpa using h
  obtain ⟨ht, hc⟩ := hy he
  refine wp_bind ((tot_ref15_Ascending _ _).mono (fun b hb => ?_))
  refine wp_bif (fun _ => wp_some (fun h' => by cases h')) (fun hb' => ?_)
  have hd := hb (by simpa using hb')
  refine wp_bind (wp_app (by have := hd.len; grind) ?_)
  refine wp_some (fun _ => ⟨rfl, hn, hs, hc, ht, rfl, ?_⟩)
  exact hd

theorem tot_law13_View (n : Ty.El tNetwork) (d : List Int) : Wp (law13_View (n, d, ())) (fun r => r.2.1 = true → ViewOk n d r.1) := by
  unfold law13_View
  dsimp only
  refine wp_bind (wp_bind ((tot_law13_Small n).mono (fun b hb => ?_)))
  refine wp_bif (fun _ => wp_some ?_) (fun h => wp_some ?_)
  · grind [wp_some]
  · obtain ⟨hn, hs⟩ := hb (by simpa using h)
    refine wp_bif (fun _ => wp_some (fun h => by cases h)) (fun _ => ?_)
    refine wp_bind ((tot_ref15_Make n d hn hs).mono (fun r hr => wp_some (fun h => hr ?_)))
    simpa using h
end Go.Ve

namespace Go.Ve
open Go
set_option maxRecDepth 1000000
set_option maxHeartbeats 4000000

/-- A route whose lists are no longer than the bulk. -/
structure RtS (x : Ty.El tRoute) : Prop where
  path : List.length x.snd.snd.snd.snd.snd.snd.snd.snd.fst ≤ 1048576
  hops : List.length x.snd.snd.snd.snd.snd.snd.snd.snd.snd.snd.snd.fst ≤ 1048576

end Go.Ve

namespace Go.Ve
open Go
set_option maxRecDepth 1000000
set_option maxHeartbeats 4000000

/-- Two lists of one length are walked side by side. -/
theorem wp_zip {α ρ : Type} {xs ys : List α} {body : Int → Option (Int ⊕ (Unit ⊕ ρ))} {K : Unit → Option ρ} {Q : ρ → Prop} (hl : xs.length < 4611686018427387904) (he : xs.length = ys.length)
    (step : ∀ (i : Nat) x y, xs[i]? = some x → ys[i]? = some y → Wp (body (i : Int)) (Either2 (fun s' => s' = IntKind.wrap IntKind.i64 ((i : Int) + 1) ∧ x = y) (Either2 (fun _ => False) Q))) (fin : xs = ys → Wp (K ()) Q) :
    Wp (cut2 (loopX (fun s : Int => bif decide (s < (xs.length : Int)) then body s else some (Sum.inr (Sum.inl ()))) (0 : Int)) K) Q := by
  refine wp_find hl (fun i => ∀ j, j < i → xs[j]? = ys[j]?) (fun j hj => by omega) ?_ (fun h => fin ?_)
  · intro i x hx hj
    have hi := (List.getElem?_eq_some_iff.1 hx).1
    have hy : ys[i]? = some (ys[i]'(by omega)) := by simp
    refine (step i x _ hx hy).mono ?_
    intro o ho
    cases o with
    | inl s' =>
      refine ⟨ho.1, ?_⟩
      intro j hj'
      rcases Nat.lt_or_ge j i with h' | h'
      · exact hj j h'
      · have : j = i := by omega
        subst this
        rw [hx, hy, ho.2]
    | inr o => exact ho
  · refine List.ext_getElem? (fun j => ?_)
    rcases Nat.lt_or_ge j xs.length with h' | h'
    · exact h j h'
    · rw [List.getElem?_eq_none h', List.getElem?_eq_none (by omega)]

/-- Lists that a loop can count. -/
structure RtB (x : Ty.El tRoute) : Prop where
  path : x.2.2.2.2.2.2.2.2.1.length ≤ 1152921504606846976
  hops : x.2.2.2.2.2.2.2.2.2.2.2.1.length ≤ 1152921504606846976

theorem RtS.b {x : Ty.El tRoute} (h : RtS x) : RtB x := ⟨Nat.le_trans h.path (by omega), Nat.le_trans h.hops (by omega)⟩

theorem same_iffB (a b : Ty.El tRoute) (ha : RtB a) : Wp (ref15_Same (a, b, ())) (fun r => r = true ↔ a = b) := by
  obtain ⟨hp, hh⟩ := ha
  obtain ⟨⟨pa, pl, ⟨⟩⟩, pr, cl, ad, me, inn, tg, pf, path, fr, nx, hops, dc, ⟨⟩⟩ := a
  obtain ⟨⟨pa', pl', ⟨⟩⟩, pr', cl', ad', me', inn', tg', pf', path', fr', nx', hops', dc', ⟨⟩⟩ := b
  simp only at hp hh
  unfold ref15_Same
  dsimp only
  refine wp_bind ((show Wp _ (fun s : Bool => (s = true → ¬ (pa = pa' ∧ pl = pl' ∧ pr = pr' ∧ cl = cl' ∧ ad = ad' ∧ me = me' ∧ inn = inn' ∧ tg = tg' ∧ pf = pf' ∧ fr = fr' ∧ nx = nx' ∧ dc = dc' ∧ path.length = path'.length ∧ hops.length = hops'.length)) ∧
    (s = false → pa = pa' ∧ pl = pl' ∧ pr = pr' ∧ cl = cl' ∧ ad = ad' ∧ me = me' ∧ inn = inn' ∧ tg = tg' ∧ pf = pf' ∧ fr = fr' ∧ nx = nx' ∧ dc = dc' ∧ path.length = path'.length ∧ hops.length = hops'.length)) from ?_).mono ?_)
  · iterate 12 (refine wp_bif (fun h => wp_some ⟨fun _ e => ?_, fun h => by cases h⟩) (fun _ => ?_); · simp_all)
    refine wp_some ⟨fun h e => ?_, fun h => ?_⟩
    · simp_all
    · simp_all <;> omega
  intro s hs
  refine wp_bif (fun h => wp_some ?_) (fun h => ?_)
  · have h1 := hs.1 h
    constructor
    · intro h'; cases h'
    · intro e
      exfalso
      apply h1
      simp only [Prod.mk.injEq] at e
      obtain ⟨⟨e1, e2, _⟩, e3, e4, e5, e6, e7, e8, e9, e10, e11, e12, e13, e14, _⟩ := e
      exact ⟨e1, e2, e3, e4, e5, e6, e7, e8, e9, e11, e12, e14, by rw [e10], by rw [e13]⟩
  obtain ⟨rfl, rfl, rfl, rfl, rfl, rfl, rfl, rfl, rfl, rfl, rfl, rfl, l1, l2⟩ := hs.2 h
  refine wp_zip (xs := path) (ys := path') (by omega) l1 ?_ (fun e1 => ?_)
  · intro i x y hx hy
    simp only [idx_nat hx, idx_nat hy, Option.bind_some]
    refine wp_bif (fun h => wp_some (e2r (e2r ?_))) (fun h => wp_some (e2l ⟨rfl, ?_⟩))
    · constructor
      · intro h'; cases h'
      · intro e
        exfalso
        simp only [Prod.mk.injEq] at e
        obtain ⟨_, _, _, _, _, _, _, _, e10, _⟩ := e
        rw [e10, hy] at hx
        cases hx
        simp at h
    · simpa using h
  subst e1
  refine wp_zip (xs := hops) (ys := hops') (by omega) l2 ?_ (fun e1 => ?_)
  · intro i x y hx hy
    simp only [idx_nat hx, idx_nat hy, Option.bind_some]
    refine wp_bif (fun h => wp_some (e2r (e2r ?_))) (fun h => wp_some (e2l ⟨rfl, ?_⟩))
    · constructor
      · intro h'; cases h'
      · intro e
        exfalso
        simp only [Prod.mk.injEq] at e
        obtain ⟨_, _, _, _, _, _, _, _, _, _, _, e10, _⟩ := e
        rw [e10, hy] at hx
        cases hx
        simp at h
    · exact pre_eq (by simpa using h)
  subst e1
  exact wp_some ⟨fun _ => rfl, fun _ => rfl⟩

end Go.Ve



namespace Go.Ve
open Go
set_option maxRecDepth 1000000
set_option maxHeartbeats 4000000

def clampN (n : Int) : Nat := min n.toNat 32

/-- As many ones as k at the top. -/
def maskB (k : Nat) : BitVec 32 := BitVec.allOnes 32 <<< (32 - k)

theorem clampN_le (n : Int) : clampN n ≤ 32 := Nat.min_le_right _ _

theorem wrap_u32 {x : Int} (h0 : 0 ≤ x) (h1 : x < 4294967296) : IntKind.wrap .u32 x = x := by
  have e1 : ((2 : Int) ^ IntKind.bits .u32) = 4294967296 := by decide
  simp [IntKind.wrap, IntKind.signed, e1]
  omega

theorem wrap_bv (x : BitVec 32) : IntKind.wrap .u32 (x.toNat : Int) = (x.toNat : Int) := wrap_u32 (by omega) (by omega)

theorem ofInt_bv (x : BitVec 32) : BitVec.ofInt 32 (x.toNat : Int) = x := by
  grind

theorem step_mask : ∀ i, i < 32 → maskB i ||| BitVec.ofInt 32 (IntKind.wrap .u32 (1 * 2 ^ min (31 - i) 32)) = maskB (i + 1) := by decide +kernel

theorem mask_zero : maskB 0 = 0#32 := by decide +kernel

theorem addr_mask_at : ∀ k, k < 33 → IntKind.wrap .u32 (4294967295 * 2 ^ min (32 - k) 32) = ((maskB k).toNat : Int) := by decide +kernel

theorem spec_ref4_Mask (n : Int) : Wp (ref4_Mask (n, ())) (fun m => m = ((maskB (clampN n)).toNat : Int)) := by
  unfold ref4_Mask
  dsimp only
  refine wp_bind ((wp_foldN (n := 32) (by omega) (fun i (m : Int) => m = ((maskB (min i (clampN n))).toNat : Int)) (by simp [mask_zero]) (fun i g _ => by simp) ?_ (Q := fun m => m = ((maskB (clampN n)).toNat : Int)) (fun g hg => by
    rw [hg, Nat.min_eq_right (clampN_le n)])).mono (fun m hm => wp_some hm))
  intro i g hi hg
  subst hg
  refine wp_bifd (fun h => ?_) (fun h => wp_some ?_)
  · have h : (i : Int) < n := h
    have hk : i < clampN n := by unfold clampN; omega
    refine wp_bifd (fun _ => wp_some ?_) (fun h' => absurd ?_ h')
    · have e1 : min i (clampN n) = i := by omega
      have e2 : min (i + 1) (clampN n) = i + 1 := by omega
      rw [e1, e2]
      dsimp only
      rw [wrap_i64 (by omega) (by omega), wrap_u64 (by omega) (by omega), show ((31 : Int) - (i : Int)).toNat = 31 - i by omega]
      change IntKind.wrap .u32 (((BitVec.ofInt 32 ((maskB i).toNat : Int) ||| BitVec.ofInt 32 (IntKind.wrap .u32 (1 * 2 ^ min (31 - i) 32))).toNat : Nat) : Int) = _
      rw [ofInt_bv, step_mask i hi, wrap_bv]
    grind [wrap_i64, wrap_u64]
  grind [Nat.min_eq_right, clampN]

theorem clamp_if (n : Int) : (if (if (32 : Int) < n then (32 : Int) else n) > (0 : Int) then if (32 : Int) < n then (32 : Int) else n else (0 : Int)) = (clampN n : Int) := by
  grind [clampN]

theorem spec_addr_Mask (n : Int) : addr_Mask (n, ()) = some ((maskB (clampN n)).toNat : Int) := by
  have hle := clampN_le n
  unfold addr_Mask addr_clamp
  simp [clamp_if]
  rw [wrap_i64 (by omega) (by omega)]
  have h0 : (0 : Int) ≤ 32 - ((clampN n : Nat) : Int) := by omega
  simp only [h0, decide_true, cond_true]
  rw [show ((32 : Int) - ((clampN n : Nat) : Int)).toNat = 32 - clampN n by omega]
  exact congrArg some (addr_mask_at _ (by omega))

/-- A prefix in form. -/
def validB (p : Ty.El tPrefix) : Bool := decide (p.2.1 ≥ 0) && (decide (p.2.1 ≤ 32) && (BitVec.ofInt 32 p.1 &&& ~~~ maskB (clampN p.2.1)) == 0#32)

theorem spec_ref4_Valid (p : Ty.El tPrefix) : ref4_Valid (p, ()) = some (validB p) := by
  refine wp_val ?_
  unfold ref4_Valid validB
  dsimp only
  refine wp_bind (wp_bif (fun h => wp_bif (fun h' => wp_bind ((spec_ref4_Mask _).mono (fun m hm => wp_some (wp_some ?_)))) (fun h' => wp_some (wp_some ?_))) (fun h => wp_some (wp_some ?_)))
  · subst hm
    rw [h, h']
    simp only [Bool.true_and]
    change (IntKind.wrap .u32 (((BitVec.ofInt 32 p.1 &&& ~~~ BitVec.ofInt 32 ((maskB (clampN p.2.1)).toNat : Int)).toNat : Nat) : Int) == (0 : Int)) = _
    rw [ofInt_bv, wrap_bv, Bool.eq_iff_iff, beq_iff_eq, beq_iff_eq]
    constructor
    · intro h
      apply BitVec.eq_of_toNat_eq
      grind
    grind
  all_goals grind

end Go.Ve







namespace Go.Ve
open Go
set_option maxRecDepth 1000000
set_option maxHeartbeats 4000000

def cmpL : List (Int × Int) → Int
  | [] => 0
  | (a, b) :: r => if a < b then -1 else if b < a then 1 else cmpL r

section
variable {α : Type} {lt eq : α → α → Bool}

end
end Go.Ve



namespace Go.Ve
open Go
set_option maxRecDepth 1000000
set_option maxHeartbeats 4000000

def hlt (a b : Ty.El tHop) : Prop := pltI a.1 a.2.1 b.1 b.2.1

def hltB (a b : Ty.El tHop) : Bool := decide (cmpI a.1 a.2.1 b.1 b.2.1 < 0)

theorem hltB_iff {a b : Ty.El tHop} : hltB a b = true ↔ hlt a b := by
  unfold hltB; rw [decide_eq_true_eq]; exact cmpI_lt

theorem spec_ref15_lessHop (a b : Ty.El tHop) : ref15_lessHop (a, b, ()) = some (hltB a b) := by
  refine wp_val ?_
  unfold ref15_lessHop
  dsimp only
  have hd : ∀ s : Bool, (s = true ↔ hlt a b) → s = hltB a b := by
    intro s hs
    rw [Bool.eq_iff_iff, hltB_iff]
    exact hs
  refine wp_bind (wp_bifd (fun h => wp_some (wp_some (hd _ ⟨fun _ => .inl h, fun _ => rfl⟩))) (fun h => wp_bif (fun h' => wp_some (wp_some (hd _ ?_))) (fun h' => wp_some (wp_some (hd _ ?_)))))
  · have h' : a.1 = b.1 := by simpa using h'
    rw [decide_eq_true_eq]
    exact ⟨fun h2 => .inr ⟨h', h2⟩, fun h2 => h2.elim (fun h3 => absurd h3 h) (fun h3 => h3.2)⟩
  · have h' : ¬ a.1 = b.1 := by simpa using h'
    exact ⟨(fun h2 => by cases h2), fun h2 => (h2.elim (fun h3 => h h3) (fun h3 => h' h3.1)).elim⟩

end Go.Ve























namespace Go.Ve
open Go

/-- A list that is not empty. -/
def decNE (t : Ty) (ds : List V) : Option (t.El × List t.El) :=
  match decS [.sl t] ds with
  | some (y :: r, _) => some (y, r)
  | _ => none

theorem decNE_sound {t : Ty} {ds : List V} {q : t.El × List t.El} (h : decNE t ds = some q) : WkVs ds [.tl t (q.1 :: q.2)] := by
  unfold decNE at h
  split at h
  · rename_i y r u hd
    cases h
    exact decS_sound [.sl t] ds (y :: r, u) hd
  · cases h

open Classical in
/-- One value alone. -/
noncomputable def decEx (v : Value) (ds : List V) : Option Unit := if ds = [.val v] then some () else none

theorem decEx_sound {v : Value} {ds : List V} {q : Unit} (h : decEx v ds = some q) : WkVs ds [.val v] := by
  unfold decEx at h
  split at h
  · rename_i hd
    subst hd
    exact ⟨.refl _, trivial⟩
  · cases h

theorem rd_empty {w : World} {F : Blk → Prop} {v : Value} {t : Ty} (h : Rd w F v (.tl t [])) : ∃ a c, v = .slice a 0 c := by
  have h2 := Rd.untl h
  simp at h2
  generalize hd : V.sl [] = d at h2
  cases h2 with
  | slemp a c => grind
  | sl b off cap k es g hF hcap hk hg hr =>
    grind
  | _ => cases hd

theorem fnOk_clone {P : Program} {G : Nat → Option (List V)} {f : FuncId} {t : Ty} {bytes : Nat}
    (h1 : FnOk unitSig P G f (callS (specG (decNE t) (.p (.sl t)) (fun q => Option.bind (app bytes [] (q.1 :: q.2)) fun z => some z))))
    (h2 : ∀ c, FnOk unitSig P G f (callS (specG (decEx (.slice none 0 c)) (.p (.sl t)) (fun _ => some []))))
    (h3 : ∀ a c, FnOk unitSig P G f (callS (specG (decEx (.slice (some a) 0 c)) (.p (.sl t)) (fun _ => some [])))) :
    FnOk unitSig P G f (callS (specX [.sl t] (.p (.sl t)) (fun x => Option.bind (app bytes [] x.1) fun z => some z))) := by
  intro w F O s args ds s' r hsig hG hF hlen hrd hspec
  simp only [callS, specX, specG] at hspec
  cases hx : decS [.sl t] ds with
  | none => grind
  | some x =>
    rw [hx] at hspec
    have hwk := decS_sound [.sl t] ds x hx
    have hdl : ds.length = 1 := hwk.len
    have hal : args.size = 1 := hlen.trans hdl
    obtain ⟨xs, u⟩ := x
    have hv : Rd w F args[0] (.tl t xs) := hwk.get 0 (ds[0]'(by omega)) (.tl t xs) (by simp) rfl w F _ (hrd 0 _ _ (by simp) (by simp))
    cases xs with
    | cons y r0 =>
      refine h1 w F O s args [.tl t (y :: r0)] s' r hsig hG hF (by simpa using hal) ?_ ?_
      · grind
      · have hde : decNE t [.tl t (y :: r0)] = some (y, r0) := by
          unfold decNE
          rw [show decS [.sl t] [.tl t (y :: r0)] = some (y :: r0, ()) from decS_enc [.sl t] (y :: r0, ())]
        grind [callS, specG]
    | nil =>
      obtain ⟨a, c, ha⟩ := rd_empty hv
      have hres : some (s', r) = some (s, (RTy.p (.sl t)).res []) := by
        have : (app bytes ([] : List t.El) []) = some [] ∨ app bytes ([] : List t.El) [] = none := by
          unfold app; grind
        grind
      simp at hres
      obtain ⟨rfl, rfl⟩ := hres
      have go : ∀ v, args[0] = v → FnOk unitSig P G f (callS (specG (decEx v) (.p (.sl t)) (fun _ => some []))) → Calls P f args w fun e w' => ∃ (v : Value) (F' : Blk → Prop) (O' : Nat → Prop), e = .returned v ∧ unitSig.R s' F' O' w' ∧ Keep O w w' ∧
          (∀ b, O' b → O b ∨ w.heap.size ≤ b) ∧ GrowW (unitSig.wk ∧ ((RTy.p (.sl t)).res []).isH) w.heap.size F F' ∧ (∀ b : Nat, F' b → (F b ∨ w.heap.size ≤ b) ∧ b < w'.heap.size ∧ ¬ O' b) ∧ RetRel w.heap.size w' F' O' v ((RTy.p (.sl t)).res []) := by
        intro v hv0 h
        refine h w F O s' args [.val v] s' _ hsig hG hF (by simpa using hal) ?_ ?_
        · intro i u d hi hd
          match i with
          | 0 =>
            cases hd
            have : u = args[0] := by
              grind
            rw [this, hv0]; exact .val _
          | i + 1 => simp at hd
        · have hde : decEx v [.val v] = some () := by unfold decEx; rw [if_pos rfl]
          grind [callS, specG]
      cases a with
      | none => grind
      | some a => grind

/-- The same, the copy being a list of the caller's own. -/
theorem fnOk_cloneO {P : Program} {G : Nat → Option (List V)} {f : FuncId} {t : Ty} {bytes : Nat}
    (h1 : FnOk unitSig P G f (callS (specG (decNE t) (.o t) (fun q => Option.bind (app bytes [] (q.1 :: q.2)) fun z => some z))))
    (h2 : ∀ c, FnOk unitSig P G f (callS (specG (decEx (.slice none 0 c)) (.o t) (fun _ => some []))))
    (h3 : ∀ a c, FnOk unitSig P G f (callS (specG (decEx (.slice (some a) 0 c)) (.o t) (fun _ => some [])))) :
    FnOk unitSig P G f (callS (specX [.sl t] (.o t) (fun x => Option.bind (app bytes [] x.1) fun z => some z))) := by
  intro w F O s args ds s' r hsig hG hF hlen hrd hspec
  simp only [callS, specX, specG] at hspec
  cases hx : decS [.sl t] ds with
  | none => grind
  | some x =>
    rw [hx] at hspec
    have hwk := decS_sound [.sl t] ds x hx
    have hdl : ds.length = 1 := hwk.len
    have hal : args.size = 1 := hlen.trans hdl
    obtain ⟨xs, u⟩ := x
    have hv : Rd w F args[0] (.tl t xs) := hwk.get 0 (ds[0]'(by omega)) (.tl t xs) (by simp) rfl w F _ (hrd 0 _ _ (by simp) (by simp))
    cases xs with
    | cons y r0 =>
      refine h1 w F O s args [.tl t (y :: r0)] s' r hsig hG hF (by simpa using hal) ?_ ?_
      · grind
      · have hde : decNE t [.tl t (y :: r0)] = some (y, r0) := by
          unfold decNE
          rw [show decS [.sl t] [.tl t (y :: r0)] = some (y :: r0, ()) from decS_enc [.sl t] (y :: r0, ())]
        grind [callS, specG]
    | nil =>
      obtain ⟨a, c, ha⟩ := rd_empty hv
      have hres : some (s', r) = some (s, (RTy.o t).res []) := by
        have : (app bytes ([] : List t.El) []) = some [] ∨ app bytes ([] : List t.El) [] = none := by
          unfold app; grind
        grind
      simp at hres
      obtain ⟨rfl, rfl⟩ := hres
      have go : ∀ v, args[0] = v → FnOk unitSig P G f (callS (specG (decEx v) (.o t) (fun _ => some []))) → Calls P f args w fun e w' => ∃ (v : Value) (F' : Blk → Prop) (O' : Nat → Prop), e = .returned v ∧ unitSig.R s' F' O' w' ∧ Keep O w w' ∧
          (∀ b, O' b → O b ∨ w.heap.size ≤ b) ∧ GrowW (unitSig.wk ∧ ((RTy.o t).res []).isH) w.heap.size F F' ∧ (∀ b : Nat, F' b → (F b ∨ w.heap.size ≤ b) ∧ b < w'.heap.size ∧ ¬ O' b) ∧ RetRel w.heap.size w' F' O' v ((RTy.o t).res []) := by
        intro v hv0 h
        refine h w F O s' args [.val v] s' _ hsig hG hF (by simpa using hal) ?_ ?_
        · intro i u d hi hd
          match i with
          | 0 =>
            cases hd
            have : u = args[0] := by
              grind
            rw [this, hv0]; exact .val _
          | i + 1 => simp at hd
        · have hde : decEx v [.val v] = some () := by unfold decEx; rw [if_pos rfl]
          grind [callS, specG]
      cases a with
      | none => grind
      | some a => grind

end Go.Ve

namespace Go.Ve
open Go

def decL {α : Type} (f : List V → Option (α × List V)) : List V → Option (List α)
  | [] => some []
  | e :: r => match f e.cells with
    | some (x, []) => match decL f r with
      | some xs => some (x :: xs)
      | none => none
    | _ => none

/-- A typed datum, taken off the head of these cells; lists without types are looked into. -/
def Ty.unc : (t : Ty) → List V → Option (t.El × List V)
  | .pair a b, cs => match a.unc cs with
    | some (x, r) => match b.unc r with
      | some (y, r) => some ((x, y), r)
      | none => none
    | none => none
  | .sl t, cs => match cs with
    | .sl es :: r => match decL t.unc es with
      | some xs => some (xs, r)
      | none => none
    | cs => takeSl t cs
  | .int k, cs => takeInt k cs
  | .bool, cs => takeBool cs
  | .str, cs => takeStr cs
  | .unit, cs => some ((), cs)
  | .rf, cs => takeRf cs
  | .hd, cs => takeHd cs
  | .pt t, cs => takePt t cs

theorem decL_get {α : Type} {f : List V → Option (α × List V)} : ∀ {es : List V} {xs : List α}, decL f es = some xs → es.length = xs.length ∧ ∀ (i : Nat) (x : α), xs[i]? = some x → ∃ e, es[i]? = some e ∧ f e.cells = some (x, [])
  | [], xs, h => by simp only [decL, Option.some.injEq] at h; grind
  | e :: r, xs, h => by
    simp only [decL] at h
    split at h
    · rename_i x hx
      split at h
      · rename_i xs' hxs
        cases h
        obtain ⟨h1, h2⟩ := decL_get hxs
        grind
      · cases h
    · cases h

theorem wk_list {t : Ty} {es : List V} {xs : List t.El} (hl : es.length = xs.length) (h : ∀ (i : Nat) (e : V) (x : t.El), es[i]? = some e → xs[i]? = some x → WkVs e.cells (t.cells x)) : WkV (.sl es) (.tl t xs) := by
  intro w F v hr
  refine .tl t xs v ?_
  cases hr with
  | slemp a cap =>
    have : xs = [] := List.eq_nil_of_length_eq_zero hl.symm
    subst this
    exact .slemp a cap
  | sl b off cap k _ g hFb hcap hk hg hr =>
    have hel : es.length = (xs.map t.enc).length := by simpa using hl
    rw [hel] at hg hcap ⊢
    refine .sl b off cap k _ g hFb hcap ?_ hg ?_
    · intro e he
      simp at he
      obtain ⟨x, hx, rfl⟩ := he
      obtain ⟨j, hj⟩ := List.getElem?_of_mem hx
      have hjl : j < es.length := by grind
      have h1 := (h j es[j] x (by simp [hjl]) hj).len
      grind [enc_cells, List.getElem_mem]
    · intro i j e d hi hj
      simp at hi
      obtain ⟨x, hx, rfl⟩ := hi
      rw [enc_cells] at hj
      have hil : i < es.length := by grind
      have h1 := h i es[i] x (by simp [hil]) hx
      have hjl : j < (es[i]).cells.length := by rw [h1.len]; grind
      exact h1.get j _ d (List.getElem?_eq_getElem hjl) hj w F _ (hr i j es[i] _ (by simp [hil]) (List.getElem?_eq_getElem hjl))

theorem unc_sound : ∀ (t : Ty) (cs : List V) (x : t.El) (r : List V), t.unc cs = some (x, r) → ∃ cs1, cs = cs1 ++ r ∧ WkVs cs1 (t.cells x) := by
  intro t
  induction t with
  | int k => exact fun cs x r h => uncells_sound (.int k) cs x r h
  | bool => exact fun cs x r h => uncells_sound .bool cs x r h
  | str => exact fun cs x r h => uncells_sound .str cs x r h
  | unit => exact fun cs x r h => uncells_sound .unit cs x r h
  | rf => exact fun cs x r h => uncells_sound .rf cs x r h
  | hd => exact fun cs x r h => uncells_sound .hd cs x r h
  | pt t _ => exact fun cs x r h => uncells_sound (.pt t) cs x r h
  | pair a b iha ihb =>
    intro cs x r h
    simp only [Ty.unc] at h
    split at h
    · rename_i xa r1 h1
      split at h
      · rename_i xb r2 h2
        simp at h
        obtain ⟨rfl, rfl⟩ := h
        obtain ⟨c1, rfl, k1⟩ := iha cs xa r1 h1
        obtain ⟨c2, rfl, k2⟩ := ihb r1 xb r2 h2
        exact ⟨c1 ++ c2, by grind, k1.append k2⟩
      · cases h
    · cases h
  | sl t ih =>
    intro cs x r h
    simp only [Ty.unc] at h
    split at h
    · rename_i es r'
      split at h
      · rename_i xs hxs
        simp at h
        obtain ⟨rfl, rfl⟩ := h
        obtain ⟨h1, h2⟩ := decL_get hxs
        refine ⟨[.sl es], rfl, wk_list h1 ?_, trivial⟩
        grind
      · cases h
    · exact uncells_sound (.sl t) _ x r h

def Ty.decW (t : Ty) (d : V) : Option t.El :=
  match t with
  | .pair a b => match d with
    | .agg cs => match (Ty.pair a b).unc cs with
      | some (x, []) => some x
      | _ => none
    | _ => none
  | .unit => none
  | .sl t => match (Ty.sl t).unc [d] with
    | some (x, []) => some x
    | _ => none
  | .int k => (Ty.int k).dec d
  | .bool => Ty.bool.dec d
  | .str => Ty.str.dec d
  | .rf => Ty.rf.dec d
  | .hd => Ty.hd.dec d
  | .pt t => (Ty.pt t).dec d

theorem decW_sound {t : Ty} {d : V} {x : t.El} (h : t.decW d = some x) : WkV d (t.enc x) := by
  cases t with
  | pair a b =>
    simp only [Ty.decW] at h
    split at h
    · rename_i cs
      split at h
      · rename_i x' hx
        simp at h
        subst h
        obtain ⟨c1, h1, h2⟩ := unc_sound (.pair a b) cs x' [] hx
        simp at h1
        subst h1
        exact WkV.agg h2
      · cases h
    · cases h
  | unit => simp [Ty.decW] at h
  | sl t =>
    simp only [Ty.decW] at h
    split at h
    · rename_i x' hx
      simp at h
      subst h
      obtain ⟨c1, h1, h2⟩ := unc_sound (.sl t) [d] x' [] hx
      rw [List.append_nil] at h1
      subst h1
      exact h2.1
    · cases h
  | int k => exact dec_sound h
  | bool => exact dec_sound h
  | str => exact dec_sound h
  | rf => exact dec_sound h
  | hd => exact dec_sound h
  | pt t => exact dec_sound h

def decSW : (ts : List Ty) → List V → Option (ElS ts)
  | [], [] => some ()
  | t :: ts, d :: ds => match t.decW d with
    | some x => match decSW ts ds with
      | some xs => some (x, xs)
      | none => none
    | none => none
  | _, _ => none

theorem decSW_sound : ∀ (ts : List Ty) (ds : List V) (x : ElS ts), decSW ts ds = some x → WkVs ds (encS ts x)
  | [], [], _, _ => trivial
  | [], _ :: _, _, h => by simp [decSW] at h
  | _ :: _, [], _, h => by simp [decSW] at h
  | t :: ts, d :: ds, x, h => by
    simp only [decSW] at h
    split at h
    · rename_i y hy
      split at h
      · rename_i ys hys
        cases h
        exact ⟨decW_sound hy, decSW_sound ts ds ys hys⟩
      · cases h
    · cases h

/-- A contract over typed data, taken of data without types. -/
theorem fnOk_wide {Γ : Sig} {P : Program} {G : Nat → Option (List V)} {f : FuncId} {ts : List Ty} {R : RTy} {g : ElS ts → Option R.El} (h : FnOk Γ P G f (callS (specX ts R g))) : FnOk Γ P G f (callS (specG (decSW ts) R g)) := by
  intro w F O s args ds s' r hsig hG hF hlen hrd hspec
  simp [callS, specG] at hspec
  cases hx : decSW ts ds with
  | none => grind
  | some x =>
    rw [hx] at hspec
    have hwk := decSW_sound ts ds x hx
    refine h w F O s args (encS ts x) s' r hsig hG hF (hlen.trans hwk.len) ?_ ?_
    · intro i u d hu hd
      have hlt : i < ds.length := by grind
      exact hwk.get i ds[i] d (by simp [hlt]) hd w F u (hrd i u ds[i] hu (by simp [hlt]))
    simp_all [decS_enc, callS, specX, specG]
end Go.Ve

namespace Go.Ve
open Go

def listB {α : Type} (f : α → α → Bool) : List α → List α → Bool
  | [], [] => true
  | x :: xs, y :: ys => f x y && listB f xs ys
  | _, _ => false

theorem listB_sound {α : Type} {f : α → α → Bool} (hf : ∀ x y, f x y = true → x = y) : ∀ {xs ys : List α}, listB f xs ys = true → xs = ys
  | [], [], _ => rfl
  | x :: xs, y :: ys, h => by
    simp [listB] at h
    rw [hf x y h.1, listB_sound hf h.2]
  | [], _ :: _, h => by cases h
  | _ :: _, [], h => by cases h

/-- Typed data compared. -/
def Ty.eqb : (t : Ty) → t.El → t.El → Bool
  | .int _, a, b => decide (a = b)
  | .bool, a, b => match a, b with
    | true, true => true
    | false, false => true
    | _, _ => false
  | .str, a, b => listB (fun (x y : UInt8) => Nat.beq x.toNat y.toNat) a.data.toList b.data.toList
  | .unit, _, _ => true
  | .pair s t, a, b => s.eqb a.1 b.1 && t.eqb a.2 b.2
  | .sl t, a, b => listB t.eqb a b
  | .rf, _, _ => false
  | .hd, _, _ => false
  | .pt _, _, _ => false

theorem eqb_sound : ∀ (t : Ty) (a b : t.El), t.eqb a b = true → a = b := by
  intro t
  induction t with
  | int k => exact fun a b h => of_decide_eq_true h
  | bool =>
    intro a b h
    cases a <;> cases b <;> first | rfl | cases h
  | str =>
    intro a b h
    have h := listB_sound (fun (x y : UInt8) h => UInt8.toNat_inj.1 (Nat.eq_of_beq_eq_true h)) h
    cases a; simp_all
  | unit => grind
  | pair s t ihs iht =>
    intro a b h
    simp [Ty.eqb] at h
    grind
  | sl t ih => exact fun a b h => listB_sound ih h
  | rf => exact fun _ _ h => by cases h
  | hd => exact fun _ _ h => by cases h
  | pt t _ => exact fun _ _ h => by cases h

def eqS : (ts : List Ty) → ElS ts → ElS ts → Bool
  | [], _, _ => true
  | t :: ts, a, b => t.eqb a.1 b.1 && eqS ts a.2 b.2

theorem eqS_sound : ∀ (ts : List Ty) (a b : ElS ts), eqS ts a b = true → a = b
  | [], _, _, _ => rfl
  | t :: ts, a, b, h => by
    simp [eqS] at h
    exact Prod.ext (eqb_sound t _ _ h.1) (eqS_sound ts _ _ h.2)

/-- A function at one point. -/
def atP (ts : List Ty) {α : Type} (x0 : ElS ts) (y0 : α) (f : ElS ts → Option α) : ElS ts → Option α := fun x => bif eqS ts x x0 then some y0 else f x

def noF {X α : Type} : X → Option α := fun _ => none

theorem fnOk_at {Γ : Sig} {P : Program} {G : Nat → Option (List V)} {f : FuncId} {ts : List Ty} {R : RTy} {g h : ElS ts → Option R.El} (hg : FnOk Γ P G f (callS (specX ts R g))) (hh : ∀ x y, h x = some y → g x = some y) :
    FnOk Γ P G f (callS (specG (decSW ts) R h)) := by
  refine fnOk_wkS (fnOk_wide hg) ?_
  grind [Option.map_eq_some_iff, callS, specG, decSW]

theorem at_point {ts : List Ty} {α : Type} {x0 : ElS ts} {y0 : α} {f g : ElS ts → Option α} (h0 : g x0 = some y0) (hf : ∀ x y, f x = some y → g x = some y) : ∀ x y, atP ts x0 y0 f x = some y → g x = some y := by
  grind [eqS_sound, atP, eqS]

theorem at_none {X α : Type} {g : X → Option α} : ∀ x y, noF (X := X) (α := α) x = some y → g x = some y := fun _ _ h => by cases h
end Go.Ve

namespace Go.Ve
open Go

/-- What is computed once. -/
abbrev Once := Int → List tEdge.El → Int → Option (List (List tHop.El))

section
variable {H : Once} {P : Program} {G : Nat → Option (List V)} {f : FuncId}

end

/-! ## Contracts that know no state, over any state -/

theorem decB_S {ts : List Ty} (hn : ts.all Ty.norf = true) : DecB (decS ts) := by
  intro ds x hx
  have hwk := decS_sound ts ds x hx
  refine ⟨encS ts x, decS_enc ts x, hwk.len.symm, fun w F F' hF i v d d' hd hd' hr => ?_⟩
  exact encS_norf hF ts x hn i v d' hd' (hwk.get i d d' hd hd' w F v hr)

end Go.Ve

namespace Go.Ve
open Go
set_option maxRecDepth 1000000
set_option maxHeartbeats 4000000

/-- A partial value that is computed, and is the other one where it is there. -/
class Cmp {α : Type} (b : Option α) where
  c : Option α
  le : ∀ r, c = some r → b = some r

section
variable {α β σ ρ : Type}

@[reducible, instance 1] def Cmp.self (b : Option α) : Cmp b := ⟨b, fun _ h => h⟩

@[reducible, instance] def Cmp.bnd {m : Option α} {f : α → Option β} [h : Cmp m] [k : ∀ y, Cmp (f y)] : Cmp (Option.bind m f) :=
  ⟨match h.c with
    | some y => (k y).c
    | none => none, fun r hr => by
    grind [le]⟩

@[reducible, instance] def Cmp.cnd {x y : Option α} (b : Bool) [h : Cmp x] [k : Cmp y] : Cmp (bif b then x else y) :=
  ⟨match b with
    | true => h.c
    | false => k.c, fun r hr => by
    cases b with
    | true => exact h.le r hr
    | false => exact k.le r hr⟩

@[reducible, instance] def Cmp.map {m : Option α} (f : α → β) [h : Cmp m] : Cmp (Option.map f m) :=
  ⟨h.c.map f, fun r hr => by
    cases hc : h.c with
    | none => grind
    | some y => rw [hc] at hr; rw [h.le y hc]; exact hr⟩

theorem iterX_le {f g : σ → Option (σ ⊕ ρ)} (h : ∀ s r, f s = some r → g s = some r) : ∀ (n : Nat) (s : σ) (r : ρ), iterX f n s = some r → iterX g n s = some r
  | 0, _, _, hr => by cases hr
  | n + 1, s, r, hr => by
    unfold iterX at hr ⊢
    cases hf : f s with
    | none => grind
    | some o =>
      rw [hf] at hr
      rw [h s o hf]
      cases o with
      | inl s' => exact iterX_le h n s' r hr
      | inr r' => exact hr

@[reducible, instance] def Cmp.lp {f : σ → Option (σ ⊕ ρ)} [h : ∀ s, Cmp (f s)] (s : σ) : Cmp (loopX f s) :=
  ⟨iterX (fun s => (h s).c) 12 s, fun r hr => loopX_iff.2 ⟨12, iterX_le (fun s r => (h s).le r) 12 s r hr⟩⟩

@[reducible, instance] def Cmp.ct {m : Option (σ ⊕ ρ)} {K : σ → Option ρ} [h : Cmp m] [k : ∀ s, Cmp (K s)] : Cmp (cut2 m K) :=
  ⟨match h.c with
    | some (.inl s) => (k s).c
    | some (.inr r) => some r
    | none => none, fun r hr => by
    cases hc : h.c with
    | none => grind
    | some o =>
      rw [hc] at hr
      rw [h.le o hc]
      cases o with
      | inl s => exact (k s).le r hr
      | inr r' => exact hr⟩

end
end Go.Ve
