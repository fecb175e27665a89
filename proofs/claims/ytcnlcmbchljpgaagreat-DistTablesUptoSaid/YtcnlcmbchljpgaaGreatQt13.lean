/-
  Plain laws: the checks of a network always answer.
  Plain laws: the topology of a network is built, and what it is made of.
  Plain laws: the topology of a network is built: the walk.
  Plain laws: views.
  Plain laws: the checks of routes and tables always answer.
  Plain laws: equal routes; static routes that are active.
  Plain laws: interfaces that are up.
  Plain laws: masks, networks, and what prefixes contain.
  Plain laws: what the checks of a network say of its interfaces and static routes.
  Plain laws: what the checks of a network say.
  Plain laws: prefixes in order; the sorting of routes; connected routes.
-/
import Derived.Test.YtcnlcmbchljpgaaGreatQt12
import Derived.Test.YtcnlcmbchljpgaaGreatQt10
set_option linter.unusedVariables false
namespace Go.Ve
open Go
set_option maxRecDepth 1000000
set_option maxHeartbeats 4000000
theorem jH {α : Type} {xs : List α} {i : Int} {y : α} (h : xs[i.toNat]? = some y) (h0 : 0 ≤ i := by omega) : idx xs i = some y := by
 rw [idx, if_pos h0]; exact h
theorem qC {α : Type} {xs : List α} {i : Int} {Q : α → Prop} {B : α → Prop} (hB : ∀ y, y ∈ xs → B y) (h0 : 0 ≤ i) (h1 : i < xs.length) (h : ∀ y, xs[i.toNat]? = some y → B y → Q y) : Wp (idx xs i) Q :=
 j3 h0 h1 (fun y hm hy => h y hy (hB y hm))
structure SmR (r : Ty.El zH) : Prop where
 i1 : List.length r.2.2.1 ≤ 20
 i2 : List.length r.2.2.2.1 ≤ 20
 i3 : List.length r.2.2.2.2.1 ≤ 20
 i4 : List.length r.2.2.2.2.2.1 ≤ 20
 i5 : List.length r.2.2.2.2.2.2.1 ≤ 20
 i6 : List.length r.2.2.2.2.2.2.2.1 ≤ 20
 i7 : List.length r.2.2.2.2.2.2.2.2.1.2.2.1 ≤ 20
 i8 : List.length r.2.2.2.2.2.2.2.2.1.2.2.2.1 ≤ 20
 i9 : List.length r.2.2.2.2.2.2.2.2.2.1.2.2.2.2.1 ≤ 20
 i10 : List.length r.2.2.2.2.2.2.2.2.2.2.1.2.2.2.1 ≤ 20
 i11 : List.length r.2.2.2.2.2.2.2.2.2.2.1.2.2.2.2.1 ≤ 20
 i12 : List.length r.2.2.2.2.2.2.2.2.2.2.1.2.2.2.2.2.1 ≤ 20
 i13 : List.length r.2.2.2.2.2.2.2.2.2.2.1.2.2.2.2.2.2.1 ≤ 20
 i14 : List.length r.2.2.2.2.2.2.2.2.2.2.1.2.2.2.2.2.2.2.1 ≤ 20
 n1 : ∀ y, y ∈ r.2.2.2.1 → List.length y.2.1 ≤ 20
 n2 : ∀ y, y ∈ r.2.2.2.2.1 → List.length y.2.1 ≤ 20
 n3 : ∀ y, y ∈ r.2.2.2.2.2.1 → List.length y.2.1 ≤ 20
structure zZv (r : Ty.El tPV) : Prop where
 i10 : List.length r.2.2.2.1 ≤ 20
 i11 : List.length r.2.2.2.2.1 ≤ 20
 i12 : List.length r.2.2.2.2.2.1 ≤ 20
 i13 : List.length r.2.2.2.2.2.2.1 ≤ 20
 i14 : List.length r.2.2.2.2.2.2.2.1 ≤ 20
theorem zDy (a1 : Int) : Wp (zAF (a1, ())) (fun _ => True) := by
 unfold zAF
 refine zC ?_
 refine zW9 (fun _ _ => True) trivial (fun s g h1 h2 _ => ?_) (fun s g _ _ _ => zB (e2r (zB trivial)))
 refine zC ?_
 refine zI (fun _ => ?_) (fun _ => ?_)
 ·refine zI (fun _ => ?_) (fun hn => ?_)
  ·exact zB (zB (e2l ⟨zD (by simp only; omega) (by simp only; omega), trivial⟩))
  ·exfalso
   apply hn
   simp only
   rw [zD (by omega) (by omega), zIA (by omega) (by omega)]
   omega
 ·exact zB (zB (e2l ⟨zD (by simp only; omega) (by simp only; omega), trivial⟩))
theorem zLz (a1 : Ty.El (.int .u8))  : Wp (zBP (a1, ())) (fun _ => True) := by
 unfold zBP
 try dsimp only
 repeat' (first
  | with_reducible exact trivial
  | assumption
  | contradiction
  | with_reducible first | refine zB ?_ | refine zI (fun _ => ?_) (fun _ => ?_) | refine zG (fun _ => ?_) (fun _ => ?_) | refine zC ?_
  | omega)
theorem kB (a1 : Ty.El (.str))  : Wp (zAE (a1, ())) (fun _ => True) := by
 unfold zAE
 try dsimp only
 repeat' (first
  | with_reducible exact trivial
  | assumption
  | contradiction
  | with_reducible first | refine zB ?_ | refine (zLz _).mono (fun r _ => ?_) | refine yD ?_ ?_ (fun y _ _ => ?_) | refine jN (fun _ => ?_) (fun _ => ?_) | refine zI (fun _ => ?_) (fun _ => ?_) | refine zG (fun _ => ?_) (fun _ => ?_) | refine qJ ?_ | refine wA (fun s _ _ => ?_) (fun s _ _ => ?_) | refine zC ?_ | refine e2l ?_ | refine e2r ?_
  | exact zD (by omega) (by omega)
  | omega
  | (simp only [List.length_cons, List.length_nil] at *; exact zD (by omega) (by omega)))
theorem qY (a1 : Ty.El (tI)) (a2 : Ty.El (tI)) (a3 : Ty.El (tI))  : Wp (zV (a1, a2, a3, ())) (fun _ => True) := by
 unfold zV
 try dsimp only
 repeat' (first
  | with_reducible exact trivial
  | assumption
  | contradiction
  | with_reducible first | refine zB ?_ | refine zI (fun _ => ?_) (fun _ => ?_) | refine zG (fun _ => ?_) (fun _ => ?_) | refine zC ?_
  | omega)
theorem zDK (a1 : Ty.El (tU)) (a2 : Ty.El (tI))  : Wp (j5 (a1, a2, ())) (fun _ => True) := by
 unfold j5
 try dsimp only
 repeat' (first
  | with_reducible exact trivial
  | assumption
  | contradiction
  | with_reducible first | refine zB ?_ | refine (zDy _).mono (fun r _ => ?_) | refine zC ?_
  | exact zD (by omega) (by omega)
  | omega
  | (simp only [List.length_cons, List.length_nil] at *; exact zD (by omega) (by omega)))
theorem zIF (a1 : Ty.El (zF)) (a2 : Ty.El (tU))  : Wp (yE (a1, a2, ())) (fun _ => True) := by
 unfold yE
 try dsimp only
 repeat' (first
  | with_reducible exact trivial
  | assumption
  | contradiction
  | with_reducible first | refine zB ?_ | refine (zDy _).mono (fun r _ => ?_) | refine zC ?_
  | exact zD (by omega) (by omega)
  | omega
  | (simp only [List.length_cons, List.length_nil] at *; exact zD (by omega) (by omega)))
theorem zLA (a1 : Ty.El (zF)) (a2 : Ty.El (zF))  : Wp (vZ (a1, a2, ())) (fun _ => True) := by
 unfold vZ
 try dsimp only
 repeat' (first
  | with_reducible exact trivial
  | assumption
  | contradiction
  | with_reducible first | refine zB ?_ | refine (zIF _ _).mono (fun r _ => ?_) | refine zI (fun _ => ?_) (fun _ => ?_) | refine zG (fun _ => ?_) (fun _ => ?_) | refine zC ?_
  | omega)
theorem zDc (a1 : Ty.El (zF)) (a2 : Ty.El (zF))  : Wp (kE (a1, a2, ())) (fun _ => True) := by
 unfold kE
 try dsimp only
 repeat' (first
  | with_reducible exact trivial
  | assumption
  | contradiction
  | with_reducible first | refine zB ?_ | refine (zLA _ _).mono (fun r _ => ?_) | refine zG (fun _ => ?_) (fun _ => ?_) | refine zC ?_
  | omega)
theorem zGU (a1 : Ty.El (.sl qA)) (h0 : List.length a1 ≤ 20) : Wp (vT (a1, ())) (fun _ => True) := by
 unfold vT
 try dsimp only
 repeat' (first
  | with_reducible exact trivial
  | assumption
  | contradiction
  | with_reducible first | refine zB ?_ | refine (kB _).mono (fun r _ => ?_) | refine (qY _ _ _).mono (fun r _ => ?_) | refine (zDK _ _).mono (fun r _ => ?_) | refine (zDc _ _).mono (fun r _ => ?_) | refine j3 ?_ ?_ (fun y _ _ => ?_) | refine jN (fun _ => ?_) (fun _ => ?_) | refine zI (fun _ => ?_) (fun _ => ?_) | refine zG (fun _ => ?_) (fun _ => ?_) | refine qJ ?_ | refine wA (fun s _ _ => ?_) (fun s _ _ => ?_)
  | simp only [jH ‹_[_]? = some _›, Option.bind_some]
  | with_reducible first | refine zC ?_ | refine e2l ?_ | refine e2r ?_
  | exact zD (by omega) (by omega)
  | omega
  | (simp only [List.length_cons, List.length_nil] at *; exact zD (by omega) (by omega)))
theorem yQ (a1 : Ty.El (zF))  : Wp (wF (a1, ())) (fun _ => True) := by
 unfold wF
 try dsimp only
 repeat' (first
  | with_reducible exact trivial
  | assumption
  | contradiction
  | with_reducible first | refine zB ?_ | refine (zDy _).mono (fun r _ => ?_) | refine zI (fun _ => ?_) (fun _ => ?_) | refine zG (fun _ => ?_) (fun _ => ?_) | refine zC ?_
  | exact zD (by omega) (by omega)
  | omega
  | (simp only [List.length_cons, List.length_nil] at *; exact zD (by omega) (by omega)))
theorem zDx (a1 : Ty.El (yF))  : Wp (vY (a1, ())) (fun _ => True) := by
 unfold vY
 try dsimp only
 repeat' (first
  | with_reducible exact trivial
  | assumption
  | contradiction
  | with_reducible first | refine zB ?_ | refine (yQ _).mono (fun r _ => ?_) | refine zI (fun _ => ?_) (fun _ => ?_) | refine zG (fun _ => ?_) (fun _ => ?_) | refine zC ?_
  | omega)
theorem zBM (a1 : Ty.El (.sl jJ)) (h0 : List.length a1 ≤ 20) (h1 : ∀ y, y ∈ a1 → List.length y.2.1 ≤ 20) : Wp (uA (a1, ())) (fun _ => True) := by
 unfold uA
 try dsimp only
 repeat' (first
  | with_reducible exact trivial
  | assumption
  | contradiction
  | with_reducible first | refine zB ?_ | refine (kB _).mono (fun r _ => ?_) | refine (zDx _).mono (fun r _ => ?_) | refine qC h1 ?_ ?_ (fun y _ _ => ?_) | refine j3 ?_ ?_ (fun y _ _ => ?_) | refine jN (fun _ => ?_) (fun _ => ?_) | refine zI (fun _ => ?_) (fun _ => ?_) | refine zG (fun _ => ?_) (fun _ => ?_) | refine qJ ?_ | refine wA (fun s _ _ => ?_) (fun s _ _ => ?_)
  | simp only [jH ‹_[_]? = some _›, Option.bind_some]
  | with_reducible first | refine zC ?_ | refine e2l ?_ | refine e2r ?_
  | exact zD (by omega) (by omega)
  | omega
  | (simp only [List.length_cons, List.length_nil] at *; exact zD (by omega) (by omega)))
theorem zB7 (a1 : Ty.El (zH)) (a2 : Ty.El (.str)) (h0 : SmR a1) : Wp (jI (a1, a2, ())) (fun (r : Int) => -1 ≤ r ∧ r < (List.length a1.2.2.2.1 : Int)) := by
 have hh0 := h0
 obtain ⟨i1, i2, i3, i4, i5, i6, i7, i8, i9, i10, i11, i12, i13, i14, n1, n2, n3⟩ := hh0
 unfold jI
 try dsimp only
 repeat' (first
  | with_reducible exact trivial
  | exact ⟨i10, i11, i12, i13, i14⟩
  | assumption
  | contradiction
  | with_reducible first | refine zB ?_ | refine qC n1 ?_ ?_ (fun y _ _ => ?_) | refine qC n2 ?_ ?_ (fun y _ _ => ?_) | refine qC n3 ?_ ?_ (fun y _ _ => ?_) | refine j3 ?_ ?_ (fun y _ _ => ?_) | refine zI (fun _ => ?_) (fun _ => ?_) | refine zG (fun _ => ?_) (fun _ => ?_) | refine qJ ?_ | refine wA (fun s _ _ => ?_) (fun s _ _ => ?_)
  | simp only [jH ‹_[_]? = some _›, Option.bind_some]
  | with_reducible first | refine zC ?_ | refine e2l ?_ | refine e2r ?_
  | exact zD (by omega) (by omega)
  | omega
  | (simp only [List.length_cons, List.length_nil] at *; exact zD (by omega) (by omega))
  | exact ⟨by omega, by omega⟩)
theorem zCv (a1 : Ty.El (zH)) (h0 : SmR a1) : Wp (yR (a1, ())) (fun _ => True) := by
 have hh0 := h0
 obtain ⟨i1, i2, i3, i4, i5, i6, i7, i8, i9, i10, i11, i12, i13, i14, n1, n2, n3⟩ := hh0
 unfold yR
 try dsimp only
 repeat' (first
  | with_reducible exact trivial
  | exact ⟨i10, i11, i12, i13, i14⟩
  | assumption
  | contradiction
  | with_reducible first | refine zB ?_ | refine (kB _).mono (fun r _ => ?_) | refine (zB7 _ _ ?_).mono (fun r _ => ?_) | refine (qY _ _ _).mono (fun r _ => ?_) | refine qC n1 ?_ ?_ (fun y _ _ => ?_) | refine qC n2 ?_ ?_ (fun y _ _ => ?_) | refine qC n3 ?_ ?_ (fun y _ _ => ?_) | refine j3 ?_ ?_ (fun y _ _ => ?_) | refine jN (fun _ => ?_) (fun _ => ?_) | refine zI (fun _ => ?_) (fun _ => ?_) | refine zG (fun _ => ?_) (fun _ => ?_) | refine qJ ?_ | refine wA (fun s _ _ => ?_) (fun s _ _ => ?_)
  | simp only [jH ‹_[_]? = some _›, Option.bind_some]
  | with_reducible first | refine zC ?_ | refine e2l ?_ | refine e2r ?_
  | exact zD (by omega) (by omega)
  | omega
  | (simp only [List.length_cons, List.length_nil] at *; exact zD (by omega) (by omega)))
theorem zMv (a1 : Ty.El (zK))  : Wp (zCG (a1, ())) (fun _ => True) := by
 unfold zCG
 try dsimp only
 repeat' (first
  | with_reducible exact trivial
  | assumption
  | contradiction
  | with_reducible first | refine zB ?_ | refine zI (fun _ => ?_) (fun _ => ?_) | refine zG (fun _ => ?_) (fun _ => ?_) | refine zC ?_
  | omega)
theorem zPG (a1 : Ty.El (zK))  : Wp (zFV (a1, ())) (fun _ => True) := by
 unfold zFV
 try dsimp only
 repeat' (first
  | with_reducible exact trivial
  | assumption
  | contradiction
  | with_reducible refine zB ?_
  | omega)
theorem zHK (a1 : Ty.El (zQW))  : Wp (zA3 (a1, ())) (fun _ => True) := by
 unfold zA3
 try dsimp only
 repeat' (first
  | with_reducible exact trivial
  | assumption
  | contradiction
  | with_reducible first | refine zB ?_ | refine (qY _ _ _).mono (fun r _ => ?_) | refine (zMv _).mono (fun r _ => ?_) | refine (zPG _).mono (fun r _ => ?_) | refine jN (fun _ => ?_) (fun _ => ?_) | refine zG (fun _ => ?_) (fun _ => ?_) | refine zC ?_
  | exact zD (by omega) (by omega)
  | omega
  | (simp only [List.length_cons, List.length_nil] at *; exact zD (by omega) (by omega)))
theorem zBN (a1 : Ty.El (.sl zKa)) (h0 : List.length a1 ≤ 20) (h1 : ∀ y, y ∈ a1 → List.length y.2.1 ≤ 20) : Wp (uB (a1, ())) (fun _ => True) := by
 unfold uB
 try dsimp only
 repeat' (first
  | with_reducible exact trivial
  | assumption
  | contradiction
  | with_reducible first | refine zB ?_ | refine (kB _).mono (fun r _ => ?_) | refine (zHK _).mono (fun r _ => ?_) | refine qC h1 ?_ ?_ (fun y _ _ => ?_) | refine j3 ?_ ?_ (fun y _ _ => ?_) | refine jN (fun _ => ?_) (fun _ => ?_) | refine zI (fun _ => ?_) (fun _ => ?_) | refine zG (fun _ => ?_) (fun _ => ?_) | refine qJ ?_ | refine wA (fun s _ _ => ?_) (fun s _ _ => ?_)
  | simp only [jH ‹_[_]? = some _›, Option.bind_some]
  | with_reducible first | refine zC ?_ | refine e2l ?_ | refine e2r ?_
  | exact zD (by omega) (by omega)
  | omega
  | (simp only [List.length_cons, List.length_nil] at *; exact zD (by omega) (by omega)))
theorem zIE (a1 : Ty.El (zH)) (a2 : Ty.El (.str)) (h0 : SmR a1) : Wp (zCH (a1, a2, ())) (fun (r : Int) => -1 ≤ r ∧ r < (List.length a1.2.2.2.2.2.1 : Int)) := by
 have hh0 := h0
 obtain ⟨i1, i2, i3, i4, i5, i6, i7, i8, i9, i10, i11, i12, i13, i14, n1, n2, n3⟩ := hh0
 unfold zCH
 try dsimp only
 repeat' (first
  | with_reducible exact trivial
  | exact ⟨i10, i11, i12, i13, i14⟩
  | assumption
  | contradiction
  | with_reducible first | refine zB ?_ | refine qC n1 ?_ ?_ (fun y _ _ => ?_) | refine qC n2 ?_ ?_ (fun y _ _ => ?_) | refine qC n3 ?_ ?_ (fun y _ _ => ?_) | refine j3 ?_ ?_ (fun y _ _ => ?_) | refine zI (fun _ => ?_) (fun _ => ?_) | refine zG (fun _ => ?_) (fun _ => ?_) | refine qJ ?_ | refine wA (fun s _ _ => ?_) (fun s _ _ => ?_)
  | simp only [jH ‹_[_]? = some _›, Option.bind_some]
  | with_reducible first | refine zC ?_ | refine e2l ?_ | refine e2r ?_
  | exact zD (by omega) (by omega)
  | omega
  | (simp only [List.length_cons, List.length_nil] at *; exact zD (by omega) (by omega))
  | exact ⟨by omega, by omega⟩)
theorem zBp (a1 : Ty.El (zH)) (h0 : SmR a1) : Wp (vX (a1, ())) (fun _ => True) := by
 have hh0 := h0
 obtain ⟨i1, i2, i3, i4, i5, i6, i7, i8, i9, i10, i11, i12, i13, i14, n1, n2, n3⟩ := hh0
 unfold vX
 try dsimp only
 repeat' (first
  | with_reducible exact trivial
  | exact ⟨i10, i11, i12, i13, i14⟩
  | assumption
  | contradiction
  | with_reducible first | refine zB ?_ | refine (qY _ _ _).mono (fun r _ => ?_) | refine (zIE _ _ ?_).mono (fun r _ => ?_) | refine qC n1 ?_ ?_ (fun y _ _ => ?_) | refine qC n2 ?_ ?_ (fun y _ _ => ?_) | refine qC n3 ?_ ?_ (fun y _ _ => ?_) | refine j3 ?_ ?_ (fun y _ _ => ?_) | refine jN (fun _ => ?_) (fun _ => ?_) | refine zI (fun _ => ?_) (fun _ => ?_) | refine zG (fun _ => ?_) (fun _ => ?_) | refine qJ ?_ | refine wA (fun s _ _ => ?_) (fun s _ _ => ?_)
  | simp only [jH ‹_[_]? = some _›, Option.bind_some]
  | with_reducible first | refine zC ?_ | refine e2l ?_ | refine e2r ?_
  | exact zD (by omega) (by omega)
  | omega
  | (simp only [List.length_cons, List.length_nil] at *; exact zD (by omega) (by omega)))
theorem zDJ (a1 : Ty.El (zH)) (h0 : SmR a1) : Wp (zA2 (a1, ())) (fun _ => True) := by
 have hh0 := h0
 obtain ⟨i1, i2, i3, i4, i5, i6, i7, i8, i9, i10, i11, i12, i13, i14, n1, n2, n3⟩ := hh0
 unfold zA2
 try dsimp only
 repeat' (first
  | with_reducible exact trivial
  | exact ⟨i10, i11, i12, i13, i14⟩
  | assumption
  | contradiction
  | with_reducible first | refine zB ?_ | refine (zIE _ _ ?_).mono (fun r _ => ?_) | refine qC n1 ?_ ?_ (fun y _ _ => ?_) | refine qC n2 ?_ ?_ (fun y _ _ => ?_) | refine qC n3 ?_ ?_ (fun y _ _ => ?_) | refine j3 ?_ ?_ (fun y _ _ => ?_) | refine zI (fun _ => ?_) (fun _ => ?_) | refine zG (fun _ => ?_) (fun _ => ?_) | refine qJ ?_ | refine wA (fun s _ _ => ?_) (fun s _ _ => ?_)
  | simp only [jH ‹_[_]? = some _›, Option.bind_some]
  | with_reducible first | refine zC ?_ | refine e2l ?_ | refine e2r ?_
  | exact zD (by omega) (by omega)
  | omega
  | (simp only [List.length_cons, List.length_nil] at *; exact zD (by omega) (by omega)))
theorem zBv (a1 : Ty.El (zH)) (a2 : Ty.El (tU)) (h0 : SmR a1) : Wp (uZ (a1, a2, ())) (fun (r : Int) => -1 ≤ r ∧ r < (List.length a1.2.2.1 : Int)) := by
 have hh0 := h0
 obtain ⟨i1, i2, i3, i4, i5, i6, i7, i8, i9, i10, i11, i12, i13, i14, n1, n2, n3⟩ := hh0
 unfold uZ
 try dsimp only
 repeat' (first
  | with_reducible exact trivial
  | exact ⟨i10, i11, i12, i13, i14⟩
  | assumption
  | contradiction
  | with_reducible first | refine zB ?_ | refine qC n1 ?_ ?_ (fun y _ _ => ?_) | refine qC n2 ?_ ?_ (fun y _ _ => ?_) | refine qC n3 ?_ ?_ (fun y _ _ => ?_) | refine j3 ?_ ?_ (fun y _ _ => ?_) | refine zI (fun _ => ?_) (fun _ => ?_) | refine zG (fun _ => ?_) (fun _ => ?_) | refine qJ ?_ | refine wA (fun s _ _ => ?_) (fun s _ _ => ?_)
  | simp only [jH ‹_[_]? = some _›, Option.bind_some]
  | with_reducible first | refine zC ?_ | refine e2l ?_ | refine e2r ?_
  | exact zD (by omega) (by omega)
  | omega
  | (simp only [List.length_cons, List.length_nil] at *; exact zD (by omega) (by omega))
  | exact ⟨by omega, by omega⟩)
theorem zHL (a1 : Ty.El (zH)) (a2 : Ty.El (.str)) (h0 : SmR a1) : Wp (uC (a1, a2, ())) (fun (r : Int) => -1 ≤ r ∧ r < (List.length a1.2.2.1 : Int)) := by
 have hh0 := h0
 obtain ⟨i1, i2, i3, i4, i5, i6, i7, i8, i9, i10, i11, i12, i13, i14, n1, n2, n3⟩ := hh0
 unfold uC
 try dsimp only
 repeat' (first
  | with_reducible exact trivial
  | exact ⟨i10, i11, i12, i13, i14⟩
  | assumption
  | contradiction
  | with_reducible first | refine zB ?_ | refine qC n1 ?_ ?_ (fun y _ _ => ?_) | refine qC n2 ?_ ?_ (fun y _ _ => ?_) | refine qC n3 ?_ ?_ (fun y _ _ => ?_) | refine j3 ?_ ?_ (fun y _ _ => ?_) | refine zI (fun _ => ?_) (fun _ => ?_) | refine zG (fun _ => ?_) (fun _ => ?_) | refine qJ ?_ | refine wA (fun s _ _ => ?_) (fun s _ _ => ?_)
  | simp only [jH ‹_[_]? = some _›, Option.bind_some]
  | with_reducible first | refine zC ?_ | refine e2l ?_ | refine e2r ?_
  | exact zD (by omega) (by omega)
  | omega
  | (simp only [List.length_cons, List.length_nil] at *; exact zD (by omega) (by omega))
  | exact ⟨by omega, by omega⟩)
theorem zJ9 (a1 : Ty.El (zH)) (h0 : SmR a1) : Wp (xM (a1, ())) (fun _ => True) := by
 have hh0 := h0
 obtain ⟨i1, i2, i3, i4, i5, i6, i7, i8, i9, i10, i11, i12, i13, i14, n1, n2, n3⟩ := hh0
 unfold xM
 try dsimp only
 repeat' (first
  | with_reducible exact trivial
  | exact ⟨i10, i11, i12, i13, i14⟩
  | assumption
  | contradiction
  | with_reducible first | refine zB ?_ | refine (yQ _).mono (fun r _ => ?_) | refine (zBv _ _ ?_).mono (fun r _ => ?_) | refine (qY _ _ _).mono (fun r _ => ?_) | refine (zHL _ _ ?_).mono (fun r _ => ?_) | refine qC n1 ?_ ?_ (fun y _ _ => ?_) | refine qC n2 ?_ ?_ (fun y _ _ => ?_) | refine qC n3 ?_ ?_ (fun y _ _ => ?_) | refine j3 ?_ ?_ (fun y _ _ => ?_) | refine jN (fun _ => ?_) (fun _ => ?_) | refine zI (fun _ => ?_) (fun _ => ?_) | refine zG (fun _ => ?_) (fun _ => ?_) | refine qJ ?_ | refine wA (fun s _ _ => ?_) (fun s _ _ => ?_)
  | simp only [jH ‹_[_]? = some _›, Option.bind_some]
  | with_reducible first | refine zC ?_ | refine e2l ?_ | refine e2r ?_
  | exact zD (by omega) (by omega)
  | omega
  | (simp only [List.length_cons, List.length_nil] at *; exact zD (by omega) (by omega)))
theorem zDb (a1 : Ty.El (zH)) (a2 : Ty.El (.str)) (h0 : SmR a1) : Wp (kC (a1, a2, ())) (fun (r : Int) => -1 ≤ r ∧ r < (List.length a1.2.2.2.2.1 : Int)) := by
 have hh0 := h0
 obtain ⟨i1, i2, i3, i4, i5, i6, i7, i8, i9, i10, i11, i12, i13, i14, n1, n2, n3⟩ := hh0
 unfold kC
 try dsimp only
 repeat' (first
  | with_reducible exact trivial
  | exact ⟨i10, i11, i12, i13, i14⟩
  | assumption
  | contradiction
  | with_reducible first | refine zB ?_ | refine qC n1 ?_ ?_ (fun y _ _ => ?_) | refine qC n2 ?_ ?_ (fun y _ _ => ?_) | refine qC n3 ?_ ?_ (fun y _ _ => ?_) | refine j3 ?_ ?_ (fun y _ _ => ?_) | refine zI (fun _ => ?_) (fun _ => ?_) | refine zG (fun _ => ?_) (fun _ => ?_) | refine qJ ?_ | refine wA (fun s _ _ => ?_) (fun s _ _ => ?_)
  | simp only [jH ‹_[_]? = some _›, Option.bind_some]
  | with_reducible first | refine zC ?_ | refine e2l ?_ | refine e2r ?_
  | exact zD (by omega) (by omega)
  | omega
  | (simp only [List.length_cons, List.length_nil] at *; exact zD (by omega) (by omega))
  | exact ⟨by omega, by omega⟩)
theorem kA (a1 : Ty.El (zH)) (a2 : Ty.El (.sl zDd)) (a3 : Ty.El (tI)) (a4 : Ty.El (tI)) (a5 : Ty.El (tI)) (h0 : SmR a1) (h1 : List.length a2 ≤ 20) : Wp (jU (a1, a2, a3, a4, a5, ())) (fun _ => True) := by
 have hh0 := h0
 obtain ⟨i1, i2, i3, i4, i5, i6, i7, i8, i9, i10, i11, i12, i13, i14, n1, n2, n3⟩ := hh0
 unfold jU
 try dsimp only
 repeat' (first
  | with_reducible exact trivial
  | exact ⟨i10, i11, i12, i13, i14⟩
  | assumption
  | contradiction
  | with_reducible first | refine zB ?_ | refine (qY _ _ _).mono (fun r _ => ?_) | refine (zDb _ _ ?_).mono (fun r _ => ?_) | refine qC n1 ?_ ?_ (fun y _ _ => ?_) | refine qC n2 ?_ ?_ (fun y _ _ => ?_) | refine qC n3 ?_ ?_ (fun y _ _ => ?_) | refine j3 ?_ ?_ (fun y _ _ => ?_) | refine jN (fun _ => ?_) (fun _ => ?_) | refine zI (fun _ => ?_) (fun _ => ?_) | refine zG (fun _ => ?_) (fun _ => ?_) | refine qJ ?_ | refine wA (fun s _ _ => ?_) (fun s _ _ => ?_)
  | simp only [jH ‹_[_]? = some _›, Option.bind_some]
  | with_reducible first | refine zC ?_ | refine e2l ?_ | refine e2r ?_
  | exact zD (by omega) (by omega)
  | omega
  | (simp only [List.length_cons, List.length_nil] at *; exact zD (by omega) (by omega)))
theorem zCw (a1 : Ty.El (zH)) (h0 : SmR a1) : Wp (yS (a1, ())) (fun _ => True) := by
 have hh0 := h0
 obtain ⟨i1, i2, i3, i4, i5, i6, i7, i8, i9, i10, i11, i12, i13, i14, n1, n2, n3⟩ := hh0
 unfold yS
 try dsimp only
 repeat' (first
  | with_reducible exact trivial
  | exact ⟨i10, i11, i12, i13, i14⟩
  | assumption
  | contradiction
  | with_reducible first | refine zB ?_ | refine (qY _ _ _).mono (fun r _ => ?_) | refine (yQ _).mono (fun r _ => ?_) | refine (zDc _ _).mono (fun r _ => ?_) | refine (kA _ _ _ _ _ ?_ ?_).mono (fun r _ => ?_) | refine qC n1 ?_ ?_ (fun y _ _ => ?_) | refine qC n2 ?_ ?_ (fun y _ _ => ?_) | refine qC n3 ?_ ?_ (fun y _ _ => ?_) | refine j3 ?_ ?_ (fun y _ _ => ?_) | refine jN (fun _ => ?_) (fun _ => ?_) | refine zI (fun _ => ?_) (fun _ => ?_) | refine zG (fun _ => ?_) (fun _ => ?_) | refine qJ ?_ | refine wA (fun s _ _ => ?_) (fun s _ _ => ?_)
  | simp only [jH ‹_[_]? = some _›, Option.bind_some]
  | with_reducible first | refine zC ?_ | refine e2l ?_ | refine e2r ?_
  | exact zD (by omega) (by omega)
  | omega
  | (simp only [List.length_cons, List.length_nil] at *; exact zD (by omega) (by omega)))
theorem zDa (a1 : Ty.El (zH)) (h0 : SmR a1) : Wp (zAc (a1, ())) (fun _ => True) := by
 have hh0 := h0
 obtain ⟨i1, i2, i3, i4, i5, i6, i7, i8, i9, i10, i11, i12, i13, i14, n1, n2, n3⟩ := hh0
 unfold zAc
 try dsimp only
 repeat' (first
  | with_reducible exact trivial
  | exact ⟨i10, i11, i12, i13, i14⟩
  | assumption
  | contradiction
  | with_reducible first | refine zB ?_ | refine (qY _ _ _).mono (fun r _ => ?_) | refine (zB7 _ _ ?_).mono (fun r _ => ?_) | refine (kA _ _ _ _ _ ?_ ?_).mono (fun r _ => ?_) | refine jN (fun _ => ?_) (fun _ => ?_) | refine zI (fun _ => ?_) (fun _ => ?_) | refine zG (fun _ => ?_) (fun _ => ?_) | refine zC ?_
  | omega)
theorem zHJ (a1 : Ty.El (zH)) (h0 : SmR a1) : Wp (zA1 (a1, ())) (fun _ => True) := by
 have hh0 := h0
 obtain ⟨i1, i2, i3, i4, i5, i6, i7, i8, i9, i10, i11, i12, i13, i14, n1, n2, n3⟩ := hh0
 unfold zA1
 try dsimp only
 repeat' (first
  | with_reducible exact trivial
  | exact ⟨i10, i11, i12, i13, i14⟩
  | assumption
  | contradiction
  | with_reducible first | refine zB ?_ | refine (qY _ _ _).mono (fun r _ => ?_) | refine (zDb _ _ ?_).mono (fun r _ => ?_) | refine qC n1 ?_ ?_ (fun y _ _ => ?_) | refine qC n2 ?_ ?_ (fun y _ _ => ?_) | refine qC n3 ?_ ?_ (fun y _ _ => ?_) | refine j3 ?_ ?_ (fun y _ _ => ?_) | refine zI (fun _ => ?_) (fun _ => ?_) | refine zG (fun _ => ?_) (fun _ => ?_) | refine qJ ?_ | refine wA (fun s _ _ => ?_) (fun s _ _ => ?_)
  | simp only [jH ‹_[_]? = some _›, Option.bind_some]
  | with_reducible first | refine zC ?_ | refine e2l ?_ | refine e2r ?_
  | exact zD (by omega) (by omega)
  | omega
  | (simp only [List.length_cons, List.length_nil] at *; exact zD (by omega) (by omega)))
theorem zFj (a1 : Ty.El (tPV)) (h0 : zZv a1) : Wp (yK (a1, ())) (fun _ => True) := by
 have hh0 := h0
 obtain ⟨i10, i11, i12, i13, i14⟩ := hh0
 unfold yK
 try dsimp only
 repeat' (first
  | with_reducible exact trivial
  | assumption
  | contradiction
  | with_reducible first | refine zB ?_ | refine (yQ _).mono (fun r _ => ?_) | refine j3 ?_ ?_ (fun y _ _ => ?_) | refine jN (fun _ => ?_) (fun _ => ?_) | refine zI (fun _ => ?_) (fun _ => ?_) | refine zG (fun _ => ?_) (fun _ => ?_) | refine qJ ?_ | refine wA (fun s _ _ => ?_) (fun s _ _ => ?_)
  | simp only [jH ‹_[_]? = some _›, Option.bind_some]
  | with_reducible first | refine zC ?_ | refine e2l ?_ | refine e2r ?_
  | exact zD (by omega) (by omega)
  | omega
  | (simp only [List.length_cons, List.length_nil] at *; exact zD (by omega) (by omega)))
theorem zB6 (a1 : Ty.El (zH)) (h0 : SmR a1) : Wp (u9 (a1, ())) (fun _ => True) := by
 have hh0 := h0
 obtain ⟨i1, i2, i3, i4, i5, i6, i7, i8, i9, i10, i11, i12, i13, i14, n1, n2, n3⟩ := hh0
 unfold u9
 try dsimp only
 repeat' (first
  | with_reducible exact trivial
  | exact ⟨i10, i11, i12, i13, i14⟩
  | assumption
  | contradiction
  | with_reducible first | refine zB ?_ | refine (qY _ _ _).mono (fun r _ => ?_) | refine (zHJ _ ?_).mono (fun r _ => ?_) | refine (zFj _ ?_).mono (fun r _ => ?_) | refine (kA _ _ _ _ _ ?_ ?_).mono (fun r _ => ?_) | refine jN (fun _ => ?_) (fun _ => ?_) | refine zG (fun _ => ?_) (fun _ => ?_) | refine zC ?_
  | exact zD (by omega) (by omega)
  | omega
  | (simp only [List.length_cons, List.length_nil] at *; exact zD (by omega) (by omega)))
theorem zFH (a1 : Ty.El (zH)) (h0 : SmR a1) : Wp (vA (a1, ())) (fun _ => True) := by
 have hh0 := h0
 obtain ⟨i1, i2, i3, i4, i5, i6, i7, i8, i9, i10, i11, i12, i13, i14, n1, n2, n3⟩ := hh0
 unfold vA
 try dsimp only
 repeat' (first
  | with_reducible exact trivial
  | exact ⟨i10, i11, i12, i13, i14⟩
  | assumption
  | contradiction
  | with_reducible first | refine zB ?_ | refine (kB _).mono (fun r _ => ?_) | refine (qY _ _ _).mono (fun r _ => ?_) | refine (zGU _ ?_).mono (fun r _ => ?_) | refine (zBM _ ?_ ?_).mono (fun r _ => ?_) | refine (zCv _ ?_).mono (fun r _ => ?_) | refine (zBN _ ?_ ?_).mono (fun r _ => ?_) | refine (zBp _ ?_).mono (fun r _ => ?_) | refine (zDJ _ ?_).mono (fun r _ => ?_) | refine (zJ9 _ ?_).mono (fun r _ => ?_) | refine (zCw _ ?_).mono (fun r _ => ?_) | refine (zDa _ ?_).mono (fun r _ => ?_) | refine (zB6 _ ?_).mono (fun r _ => ?_) | refine qC n1 ?_ ?_ (fun y _ _ => ?_) | refine qC n2 ?_ ?_ (fun y _ _ => ?_) | refine qC n3 ?_ ?_ (fun y _ _ => ?_) | refine j3 ?_ ?_ (fun y _ _ => ?_) | refine jN (fun _ => ?_) (fun _ => ?_) | refine zI (fun _ => ?_) (fun _ => ?_) | refine zG (fun _ => ?_) (fun _ => ?_) | refine qJ ?_ | refine wA (fun s _ _ => ?_) (fun s _ _ => ?_)
  | simp only [jH ‹_[_]? = some _›, Option.bind_some]
  | with_reducible first | refine zC ?_ | refine e2l ?_ | refine e2r ?_
  | exact zD (by omega) (by omega)
  | omega
  | (simp only [List.length_cons, List.length_nil] at *; exact zD (by omega) (by omega)))
theorem zMw (a1 : Ty.El (zT)) (h0 : ∀ y, y ∈ a1.1 → SmR y) : Wp (kD (a1, ())) (fun _ => True) := by
 unfold kD
 try dsimp only
 repeat' (first
  | with_reducible exact trivial
  | assumption
  | contradiction
  | with_reducible first | refine zB ?_ | refine (zFH _ ?_).mono (fun r _ => ?_) | refine (zBv _ _ ?_).mono (fun r _ => ?_) | refine qC h0 ?_ ?_ (fun y _ _ => ?_) | refine j3 ?_ ?_ (fun y _ _ => ?_) | refine zI (fun _ => ?_) (fun _ => ?_) | refine zG (fun _ => ?_) (fun _ => ?_) | refine qJ ?_ | refine wA (fun s _ _ => ?_) (fun s _ _ => ?_)
  | simp only [jH ‹_[_]? = some _›, Option.bind_some]
  | with_reducible first | refine zC ?_ | refine e2l ?_ | refine e2r ?_
  | exact zD (by omega) (by omega)
  | omega
  | (simp only [List.length_cons, List.length_nil] at *; exact zD (by omega) (by omega))
  | exact zD (by omega) (by have := SmR.i1 ‹SmR _›; omega))
end Go.Ve

namespace Go.Ve
open Go
set_option maxRecDepth 1000000
set_option maxHeartbeats 4000000
def zJ5 (n : Ty.El zT) (p : Ty.El zF) (vl : Int) (e : Ty.El zK) : Prop :=
 0 ≤ e.1 ∧ 0 ≤ e.2.1 ∧ ∃ r x, n.1[e.1.toNat]? = some r ∧ r.2.2.1[e.2.1.toNat]? = some x ∧ x.2.2.1 ≠ 0 ∧ x.2.2.2.2.1 = false ∧ j5 (x.2.1, x.2.2.1, ()) = some p ∧ x.2.2.2.1 = vl
def zZm (st : HSt zK) (B : Nat) (E : Ty.El zK → Prop) (q : Option (Nat × Nat)) : Prop :=
 ∀ id m, q = some (id, m) → ∃ xs, st[id]? = some (some xs) ∧ xs.length = m ∧ xs.length ≤ B ∧ ∀ e, e ∈ xs → E e
def zOe (d d' : Ty.El zO) : Prop := ∀ id m m', d.2.2.1 = some (id, m) → d'.2.2.1 = some (id, m') → False
theorem zOe.symm {d d' : Ty.El zO} (h : zOe d d') : zOe d' d := fun id m m' h1 h2 => h id m' m h2 h1
structure Bld (n : Ty.El zT) (B : Nat) (D : List (Ty.El zO)) (st : HSt zK) : Prop where
 len : D.length ≤ B
 ok : ∀ d, d ∈ D → zZm st B (zJ5 n d.1 d.2.1) d.2.2.1
 ap : D.Pairwise zOe
 so : D.Pairwise (fun d d' => zCd d.1 d.2.1 d'.1 d'.2.1)
theorem zEa {n : Ty.El zT} {B B' : Nat} {D : List (Ty.El zO)} {st : HSt zK} (h : Bld n B D st) (hb : B ≤ B') : Bld n B' D st := by
 refine ⟨Nat.le_trans h.len hb, ?_, h.ap, h.so⟩
 intro d hd id m hq
 obtain ⟨xs, h1, h2, h3, h4⟩ := h.ok d hd id m hq
 exact ⟨xs, h1, h2, Nat.le_trans h3 hb, h4⟩
theorem zXV {n : Ty.El zT} {B : Nat} {st : HSt zK} : Bld n B [] st := ⟨Nat.zero_le _, (fun d hd => by cases hd), List.Pairwise.nil, List.Pairwise.nil⟩
theorem zXW {n : Ty.El zT} {B : Nat} {D : List (Ty.El zO)} {st : HSt zK} (h : Bld n B D st) (k : Nat) (p : Ty.El zF) (v : Int)
  (hlo : ∀ j d, j < k → D[j]? = some d → zCd d.1 d.2.1 p v) (hhi : ∀ d, D[k]? = some d → zCd p v d.1 d.2.1) :
  Bld n (B + 1) (D.take k ++ [((p, v, none, ()) : Ty.El zO)] ++ D.drop k) st := by
 have h' := zEa h (Nat.le_succ B)
 have hnew : ∀ d : Ty.El zO, zOe d ((p, v, none, ()) : Ty.El zO) := fun d id m m' _ h2 => by cases h2
 refine ⟨?_, ?_, ?_, ?_⟩
 ·have := h.len; simp only [List.length_append, List.length_take, List.length_drop, List.length_singleton]; omega
 ·intro d hd
  simp only [List.mem_append, List.mem_singleton] at hd
  rcases hd with (hd | rfl) | hd
  ·exact h'.ok d (List.mem_of_mem_take hd)
  ·intro id m hq; cases hq
  ·exact h'.ok d (List.mem_of_mem_drop hd)
 ·have hp := h.ap
  rw [← List.take_append_drop k D, List.pairwise_append] at hp
  obtain ⟨h1, h2, h3⟩ := hp
  rw [List.pairwise_append, List.pairwise_append]
  refine ⟨⟨h1, List.pairwise_singleton _ _, ?_⟩, h2, ?_⟩
  ·intro a _ b hb
   simp only [List.mem_singleton] at hb
   subst hb
   exact hnew a
  ·intro a ha b hb
   simp only [List.mem_append, List.mem_singleton] at ha
   rcases ha with ha | rfl
   ·exact h3 a ha b hb
   ·exact (hnew b).symm
 ·have hso := h.so
  have hso' := List.pairwise_iff_getElem.1 hso
  rw [← List.take_append_drop k D, List.pairwise_append] at hso
  obtain ⟨h1, h2, h3⟩ := hso
  rw [List.pairwise_append, List.pairwise_append]
  refine ⟨⟨h1, List.pairwise_singleton _ _, ?_⟩, h2, ?_⟩
  ·intro a ha b hb
   simp only [List.mem_singleton] at hb
   subst hb
   obtain ⟨j, hj, hje⟩ := List.getElem_of_mem ha
   rw [List.length_take] at hj
   refine hlo j a (by omega) ?_
   rw [← hje, List.getElem_take, List.getElem?_eq_getElem (by omega)]
  ·intro a ha b hb
   simp only [List.mem_append, List.mem_singleton] at ha
   rcases ha with ha | rfl
   ·exact h3 a ha b hb
   ·obtain ⟨j, hj, hje⟩ := List.getElem_of_mem hb
    rw [List.length_drop] at hj
    rw [List.getElem_drop] at hje
    have hk : D[k]? = some (D[k]'(by omega)) := by simp
    have hlt := hhi _ hk
    rcases Nat.eq_zero_or_pos j with h0 | h0
    ·subst h0
     simp only [Nat.add_zero] at hje
     rw [← hje]; exact hlt
    ·rw [← hje]
     exact zRE hlt (hso' k (k + j) (by omega) (by omega) (by omega))
theorem zUl {n : Ty.El zT} {B : Nat} {D : List (Ty.El zO)} {st st' : HSt zK} (h : Bld n B D st) {k : Nat} {d : Ty.El zO} (hd : D[k]? = some d) {id m : Nat} {xs : List (Ty.El zK)}
  (hnew : st'[id]? = some (some xs)) (hm : xs.length = m) (hB : xs.length ≤ B + 1) (hE : ∀ e, e ∈ xs → zJ5 n d.1 d.2.1 e) (hid : st.length ≤ id)
  (hkeep : ∀ j ys, st[j]? = some (some ys) → (∀ m', d.2.2.1 ≠ some (j, m')) → st'[j]? = some (some ys)) :
  Bld n (B + 1) (D.set k ((d.1, d.2.1, some (id, m), ()) : Ty.El zO)) st' := by
 have hlt : k < D.length := (List.getElem?_eq_some_iff.1 hd).1
 have hdk : D[k] = d := (List.getElem?_eq_some_iff.1 hd).2
 have hap := List.pairwise_iff_getElem.1 h.ap
 have hother : ∀ j (hj : j < D.length), j ≠ k → zOe d D[j] := by
  intro j hj hne
  rcases Nat.lt_or_ge j k with hh | hh
  ·have := hap j k hj hlt hh; rw [hdk] at this; exact this.symm
  ·have := hap k j hlt hj (by omega); rw [hdk] at this; exact this
 have hold : ∀ j (hj : j < D.length), zOe D[j] ((d.1, d.2.1, some (id, m), ()) : Ty.El zO) := by
  intro j hj i m1 m2 h1 h2
  obtain ⟨ys, g1, _⟩ := h.ok D[j] (List.getElem_mem hj) i m1 h1
  simp only [Option.some.injEq, Prod.mk.injEq] at h2
  obtain ⟨rfl, _⟩ := h2
  have := (List.getElem?_eq_some_iff.1 g1).1
  omega
 refine ⟨by rw [List.length_set]; have := h.len; omega, ?_, ?_, ?_⟩
 ·intro x hx
  obtain ⟨j, hj, rfl⟩ := List.getElem_of_mem hx
  rw [List.length_set] at hj
  rw [List.getElem_set]
  split
  ·intro i m1 h1
   simp only [Option.some.injEq, Prod.mk.injEq] at h1
   obtain ⟨rfl, rfl⟩ := h1
   exact ⟨xs, hnew, hm, hB, hE⟩
  ·rename_i hne
   intro i m1 h1
   obtain ⟨ys, g1, g2, g3, g4⟩ := h.ok D[j] (List.getElem_mem hj) i m1 h1
   exact ⟨ys, hkeep i ys g1 (fun m' hq => hother j hj (fun hh => hne hh.symm) i m' m1 hq h1), g2, by omega, g4⟩
 ·rw [List.pairwise_iff_getElem]
  intro i j hi hj hij
  rw [List.length_set] at hi hj
  rw [List.getElem_set, List.getElem_set]
  split
  ·split
   ·omega
   ·exact (hold j hj).symm
  ·split
   ·exact hold i hi
   ·exact hap i j hi hj hij
 ·have hso := List.pairwise_iff_getElem.1 h.so
  rw [List.pairwise_iff_getElem]
  intro i j hi hj hij
  rw [List.length_set] at hi hj
  have := hso i j hi hj hij
  rw [List.getElem_set, List.getElem_set]
  split
  ·split
   ·omega
   ·rename_i hki _
    subst hki
    rw [hdk] at this
    exact this
  ·split
   ·rename_i hkj
    subst hkj
    rw [hdk] at this
    exact this
   ·exact this
theorem zXX {n : Ty.El zT} {B : Nat} {D : List (Ty.El zO)} {st : HSt zK} (h : Bld n B D st) (hb : B ≤ 1000) {k : Nat} {d : Ty.El zO} (hd : D[k]? = some d) {e : Ty.El zK} (he : zJ5 n d.1 d.2.1 e) :
  Wp (zOC 16 st d.2.2.1 [e]) (fun r => Bld n (B + 1) (D.set k ((d.1, d.2.1, r.2, ()) : Ty.El zO)) r.1) := by
 have hmem : d ∈ D := List.mem_of_getElem? hd
 cases hq : d.2.2.1 with
 | none =>
  refine ⟨(st ++ [some [e]], some (st.length, 1)), ?_, ?_⟩
  ·simp only [zOC, List.length_singleton]
   rw [if_pos (by omega)]
  ·refine zUl h hd (xs := [e]) ?_ rfl (by simp) (fun e' h' => by simp only [List.mem_singleton] at h'; subst h'; exact he) (Nat.le_refl _) ?_
   ·simp
   ·intro j ys hj _
    rw [List.getElem?_append_left (List.getElem?_eq_some_iff.1 hj).1]
    exact hj
 | some q =>
  obtain ⟨id, m⟩ := q
  obtain ⟨xs, h1, h2, h3, h4⟩ := h.ok d hmem id m hq
  have hlt := (List.getElem?_eq_some_iff.1 h1).1
  refine ⟨(st.set id none ++ [some (xs ++ [e])], some (st.length, (xs ++ [e]).length)), ?_, ?_⟩
  ·simp only [zOC, h1, List.length_singleton]
   rw [if_pos (by omega)]
  ·refine zUl h hd (xs := xs ++ [e]) ?_ rfl (by simp; omega) ?_ (Nat.le_refl _) ?_
   ·rw [List.getElem?_append_right (by simp)]
    simp
   ·intro e' h'
    simp only [List.mem_append, List.mem_singleton] at h'
    rcases h' with h' | rfl
    ·exact h4 e' h'
    ·exact he
   ·intro j ys hj hne
    have hjl := (List.getElem?_eq_some_iff.1 hj).1
    rw [List.getElem?_append_left (by rw [List.length_set]; exact hjl), List.getElem?_set_ne]
    ·exact hj
    ·intro hh
     subst hh
     exact hne m hq
structure zW2 (n : Ty.El zT) (t : Ty.El zIK) : Prop where
 doms : t.1.length ≤ 360
 ends : ∀ d, d ∈ t.1 → d.2.2.1.length ≤ 360 ∧ ∀ e, e ∈ d.2.2.1 → zJ5 n d.1 d.2.1 e
 links : t.2.1.length ≤ 12
 link : ∀ l, l ∈ t.2.1 → 0 ≤ l ∧ l < (t.1.length : Int)
 so : t.1.Pairwise (fun d d' => zCd d.1 d.2.1 d'.1 d'.2.1)
theorem zRy {α β : Type} {f : α → Option β} {R : α → β → Prop} : ∀ {xs : List α}, (∀ x, x ∈ xs → Wp (f x) (R x)) → Wp (zJt f xs) (fun ys : List β => ys.length = xs.length ∧ ∀ (i : Nat) x y, xs[i]? = some x → ys[i]? = some y → R x y)
 | [], _ => ⟨[], rfl, rfl, fun i x y h => by simp at h⟩
 | x :: r, h => by
  obtain ⟨y, h1, h2⟩ := h x (by simp)
  obtain ⟨ys, h3, h4, h5⟩ := zRy (xs := r) (fun z hz => h z (List.mem_cons_of_mem _ hz))
  refine ⟨y :: ys, by simp only [zJt, h1, h3], by simp [h4], ?_⟩
  intro i a b ha hb
  cases i with
  | zero => simp only [List.getElem?_cons_zero, Option.some.injEq] at ha hb; subst ha hb; exact h2
  | succ i => exact h5 i a b (by simpa using ha) (by simpa using hb)
theorem zWT {n : Ty.El zT} {B : Nat} {D : List (Ty.El zO)} {st : HSt zK} (h : Bld n B D st) :
  Wp (zJt (xZ st zO) D) (fun ys => ys.length = D.length ∧ (∀ d : Ty.El kM, d ∈ ys → d.2.2.1.length ≤ B ∧ ∀ e, e ∈ d.2.2.1 → zJ5 n d.1 d.2.1 e) ∧ ys.Pairwise (fun d d' : Ty.El kM => zCd d.1 d.2.1 d'.1 d'.2.1)) := by
 refine (zRy (R := fun (d : Ty.El zO) (y : Ty.El kM) => (y.2.2.1.length ≤ B ∧ ∀ e, e ∈ y.2.2.1 → zJ5 n y.1 y.2.1 e) ∧ y.1 = d.1 ∧ y.2.1 = d.2.1) ?_).mono ?_
 ·intro d hd
  obtain ⟨⟨p1, p2, ⟨⟩⟩, v, q, ⟨⟩⟩ := d
  cases q with
  | none => exact ⟨((p1, p2, ()), v, [], ()), rfl, ⟨Nat.zero_le _, fun e he => by cases he⟩, rfl, rfl⟩
  | some q =>
   obtain ⟨id, m⟩ := q
   obtain ⟨xs, h1, h2, h3, h4⟩ := h.ok _ hd id m rfl
   refine ⟨((p1, p2, ()), v, xs, ()), ?_, ⟨h3, h4⟩, rfl, rfl⟩
   simp only [xZ, h1]
 ·rintro ys ⟨h1, h2⟩
  have hat : ∀ i (hi : i < ys.length), ∃ d, D[i]? = some d ∧ ((ys[i].2.2.1.length ≤ B ∧ ∀ e, e ∈ ys[i].2.2.1 → zJ5 n ys[i].1 ys[i].2.1 e) ∧ ys[i].1 = d.1 ∧ ys[i].2.1 = d.2.1) := by
   intro i hi
   refine ⟨D[i]'(by omega), by simp, h2 i _ _ (by simp) (by simp [hi])⟩
  refine ⟨h1, ?_, ?_⟩
  ·intro d hd
   obtain ⟨i, hi, rfl⟩ := List.getElem_of_mem hd
   obtain ⟨_, _, h3, _⟩ := hat i hi
   exact h3
  ·rw [List.pairwise_iff_getElem]
   intro i j hi hj hij
   have hso := List.pairwise_iff_getElem.1 h.so i j (by omega) (by omega) hij
   obtain ⟨d, hd, _, e1, e2⟩ := hat i hi
   obtain ⟨d', hd', _, e3, e4⟩ := hat j hj
   obtain ⟨_, rfl⟩ := List.getElem?_eq_some_iff.1 hd
   obtain ⟨_, rfl⟩ := List.getElem?_eq_some_iff.1 hd'
   rw [e1, e2, e3, e4]
   exact hso
end Go.Ve

namespace Go.Ve
open Go
set_option maxRecDepth 1000000
set_option maxHeartbeats 4000000
theorem wO {α : Type} {xs : List α} {i : Nat} {x : α} (h : xs[i]? = some x) : atN xs i = some x := h
abbrev BSt := (List (Ty.El zO) × List Int) × HSt zK
theorem zIH (a1 : Ty.El zT) (hn : a1.1.length ≤ 9) (hs : ∀ y, y ∈ a1.1 → SmR y) :
  Wp (zBJ [] (a1, ())) (fun r => (r.2.2.1 = 0 → Bld a1 360 r.2.1.1 r.1 ∧ r.2.1.2.1.length ≤ 12 ∧ (∀ l, l ∈ r.2.1.2.1 → 0 ≤ l ∧ l < (r.2.1.1.length : Int)) ∧ kD (a1, ()) = some 0) ∧ (r.2.2.1 ≠ 0 → r.2.1 = ([], [], ()))) := by
 unfold zBJ
 dsimp only
 refine yP ((zMw a1 hs).mono (fun _ _ => trivial)) (fun y0 hy0 => ?_)
 refine zG (fun hc => ?_) (fun hc => ?_)
 ·refine zB ⟨fun h => ?_, fun _ => rfl⟩
  simp only at h
  subst h
  cases hc
 have hy : y0 = 0 := by simpa using hc
 subst hy
 refine zC ((vM (xs := a1.1) (by omega) (fun i (g : BSt) => g.1.2 = [] ∧ Bld a1 (40 * i) g.1.1 g.2) ⟨rfl, zXV⟩ ?_ (Q := fun g => g.1.2 = [] ∧ Bld a1 360 g.1.1 g.2) (fun g hg => ⟨hg.1, zEa hg.2 (by omega)⟩)).mono ?_)
 ·intro i x g hx hj
  have hi : i < 9 := by have := (List.getElem?_eq_some_iff.1 hx).1; omega
  have hsx := (hs x (List.mem_of_getElem? hx)).i1
  simp only [zJ hx, Option.bind_some]
  refine (vM (xs := x.2.2.1) (by omega) (fun j (g : BSt) => g.1.2 = [] ∧ Bld a1 (40 * i + 2 * j) g.1.1 g.2) hj ?_ (fun g hg => ⟨hg.1, zEa hg.2 (by omega)⟩))
  intro j f g hf hj
  have hjl : j < 20 := by have := (List.getElem?_eq_some_iff.1 hf).1; omega
  obtain ⟨⟨D, L⟩, st⟩ := g
  obtain ⟨rfl, hD⟩ := hj
  simp only [zJ hf, Option.bind_some]
  refine zC ((show Wp _ (fun s : Bool × BSt => s.2 = ((D, []), st) ∧ (s.1 = false → f.2.2.1 ≠ 0 ∧ f.2.2.2.2.1 = false)) from ?_).mono ?_)
  ·refine zG (fun h => zB ⟨rfl, fun h => by cases h⟩) (fun h => zB ⟨rfl, fun h' => ⟨by simpa using h, h'⟩⟩)
  rintro ⟨b, g⟩ ⟨hg, hb⟩
  simp only at hg hb
  subst hg
  refine zG (fun _ => zB ⟨rfl, zEa hD (by omega)⟩) (fun hb' => ?_)
  obtain ⟨hlen, hdown⟩ := hb hb'
  refine yP (zDK _ _) (fun p hp => ?_)
  refine zC ((show Wp _ (fun s : Int × BSt => ∃ k : Nat, s.1 = (k : Int) ∧ k ≤ D.length ∧ s.2 = ((D, []), st) ∧ (∀ m d, m < k → D[m]? = some d → zCd d.1 d.2.1 p f.2.2.2.1) ∧ (∀ d, D[k]? = some d → ¬ zCd d.1 d.2.1 p f.2.2.2.1)) from ?_).mono ?_)
  ·refine j2 (fun s : Int × BSt => ∃ k : Nat, s.1 = (k : Int) ∧ k ≤ D.length ∧ s.2 = ((D, []), st) ∧ (∀ m d, m < k → D[m]? = some d → zCd d.1 d.2.1 p f.2.2.2.1)) (fun s => ((D.length : Int) - s.1).toNat) ⟨(0 : Nat), rfl, Nat.zero_le _, rfl, fun m d hm => by omega⟩ ?_
   rintro ⟨s, g⟩ ⟨k, hk, hkl, hg, hlo⟩
   simp only at hk hg
   subst hk hg
   have hDl : D.length ≤ _ := hD.len
   refine zC ((show Wp _ (fun s : Bool × BSt => s.2 = ((D, []), st) ∧ (s.1 = true → ∃ d, D[k]? = some d ∧ zCd d.1 d.2.1 p f.2.2.2.1) ∧ (s.1 = false → ∀ d, D[k]? = some d → ¬ zCd d.1 d.2.1 p f.2.2.2.1)) from ?_).mono ?_)
   ·refine zI (fun hlt => ?_) (fun hge => zB ⟨rfl, (fun h => by cases h), fun _ d hd => ?_⟩)
    ·have hlt : k < D.length := by simp only at hlt; omega
     have hk : D[k]? = some D[k] := by simp [hlt]
     generalize D[k] = dk at hk
     have hone : ∀ d, D[k]? = some d → d = dk := fun d hd => by rw [hk] at hd; exact (Option.some.inj hd).symm
     simp only [zJ hk, Int.toNat_natCast, wO hk, Option.bind_some]
     refine zC (qD (zAV _ _) ?_)
     refine zI (fun hc => zB ⟨rfl, fun _ => ⟨dk, hk, .inl (zJV.1 hc)⟩, fun h => by cases h⟩) (fun hc => ?_)
     have hc : ¬ plt dk.1 p := fun h => hc (zJV.2 h)
     refine zG (fun he => zB ⟨rfl, fun h => ⟨dk, hk, .inr ⟨zEw he, of_decide_eq_true h⟩⟩, fun h d hd => ?_⟩) (fun he => zB ⟨rfl, (fun h => by cases h), fun _ d hd => ?_⟩)
     ·have hd : d = dk := hone d hd
      subst hd
      rintro (h1 | ⟨_, h1⟩)
      ·exact hc h1
      ·exact of_decide_eq_false h h1
     ·have hd : d = dk := hone d hd
      subst hd
      rintro (h1 | ⟨h1, _⟩)
      ·exact hc h1
      ·have he : (d.1.fst == p.1 && (d.1.snd.fst == p.2.1 && true)) = false := he
       rw [h1] at he
       simp at he
    ·have hge : ¬ (k : Int) < (D.length : Int) := hge
     have := (List.getElem?_eq_some_iff.1 hd).1
     omega
   ·rintro ⟨b, g⟩ ⟨hg, hb, hb2⟩
    simp only at hg hb hb2
    subst hg
    refine zG (fun h => ?_) (fun h => ?_)
    ·obtain ⟨d, hd, hlt2⟩ := hb h
     have hlt := (List.getElem?_eq_some_iff.1 hd).1
     refine zB (e2l ⟨⟨k + 1, ?_, hlt, rfl, ?_⟩, ?_⟩)
     ·simp only; rw [zD (by omega) (by omega)]; omega
     ·intro m d' hm hd'
      rcases Nat.lt_or_ge m k with h' | h'
      ·exact hlo m d' h' hd'
      ·have : m = k := by omega
       subst this
       rw [hd] at hd'
       cases hd'
       exact hlt2
     ·simp only; rw [zD (by omega) (by omega)]; omega
    ·exact zB (e2r ⟨k, rfl, hkl, rfl, hlo, hb2 h⟩)
  rintro ⟨s, g⟩ ⟨k, hk, hkl, hg, hlo, hhi⟩
  simp only at hk hg
  subst hk hg
  have hDl : D.length ≤ _ := hD.len
  refine zC ((show Wp _ (fun g : BSt => g.1.2 = [] ∧ Bld a1 (40 * i + 2 * j + 1) g.1.1 g.2 ∧ ∃ d, g.1.1[k]? = some d ∧ d.1 = p ∧ d.2.1 = f.2.2.2.1) from ?_).mono ?_)
  ·refine zC ((show Wp _ (fun s : Bool × BSt => s.2 = ((D, []), st) ∧ (s.1 = false → ∃ d, D[k]? = some d ∧ d.1 = p ∧ d.2.1 = f.2.2.2.1) ∧ (s.1 = true → ∀ d, D[k]? = some d → ¬ (d.1 = p ∧ d.2.1 = f.2.2.2.1))) from ?_).mono ?_)
   ·refine zG (fun heq => zB ⟨rfl, (fun h => by cases h), fun _ d hd => ?_⟩) (fun hne => ?_)
    ·have heq : (k : Int) = (D.length : Int) := by simpa using heq
     have := (List.getElem?_eq_some_iff.1 hd).1
     omega
    have hlt : k < D.length := by
     have : ¬ ((k : Int) = (D.length : Int)) := by simpa using hne
     omega
    have hk : D[k]? = some D[k] := by simp [hlt]
    generalize D[k] = dk at hk
    have hone : ∀ d, D[k]? = some d → d = dk := fun d hd => by rw [hk] at hd; exact (Option.some.inj hd).symm
    simp only [zJ hk, Int.toNat_natCast, wO hk, Option.bind_some]
    refine zG (fun he => zB ⟨rfl, (fun h => by cases h), fun _ d hd h2 => ?_⟩) (fun he => ?_)
    ·have hd : d = dk := hone d hd
     subst hd
     have he : (!(d.1.fst == p.1 && (d.1.snd.fst == p.2.1 && true))) = true := he
     rw [h2.1] at he
     simp at he
    have hpe := zEw (by simpa using he)
    refine zB ⟨rfl, fun hv => ⟨dk, hk, hpe, by simpa using hv⟩, fun hv d hd h2 => ?_⟩
    have hd : d = dk := hone d hd
    subst hd
    have hv : (d.2.1 != f.2.2.2.1) = true := hv
    rw [h2.2] at hv
    simp at hv
   ·rintro ⟨b, g⟩ ⟨hg, hb, hb2⟩
    simp only at hg hb hb2
    subst hg
    refine zG (fun hbt => ?_) (fun hf' => zB ⟨rfl, zEa hD (by omega), hb hf'⟩)
    have hins : ∀ d, D[k]? = some d → zCd p f.2.2.2.1 d.1 d.2.1 := fun d hd => zWm (hhi d hd) (hb2 hbt d hd)
    refine zG (fun _ => ?_) (fun h => ?_)
    ·simp only [Int.toNat_natCast, List.take_length]
     refine zC (wL (by simp only [List.length_nil, List.length_drop]; omega) ?_)
     refine zG (fun _ => ?_) (fun h => ?_)
     ·refine zC (wL (by simp only [List.length_take, List.length_singleton]; omega) ?_)
      refine zC (wL (by simp only [List.length_append, List.length_nil, List.length_take, List.length_drop, List.length_singleton]; omega) ?_)
      rw [List.nil_append]
      refine zB ⟨rfl, zXW hD k p _ hlo hins, ⟨(p, f.2.2.2.1, none, ()), ?_, rfl, rfl⟩⟩
      simp only
      rw [List.append_assoc, List.getElem?_append_right (by simp only [List.length_take]; omega)]
      simp only [List.length_take]
      rw [show k - min k D.length = 0 by omega]
      rfl
     ·exfalso
      simp only [Bool.and_eq_false_iff, decide_eq_false_iff_not] at h
      omega
    ·exfalso
     simp only [Bool.and_eq_false_iff, decide_eq_false_iff_not] at h
     omega
  rintro ⟨⟨D', L'⟩, st'⟩ ⟨hL, hD', d, hk, hd1, hd2⟩
  simp only at hL hD' hk
  subst hL
  have hD'l : D'.length ≤ _ := hD'.len
  simp only [zJ hk, Int.toNat_natCast, wO hk, Option.bind_some]
  refine zC ((zXX hD' (by omega) hk (e := (↑i, ↑j, ())) ⟨(show (0 : Int) ≤ (i : Int) by omega), (show (0 : Int) ≤ (j : Int) by omega), x, f, by simpa using hx, by simpa using hf, hlen, hdown, ?_, ?_⟩).mono ?_)
  ·rw [hp, hd1]
  ·exact hd2.symm
  ·rintro ⟨st2, q2⟩ hB
   exact zB ⟨rfl, zEa hB (by omega)⟩
 ·rintro ⟨⟨D, L⟩, st⟩ ⟨hL, hD⟩
  simp only at hL hD
  subst hL
  have hDl : D.length ≤ _ := hD.len
  refine zC ((zQJ (n := D.length) (by omega) (fun i (g : BSt) => g.1.1 = D ∧ g.2 = st ∧ g.1.2.length ≤ i ∧ ∀ l, l ∈ g.1.2 → 0 ≤ l ∧ l < (D.length : Int)) ⟨rfl, rfl, Nat.le_refl _, (fun l hl => by cases hl)⟩ (fun i g hg => by simp only [hg.1]) ?_
   (Q := fun g : BSt => g.1.1 = D ∧ g.2 = st ∧ ∀ l, l ∈ g.1.2 → 0 ≤ l ∧ l < (D.length : Int)) (fun g hg => ⟨hg.1, hg.2.1, hg.2.2.2⟩)).mono ?_)
  ·rintro i ⟨⟨D', L⟩, st'⟩ hi ⟨rfl, rfl, hL, hl⟩
   simp only at hi hL hl
   have hDl2 : D'.length ≤ 360 := hD.len
   have hk : D'[i]? = some D'[i] := by simp [hi]
   simp only [zJ hk, Int.toNat_natCast, wO hk, Option.bind_some]
   refine zI (fun _ => ?_) (fun _ => zB ⟨rfl, rfl, by simp only; omega, hl⟩)
   refine zC (wL (by simp only [List.length_singleton]; omega) (zB ⟨rfl, rfl, by simp only [List.length_append, List.length_singleton]; omega, ?_⟩))
   intro l hl'
   simp only [List.mem_append, List.mem_singleton] at hl'
   rcases hl' with hl' | rfl
   ·exact hl l hl'
   ·omega
  ·rintro ⟨⟨D', L⟩, st'⟩ ⟨rfl, rfl, hl⟩
   simp only at hl
   refine zI (fun _ => zB ⟨(fun h => by cases h), fun _ => rfl⟩) (fun h => zB ⟨fun _ => ⟨hD, ?_, hl, hy0⟩, fun h => absurd rfl h⟩)
   simp only at h ⊢
   omega
end Go.Ve

namespace Go.Ve
open Go
set_option maxRecDepth 1000000
set_option maxHeartbeats 4000000
theorem zOP {tE a b : Ty} {st : HSt tE} {x : a.El} {y : b.El} {x' : (w5 tE a).El} {y' : (w5 tE b).El} (h1 : xZ st a x = some x') (h2 : xZ st b y = some y') : xZ st (.pair a b) (x, y) = some (x', y') := by
 simp only [xZ, h1, h2]
theorem zSx {tE a : Ty} {r : List Ty} {st : HSt tE} {x : a.El} {y : ElS r} {x' : (w5 tE a).El} {y' : ElS (zFG tE r)} (h1 : xZ st a x = some x') (h2 : zMs st r y = some y') : zMs st (a :: r) (x, y) = some (x', y') := by
 simp only [zMs, h1, h2]
theorem zO5 {α : Type} {f : α → Option α} (hf : ∀ x, f x = some x) : ∀ l : List α, zJt f l = some l
 | [] => rfl
 | x :: l => by simp only [zJt, hf x, zO5 hf l]
theorem zLC (a1 : Ty.El zT) (hn : a1.1.length ≤ 9) (hs : ∀ y, y ∈ a1.1 → SmR y) :
  Wp (zDj (a1, ())) (fun r => r.2.1 = 0 → zW2 a1 r.1 ∧ kD (a1, ()) = some 0) := by
 obtain ⟨⟨st, ⟨D, L, ⟨⟩⟩, e, ⟨⟩⟩, h1, h2, h3⟩ := zIH a1 hn hs
 unfold zDj zMt
 rw [h1]
 simp only at h2 h3
 by_cases he : e = 0
 ·subst he
  obtain ⟨hB, hL, hl, hc⟩ := h2 rfl
  obtain ⟨ys, g1, g2, g3, g4⟩ := zWT hB
  refine ⟨((ys, L, ()), 0, ()), ?_, fun _ => ⟨⟨?_, g3, hL, ?_, g4⟩, hc⟩⟩
  ·have e1 : xZ st (.sl zO) D = some ys := g1
   have e2 : xZ st (.sl tI) L = some L := zO5 (fun _ => rfl) L
   exact zSx (r := [tI]) (zOP e1 (zOP e2 rfl)) rfl
  ·simp only; have : D.length ≤ 360 := hB.len; omega
  ·intro l hh; simp only; rw [g2]; exact hl l hh
 ·have := h3 he
  simp only [Prod.mk.injEq] at this
  obtain ⟨rfl, rfl, _⟩ := this
  exact ⟨(([], [], ()), e, ()), rfl, fun h => absurd h he⟩
structure zW5 (d : List Int) (m : Int) : Prop where
 len : d.length ≤ 2
 lo : ∀ x, x ∈ d → 0 ≤ x ∧ x < m
theorem zGW (d : List Int) (m : Int) : Wp (zAt (d, m, ())) (fun b => b = true → zW5 d m) := by
 unfold zAt
 dsimp only
 refine zI (fun _ => zB (fun h => by cases h)) (fun h => ?_)
 refine zAQ (by omega) (fun i => ∀ (j : Nat) (y : Int), j < i → d[j]? = some y → 0 ≤ y ∧ y < m) (fun j y hj => by omega) ?_ ?_
 ·intro i (x : Int) hx hj
  have hi := (List.getElem?_eq_some_iff.1 hx).1
  simp only [zJ hx, Option.bind_some]
  refine zC ((show Wp _ (fun b : Bool => b = false → 0 ≤ x ∧ x < m) from ?_).mono ?_)
  ·refine zI (fun _ => zB (fun h => by cases h)) (fun h1 => ?_)
   refine zI (fun _ => zB (fun h => by cases h)) (fun h2 => ?_)
   refine zI (fun h3 => ?_) (fun _ => zB (fun _ => ⟨by omega, by omega⟩))
   refine zC (j3 (by rw [zD (by omega) (by omega)]; omega) (by rw [zD (by omega) (by omega)]; omega) (fun y _ _ => zB (fun _ => ⟨by omega, by omega⟩)))
  ·intro b hb
   refine zG (fun _ => zB (e2r (e2r (fun h => by cases h)))) (fun h => zB (e2l ⟨rfl, ?_⟩))
   intro j y hj' hy
   rcases Nat.lt_or_ge j i with h' | h'
   ·exact hj j y h' hy
   ·have : j = i := by omega
    subst this
    rw [hx] at hy
    cases hy
    exact hb h
 ·intro hj
  refine zB (fun _ => ⟨by omega, ?_⟩)
  intro x hx
  obtain ⟨j, hjl, rfl⟩ := List.getElem_of_mem hx
  exact hj j _ hjl (by simp [hjl])
theorem zYQ {α : Type} {xs : List α} {P : α → Prop} (h : ∀ j y, j < xs.length → xs[j]? = some y → P y) : ∀ y, y ∈ xs → P y := by
 intro x hx
 obtain ⟨j, hjl, rfl⟩ := List.getElem_of_mem hx
 exact h j _ hjl (by simp [hjl])
theorem zCu {α ρ : Type} {xs : List α} {P : α → Prop} {body : Int → Option (Int ⊕ (Unit ⊕ ρ))} {K : Unit → Option ρ} {Q : ρ → Prop} (hl : xs.length < 4611686018427387904)
  (step : ∀ (i : Nat) x, xs[i]? = some x → Wp (body (i : Int)) (j7 (fun s' => s' = IntKind.wrap IntKind.i64 ((i : Int) + 1) ∧ P x) (j7 (fun _ => False) Q))) (fin : (∀ x, x ∈ xs → P x) → Wp (K ()) Q) :
  Wp (qV (zN (fun s : Int => bif decide (s < (xs.length : Int)) then body s else some (Sum.inr (Sum.inl ()))) (0 : Int)) K) Q := by
 refine zAQ hl (fun i => ∀ j y, j < i → xs[j]? = some y → P y) (fun j y hj => by omega) ?_ (fun h => fin (zYQ h))
 intro i x hx hj
 refine (step i x hx).mono ?_
 intro o ho
 cases o with
 | inl s' =>
  refine ⟨ho.1, ?_⟩
  intro j y hj' hy
  rcases Nat.lt_or_ge j i with h' | h'
  ·exact hj j y h' hy
  ·have : j = i := by omega
   subst this
   rw [hx] at hy
   cases hy
   exact ho.2
 | inr o => exact ho
theorem zMy (a1 : Ty.El zH) : Wp (zEE (a1, ())) (fun b => b = true → SmR a1) := by
 unfold zEE
 dsimp only
 refine zC ((show Wp _ (fun b : Bool => b = false → List.length a1.2.2.1 ≤ 12 ∧ List.length a1.2.2.2.1 ≤ 12 ∧ List.length a1.2.2.2.2.1 ≤ 12 ∧ List.length a1.2.2.2.2.2.1 ≤ 12 ∧ List.length a1.2.2.2.2.2.2.1 ≤ 12 ∧
  List.length a1.2.2.2.2.2.2.2.1 ≤ 20 ∧ List.length a1.2.2.2.2.2.2.2.2.1.2.2.1 ≤ 8 ∧ List.length a1.2.2.2.2.2.2.2.2.1.2.2.2.1 ≤ 8 ∧ List.length a1.2.2.2.2.2.2.2.2.2.1.2.2.2.2.1 ≤ 8 ∧
  List.length a1.2.2.2.2.2.2.2.2.2.2.1.2.2.2.2.2.2.2.1 ≤ 8 ∧ List.length a1.2.2.2.2.2.2.2.2.2.2.1.2.2.2.1 ≤ 12 ∧ List.length a1.2.2.2.2.2.2.2.2.2.2.1.2.2.2.2.1 ≤ 12 ∧
  List.length a1.2.2.2.2.2.2.2.2.2.2.1.2.2.2.2.2.1 ≤ 12 ∧ List.length a1.2.2.2.2.2.2.2.2.2.2.1.2.2.2.2.2.2.1 ≤ 12) from ?_).mono ?_)
 ·iterate 13 (refine zI (fun _ => zB (fun h => by cases h)) (fun _ => ?_))
  refine zB (fun h => ?_)
  have h := of_decide_eq_false h
  refine ⟨?_, ?_, ?_, ?_, ?_, ?_, ?_, ?_, ?_, ?_, ?_, ?_, ?_, ?_⟩ <;> omega
 intro b hb
 refine zG (fun _ => zB (fun h => by cases h)) (fun h => ?_)
 obtain ⟨i1, i2, i3, i4, i5, i6, i7, i8, i9, i10, i11, i12, i13, i14⟩ := hb h
 refine zCu (P := fun y => List.length y.2.1 ≤ 20) (by omega) ?_ (fun n1 => ?_)
 ·intro i x hx
  simp only [zJ hx, Option.bind_some]
  exact zI (fun _ => zB (e2r (e2r (fun h => by cases h)))) (fun _ => zB (e2l ⟨rfl, by omega⟩))
 refine zCu (P := fun y => List.length y.2.1 ≤ 20) (by omega) ?_ (fun n2 => ?_)
 ·intro i x hx
  simp only [zJ hx, Option.bind_some]
  exact zI (fun _ => zB (e2r (e2r (fun h => by cases h)))) (fun _ => zB (e2l ⟨rfl, by omega⟩))
 refine zCu (P := fun y => List.length y.2.1 ≤ 20) (by omega) ?_ (fun n3 => ?_)
 ·intro i x hx
  simp only [zJ hx, Option.bind_some]
  exact zI (fun _ => zB (e2r (e2r (fun h => by cases h)))) (fun _ => zB (e2l ⟨rfl, by omega⟩))
 refine zB (fun _ => ?_)
 constructor <;> first | assumption | omega
theorem zLD (a1 : Ty.El zT) : Wp (zDq (a1, ())) (fun b => b = true → a1.1.length ≤ 9 ∧ ∀ y, y ∈ a1.1 → SmR y) := by
 unfold zDq
 dsimp only
 refine zI (fun _ => zB (fun h => by cases h)) (fun hn => ?_)
 refine zCu (P := SmR) (by omega) ?_ (fun h => zB (fun _ => ⟨by omega, h⟩))
 intro i x hx
 simp only [zJ hx, Option.bind_some]
 refine zC ((zMy x).mono (fun b hb => ?_))
 refine zG (fun _ => zB (e2r (e2r (fun h => by cases h)))) (fun h => zB (e2l ⟨rfl, hb (by simpa using h)⟩))
structure x8 (n : Ty.El zT) (d : List Int) (v : Ty.El zS) : Prop where
 net : v.1 = n
 rs : n.1.length ≤ 9
 sm : ∀ y, y ∈ n.1 → SmR y
 chk : kD (n, ()) = some 0
 topo : zW2 n v.2.1
 dn : v.2.2.1 = d
 down : zW5 d v.2.1.2.1.length
theorem zMx (n : Ty.El zT) (d : List Int) (hn : n.1.length ≤ 9) (hs : ∀ y, y ∈ n.1 → SmR y) :
  Wp (zEt (n, d, ())) (fun r => r.2.1 = 0 → x8 n d r.1) := by
 unfold zEt
 dsimp only
 refine zC ((zLC n hn hs).mono (fun y0 hy => ?_))
 refine zG (fun h => zB (fun h' => ?_)) (fun h => ?_)
 ·simp only at h'
  rw [h'] at h
  cases h
 have he : y0.2.1 = 0 := by simpa using h
 obtain ⟨ht, hc⟩ := hy he
 refine zC ((zGW _ _).mono (fun b hb => ?_))
 refine zG (fun _ => zB (fun h' => by cases h')) (fun hb' => ?_)
 have hd := hb (by simpa using hb')
 refine zC (wL (by have := hd.len; simp only [List.length_nil]; omega) ?_)
 refine zB (fun _ => ⟨rfl, hn, hs, hc, ht, rfl, ?_⟩)
 exact hd
theorem zMz (n : Ty.El zT) (d : List Int) : Wp (zEF (n, d, ())) (fun r => r.2.1 = true → x8 n d r.1) := by
 unfold zEF
 dsimp only
 refine zC (zC ((zLD n).mono (fun b hb => ?_)))
 refine zG (fun _ => zB ?_) (fun h => zB ?_)
 ·exact zB (fun h => by cases h)
 ·obtain ⟨hn, hs⟩ := hb (by simpa using h)
  refine zG (fun _ => zB (fun h => by cases h)) (fun _ => ?_)
  refine zC ((zMx n d hn hs).mono (fun r hr => zB (fun h => hr ?_)))
  simpa using h
end Go.Ve

namespace Go.Ve
open Go
set_option maxRecDepth 1000000
set_option maxHeartbeats 4000000
structure RtS (x : Ty.El zA) : Prop where
 path : List.length x.2.2.2.2.2.2.2.2.1 ≤ 1048576
 hops : List.length x.2.2.2.2.2.2.2.2.2.2.2.1 ≤ 1048576
theorem kZ (a1 : Ty.El (tI)) (a2 : Ty.El (tI)) (a3 : Ty.El (tI))  : Wp (qO (a1, a2, a3, ())) (fun _ => True) := by
 unfold qO
 try dsimp only
 repeat' (first
  | with_reducible exact trivial
  | assumption
  | contradiction
  | with_reducible refine zB ?_
  | with_reducible refine yD ?_ ?_ (fun y _ _ => ?_)
  | with_reducible refine j3 ?_ ?_ (fun y _ _ => ?_)
  | with_reducible refine jN (fun _ => ?_) (fun _ => ?_)
  | with_reducible refine zI (fun _ => ?_) (fun _ => ?_)
  | with_reducible refine zG (fun _ => ?_) (fun _ => ?_)
  | with_reducible refine qJ ?_
  | with_reducible refine wA (fun s _ _ => ?_) (fun s _ _ => ?_)
  | simp only [jH ‹_[_]? = some _›, Option.bind_some]
  | with_reducible refine x3 ?_
  | with_reducible refine zC ?_
  | with_reducible refine e2l ?_
  | with_reducible refine e2r ?_
  | exact zD (by omega) (by omega)
  | omega
  | (rw [zD (by omega) (by omega)]; omega)
  | (simp only [beq_iff_eq] at *; omega)
  | (simp only [List.length_cons, List.length_nil] at *; exact zD (by omega) (by omega)))
theorem u7 (a1 : Ty.El (zA)) (a2 : Ty.El (.bool)) (a3 : Ty.El (.bool)) (a4 : Ty.El (.bool)) (h0 : RtS a1) : Wp (w6 (a1, a2, a3, a4, ())) (fun _ => True) := by
 have hh0 := h0
 obtain ⟨p01, p02⟩ := hh0
 unfold w6
 try dsimp only
 repeat' (first
  | with_reducible exact trivial
  | assumption
  | contradiction
  | with_reducible refine zB ?_
  | with_reducible refine yD ?_ ?_ (fun y _ _ => ?_)
  | with_reducible refine j3 ?_ ?_ (fun y _ _ => ?_)
  | with_reducible refine jN (fun _ => ?_) (fun _ => ?_)
  | with_reducible refine zI (fun _ => ?_) (fun _ => ?_)
  | with_reducible refine zG (fun _ => ?_) (fun _ => ?_)
  | with_reducible refine qJ ?_
  | with_reducible refine wA (fun s _ _ => ?_) (fun s _ _ => ?_)
  | simp only [jH ‹_[_]? = some _›, Option.bind_some]
  | with_reducible refine x3 ?_
  | with_reducible refine zC ?_
  | with_reducible refine e2l ?_
  | with_reducible refine e2r ?_
  | exact zD (by omega) (by omega)
  | omega
  | (rw [zD (by omega) (by omega)]; omega)
  | (simp only [beq_iff_eq] at *; omega)
  | (simp only [List.length_cons, List.length_nil] at *; exact zD (by omega) (by omega)))
theorem zIG (a1 : Ty.El (z1)) (a2 : Ty.El (z1))  : Wp (kF (a1, a2, ())) (fun _ => True) := by
 unfold kF
 try dsimp only
 repeat' (first
  | with_reducible exact trivial
  | assumption
  | contradiction
  | with_reducible refine zB ?_
  | with_reducible refine yD ?_ ?_ (fun y _ _ => ?_)
  | with_reducible refine j3 ?_ ?_ (fun y _ _ => ?_)
  | with_reducible refine jN (fun _ => ?_) (fun _ => ?_)
  | with_reducible refine zI (fun _ => ?_) (fun _ => ?_)
  | with_reducible refine zG (fun _ => ?_) (fun _ => ?_)
  | with_reducible refine qJ ?_
  | with_reducible refine wA (fun s _ _ => ?_) (fun s _ _ => ?_)
  | simp only [jH ‹_[_]? = some _›, Option.bind_some]
  | with_reducible refine x3 ?_
  | with_reducible refine zC ?_
  | with_reducible refine e2l ?_
  | with_reducible refine e2r ?_
  | exact zD (by omega) (by omega)
  | omega
  | (rw [zD (by omega) (by omega)]; omega)
  | (simp only [beq_iff_eq] at *; omega)
  | (simp only [List.length_cons, List.length_nil] at *; exact zD (by omega) (by omega)))
theorem k6 (a1 : Ty.El (.sl z1)) (a2 : Ty.El (.bool)) (h0 : List.length a1 ≤ 1048576) : Wp (vG (a1, a2, ())) (fun _ => True) := by
 unfold vG
 try dsimp only
 repeat' (first
  | with_reducible exact trivial
  | assumption
  | contradiction
  | with_reducible refine zB ?_
  | with_reducible refine (zIG _ _).mono (fun r _ => ?_)
  | with_reducible refine yD ?_ ?_ (fun y _ _ => ?_)
  | with_reducible refine j3 ?_ ?_ (fun y _ _ => ?_)
  | with_reducible refine jN (fun _ => ?_) (fun _ => ?_)
  | with_reducible refine zI (fun _ => ?_) (fun _ => ?_)
  | with_reducible refine zG (fun _ => ?_) (fun _ => ?_)
  | with_reducible refine qJ ?_
  | with_reducible refine wA (fun s _ _ => ?_) (fun s _ _ => ?_)
  | simp only [jH ‹_[_]? = some _›, Option.bind_some]
  | with_reducible refine x3 ?_
  | with_reducible refine zC ?_
  | with_reducible refine e2l ?_
  | with_reducible refine e2r ?_
  | exact zD (by omega) (by omega)
  | omega
  | (rw [zD (by omega) (by omega)]; omega)
  | (simp only [beq_iff_eq] at *; omega)
  | (simp only [List.length_cons, List.length_nil] at *; exact zD (by omega) (by omega)))
theorem zFk (a1 : Ty.El (zA)) (h0 : RtS a1) : Wp (yL (a1, ())) (fun _ => True) := by
 have hh0 := h0
 obtain ⟨p01, p02⟩ := hh0
 unfold yL
 try dsimp only
 repeat' (first
  | with_reducible exact trivial
  | assumption
  | contradiction
  | with_reducible refine zB ?_
  | with_reducible refine (kZ _ _ _).mono (fun r _ => ?_)
  | with_reducible refine (u7 _ _ _ _ ?_).mono (fun r _ => ?_)
  | with_reducible refine (k6 _ _ ?_).mono (fun r _ => ?_)
  | with_reducible refine yD ?_ ?_ (fun y _ _ => ?_)
  | with_reducible refine j3 ?_ ?_ (fun y _ _ => ?_)
  | with_reducible refine jN (fun _ => ?_) (fun _ => ?_)
  | with_reducible refine zI (fun _ => ?_) (fun _ => ?_)
  | with_reducible refine zG (fun _ => ?_) (fun _ => ?_)
  | with_reducible refine qJ ?_
  | with_reducible refine wA (fun s _ _ => ?_) (fun s _ _ => ?_)
  | simp only [jH ‹_[_]? = some _›, Option.bind_some]
  | with_reducible refine x3 ?_
  | with_reducible refine zC ?_
  | with_reducible refine e2l ?_
  | with_reducible refine e2r ?_
  | exact zD (by omega) (by omega)
  | omega
  | (rw [zD (by omega) (by omega)]; omega)
  | (simp only [beq_iff_eq] at *; omega)
  | (simp only [List.length_cons, List.length_nil] at *; exact zD (by omega) (by omega)))
theorem zDz (a1 : Ty.El (zA)) (h0 : RtS a1) : Wp (v2 (a1, ())) (fun _ => True) := by
 have hh0 := h0
 obtain ⟨p01, p02⟩ := hh0
 unfold v2
 try dsimp only
 repeat' (first
  | with_reducible exact trivial
  | assumption
  | contradiction
  | with_reducible refine zB ?_
  | with_reducible refine (kZ _ _ _).mono (fun r _ => ?_)
  | with_reducible refine (u7 _ _ _ _ ?_).mono (fun r _ => ?_)
  | with_reducible refine (k6 _ _ ?_).mono (fun r _ => ?_)
  | with_reducible refine yD ?_ ?_ (fun y _ _ => ?_)
  | with_reducible refine j3 ?_ ?_ (fun y _ _ => ?_)
  | with_reducible refine jN (fun _ => ?_) (fun _ => ?_)
  | with_reducible refine zI (fun _ => ?_) (fun _ => ?_)
  | with_reducible refine zG (fun _ => ?_) (fun _ => ?_)
  | with_reducible refine qJ ?_
  | with_reducible refine wA (fun s _ _ => ?_) (fun s _ _ => ?_)
  | simp only [jH ‹_[_]? = some _›, Option.bind_some]
  | with_reducible refine x3 ?_
  | with_reducible refine zC ?_
  | with_reducible refine e2l ?_
  | with_reducible refine e2r ?_
  | exact zD (by omega) (by omega)
  | omega
  | (rw [zD (by omega) (by omega)]; omega)
  | (simp only [beq_iff_eq] at *; omega)
  | (simp only [List.length_cons, List.length_nil] at *; exact zD (by omega) (by omega)))
theorem zDL (a1 : Ty.El (zA)) (h0 : RtS a1) : Wp (wS (a1, ())) (fun _ => True) := by
 have hh0 := h0
 obtain ⟨p01, p02⟩ := hh0
 unfold wS
 try dsimp only
 repeat' (first
  | with_reducible exact trivial
  | assumption
  | contradiction
  | with_reducible refine zB ?_
  | with_reducible refine (kZ _ _ _).mono (fun r _ => ?_)
  | with_reducible refine (u7 _ _ _ _ ?_).mono (fun r _ => ?_)
  | with_reducible refine (k6 _ _ ?_).mono (fun r _ => ?_)
  | with_reducible refine yD ?_ ?_ (fun y _ _ => ?_)
  | with_reducible refine j3 ?_ ?_ (fun y _ _ => ?_)
  | with_reducible refine jN (fun _ => ?_) (fun _ => ?_)
  | with_reducible refine zI (fun _ => ?_) (fun _ => ?_)
  | with_reducible refine zG (fun _ => ?_) (fun _ => ?_)
  | with_reducible refine qJ ?_
  | with_reducible refine wA (fun s _ _ => ?_) (fun s _ _ => ?_)
  | simp only [jH ‹_[_]? = some _›, Option.bind_some]
  | with_reducible refine x3 ?_
  | with_reducible refine zC ?_
  | with_reducible refine e2l ?_
  | with_reducible refine e2r ?_
  | exact zD (by omega) (by omega)
  | omega
  | (rw [zD (by omega) (by omega)]; omega)
  | (simp only [beq_iff_eq] at *; omega)
  | (simp only [List.length_cons, List.length_nil] at *; exact zD (by omega) (by omega)))
theorem zGV (a1 : Ty.El (zA)) (h0 : RtS a1) : Wp (zAr (a1, ())) (fun _ => True) := by
 have hh0 := h0
 obtain ⟨p01, p02⟩ := hh0
 unfold zAr
 try dsimp only
 repeat' (first
  | with_reducible exact trivial
  | assumption
  | contradiction
  | with_reducible refine zB ?_
  | with_reducible refine (kZ _ _ _).mono (fun r _ => ?_)
  | with_reducible refine (u7 _ _ _ _ ?_).mono (fun r _ => ?_)
  | with_reducible refine (k6 _ _ ?_).mono (fun r _ => ?_)
  | with_reducible refine yD ?_ ?_ (fun y _ _ => ?_)
  | with_reducible refine j3 ?_ ?_ (fun y _ _ => ?_)
  | with_reducible refine jN (fun _ => ?_) (fun _ => ?_)
  | with_reducible refine zI (fun _ => ?_) (fun _ => ?_)
  | with_reducible refine zG (fun _ => ?_) (fun _ => ?_)
  | with_reducible refine qJ ?_
  | with_reducible refine wA (fun s _ _ => ?_) (fun s _ _ => ?_)
  | simp only [jH ‹_[_]? = some _›, Option.bind_some]
  | with_reducible refine x3 ?_
  | with_reducible refine zC ?_
  | with_reducible refine e2l ?_
  | with_reducible refine e2r ?_
  | exact zD (by omega) (by omega)
  | omega
  | (rw [zD (by omega) (by omega)]; omega)
  | (simp only [beq_iff_eq] at *; omega)
  | (simp only [List.length_cons, List.length_nil] at *; exact zD (by omega) (by omega)))
theorem zLB (a1 : Ty.El (zA)) (h0 : RtS a1) : Wp (w7 (a1, ())) (fun _ => True) := by
 have hh0 := h0
 obtain ⟨p01, p02⟩ := hh0
 unfold w7
 try dsimp only
 repeat' (first
  | with_reducible exact trivial
  | assumption
  | contradiction
  | with_reducible refine zB ?_
  | with_reducible refine (yQ _).mono (fun r _ => ?_)
  | with_reducible refine (kZ _ _ _).mono (fun r _ => ?_)
  | with_reducible refine (u7 _ _ _ _ ?_).mono (fun r _ => ?_)
  | with_reducible refine (k6 _ _ ?_).mono (fun r _ => ?_)
  | with_reducible refine (zFk _ ?_).mono (fun r _ => ?_)
  | with_reducible refine (zDz _ ?_).mono (fun r _ => ?_)
  | with_reducible refine (zDL _ ?_).mono (fun r _ => ?_)
  | with_reducible refine (zGV _ ?_).mono (fun r _ => ?_)
  | with_reducible refine yD ?_ ?_ (fun y _ _ => ?_)
  | with_reducible refine j3 ?_ ?_ (fun y _ _ => ?_)
  | with_reducible refine jN (fun _ => ?_) (fun _ => ?_)
  | with_reducible refine zI (fun _ => ?_) (fun _ => ?_)
  | with_reducible refine zG (fun _ => ?_) (fun _ => ?_)
  | with_reducible refine qJ ?_
  | with_reducible refine wA (fun s _ _ => ?_) (fun s _ _ => ?_)
  | simp only [jH ‹_[_]? = some _›, Option.bind_some]
  | with_reducible refine x3 ?_
  | with_reducible refine zC ?_
  | with_reducible refine e2l ?_
  | with_reducible refine e2r ?_
  | exact zD (by omega) (by omega)
  | omega
  | (rw [zD (by omega) (by omega)]; omega)
  | (simp only [beq_iff_eq] at *; omega)
  | (simp only [List.length_cons, List.length_nil] at *; exact zD (by omega) (by omega)))
end Go.Ve

namespace Go.Ve
open Go
set_option maxRecDepth 1000000
set_option maxHeartbeats 4000000
theorem zVv {α ρ : Type} {xs ys : List α} {body : Int → Option (Int ⊕ (Unit ⊕ ρ))} {K : Unit → Option ρ} {Q : ρ → Prop} (hl : xs.length < 4611686018427387904) (he : xs.length = ys.length)
  (step : ∀ (i : Nat) x y, xs[i]? = some x → ys[i]? = some y → Wp (body (i : Int)) (j7 (fun s' => s' = IntKind.wrap IntKind.i64 ((i : Int) + 1) ∧ x = y) (j7 (fun _ => False) Q))) (fin : xs = ys → Wp (K ()) Q) :
  Wp (qV (zN (fun s : Int => bif decide (s < (xs.length : Int)) then body s else some (Sum.inr (Sum.inl ()))) (0 : Int)) K) Q := by
 refine zAQ hl (fun i => ∀ j, j < i → xs[j]? = ys[j]?) (fun j hj => by omega) ?_ (fun h => fin ?_)
 ·intro i x hx hj
  have hi := (List.getElem?_eq_some_iff.1 hx).1
  have hy : ys[i]? = some (ys[i]'(by omega)) := by simp
  refine (step i x _ hx hy).mono ?_
  intro o ho
  cases o with
  | inl s' =>
   refine ⟨ho.1, ?_⟩
   intro j hj'
   rcases Nat.lt_or_ge j i with h' | h'
   ·exact hj j h'
   ·have : j = i := by omega
    subst this
    rw [hx, hy, ho.2]
  | inr o => exact ho
 ·refine List.ext_getElem? (fun j => ?_)
  rcases Nat.lt_or_ge j xs.length with h' | h'
  ·exact h j h'
  ·rw [List.getElem?_eq_none h', List.getElem?_eq_none (by omega)]
structure RtB (x : Ty.El zA) : Prop where
 path : x.2.2.2.2.2.2.2.2.1.length ≤ 1152921504606846976
 hops : x.2.2.2.2.2.2.2.2.2.2.2.1.length ≤ 1152921504606846976
theorem RtS.b {x : Ty.El zA} (h : RtS x) : RtB x := ⟨Nat.le_trans h.path (by omega), Nat.le_trans h.hops (by omega)⟩
theorem zUC (a b : Ty.El zA) (ha : RtB a) : Wp (zEs (a, b, ())) (fun r => r = true ↔ a = b) := by
 obtain ⟨hp, hh⟩ := ha
 obtain ⟨⟨pa, pl, ⟨⟩⟩, pr, cl, ad, me, inn, tg, pf, path, fr, nx, hops, dc, ⟨⟩⟩ := a
 obtain ⟨⟨pa', pl', ⟨⟩⟩, pr', cl', ad', me', inn', tg', pf', path', fr', nx', hops', dc', ⟨⟩⟩ := b
 simp only at hp hh
 unfold zEs
 dsimp only
 refine zC ((show Wp _ (fun s : Bool => (s = true → ¬ (pa = pa' ∧ pl = pl' ∧ pr = pr' ∧ cl = cl' ∧ ad = ad' ∧ me = me' ∧ inn = inn' ∧ tg = tg' ∧ pf = pf' ∧ fr = fr' ∧ nx = nx' ∧ dc = dc' ∧ path.length = path'.length ∧ hops.length = hops'.length)) ∧
  (s = false → pa = pa' ∧ pl = pl' ∧ pr = pr' ∧ cl = cl' ∧ ad = ad' ∧ me = me' ∧ inn = inn' ∧ tg = tg' ∧ pf = pf' ∧ fr = fr' ∧ nx = nx' ∧ dc = dc' ∧ path.length = path'.length ∧ hops.length = hops'.length)) from ?_).mono ?_)
 ·iterate 12 (refine zG (fun h => zB ⟨fun _ e => ?_, fun h => by cases h⟩) (fun _ => ?_); · simp_all)
  refine zB ⟨fun h e => ?_, fun h => ?_⟩
  ·simp_all
  ·simp_all <;> omega
 intro s hs
 refine zG (fun h => zB ?_) (fun h => ?_)
 ·have h1 := hs.1 h
  constructor
  ·intro h'; cases h'
  ·intro e
   exfalso
   apply h1
   simp only [Prod.mk.injEq] at e
   obtain ⟨⟨e1, e2, _⟩, e3, e4, e5, e6, e7, e8, e9, e10, e11, e12, e13, e14, _⟩ := e
   exact ⟨e1, e2, e3, e4, e5, e6, e7, e8, e9, e11, e12, e14, by rw [e10], by rw [e13]⟩
 obtain ⟨rfl, rfl, rfl, rfl, rfl, rfl, rfl, rfl, rfl, rfl, rfl, rfl, l1, l2⟩ := hs.2 h
 refine zVv (xs := path) (ys := path') (by omega) l1 ?_ (fun e1 => ?_)
 ·intro i x y hx hy
  simp only [zJ hx, zJ hy, Option.bind_some]
  refine zG (fun h => zB (e2r (e2r ?_))) (fun h => zB (e2l ⟨rfl, ?_⟩))
  ·constructor
   ·intro h'; cases h'
   ·intro e
    exfalso
    simp only [Prod.mk.injEq] at e
    obtain ⟨_, _, _, _, _, _, _, _, e10, _⟩ := e
    rw [e10, hy] at hx
    cases hx
    simp at h
  ·simpa using h
 subst e1
 refine zVv (xs := hops) (ys := hops') (by omega) l2 ?_ (fun e1 => ?_)
 ·intro i x y hx hy
  simp only [zJ hx, zJ hy, Option.bind_some]
  refine zG (fun h => zB (e2r (e2r ?_))) (fun h => zB (e2l ⟨rfl, ?_⟩))
  ·constructor
   ·intro h'; cases h'
   ·intro e
    exfalso
    simp only [Prod.mk.injEq] at e
    obtain ⟨_, _, _, _, _, _, _, _, _, _, _, e10, _⟩ := e
    rw [e10, hy] at hx
    cases hx
    simp at h
  ·exact zEw (by simpa using h)
 subst e1
 exact zB ⟨fun _ => rfl, fun _ => rfl⟩
def zAg (p q : Ty.El zF) : Bool := p.1 == q.1 && (p.2.1 == q.2.1 && true)
theorem uF {p q : Ty.El zF} : zAg p q = true ↔ p = q := ⟨fun h => zEw h, fun h => by subst h; simp [zAg]⟩
theorem zEK {α β : Type} {f : β → α → β} {b : β} {xs : List α} {i : Nat} {x : α} (h : xs[i]? = some x) : (xs.take (i + 1)).foldl f b = f ((xs.take i).foldl f b) x := by
 rw [List.take_add_one, h]
 simp
end Go.Ve

namespace Go.Ve
open Go
set_option maxRecDepth 1000000
set_option maxHeartbeats 4000000
def zFx (e y : Ty.El zK) : Bool := y.1 == e.1 && (y.2.1 == e.2.1 && true)
theorem zRY {e y : Ty.El zK} : zFx e y = true ↔ y = e := ⟨fun h => zEw h, fun h => by subst h; simp [zFx]⟩
def uK (v : Ty.El zS) (r i : Int) : Int := zBE (fun d : Ty.El kM => d.2.2.1.any (zFx (r, i, ()))) v.2.1.1
def zGJ (v : Ty.El zS) (r i : Int) : Int := zBE (fun l : Int => decide (uK v r i ≥ 0) && l == uK v r i) v.2.1.2.1
def upB (v : Ty.El zS) (r i : Int) : Bool := decide (0 ≤ uK v r i) && v.2.2.1.all (fun x : Int => !(x == zGJ v r i))
structure zAM (v : Ty.El zS) : Prop where
 rs : v.1.1.length ≤ 9
 sm : ∀ y, y ∈ v.1.1 → SmR y
 doms : v.2.1.1.length ≤ 360
 ends : ∀ d, d ∈ v.2.1.1 → d.2.2.1.length ≤ 360
 links : v.2.1.2.1.length ≤ 12
 link0 : ∀ l, l ∈ v.2.1.2.1 → (0 : Int) ≤ l
 down : v.2.2.1.length ≤ 2
 down0 : ∀ l, l ∈ v.2.2.1 → (0 : Int) ≤ l
theorem x8.s {n : Ty.El zT} {d : List Int} {v : Ty.El zS} (h : x8 n d v) : zAM v where
 rs := by rw [h.net]; exact h.rs
 sm := by rw [h.net]; exact h.sm
 doms := h.topo.doms
 ends := fun d hd => (h.topo.ends d hd).1
 links := h.topo.links
 link0 := fun l hl => (h.topo.link l hl).1
 down := by rw [h.dn]; exact h.down.len
 down0 := by rw [h.dn]; exact fun l hl => (h.down.lo l hl).1
theorem zGc {α : Type} {p : α → Bool} {xs : List α} : zBE p xs ≥ 0 ↔ xs.any p = true := by
 rcases zNx p xs with ⟨h, h2⟩ | ⟨i, x, h, h2, h3, _⟩
 ·rw [h]
  constructor
  ·intro h'; omega
  ·intro h'
   obtain ⟨x, hx, hp⟩ := List.any_eq_true.1 h'
   rw [h2 x hx] at hp
   cases hp
 ·rw [h]
  exact ⟨fun _ => List.any_eq_true.2 ⟨x, List.mem_of_getElem? h2, h3⟩, fun _ => by omega⟩
theorem zDt {α : Type} {p : α → Bool} {xs : List α} (h : 0 ≤ zBE p xs) : ∃ x, xs[(zBE p xs).toNat]? = some x ∧ p x = true := by
 rcases zNx p xs with ⟨h1, h2⟩ | ⟨i, x, h1, h2, h3, _⟩
 ·omega
 ·rw [h1]; exact ⟨x, by simpa using h2, h3⟩
theorem zFl (l : List (Ty.El zK)) (e : Ty.El zK) (hl : l.length ≤ 1048576) : Wp (xK (l, e, ())) (fun k => k = zBE (zFx e) l) := by
 unfold xK
 dsimp only
 refine zBG (p := zFx e) (by omega) ?_ rfl
 intro i x hx
 simp only [zJ hx, Option.bind_some]
 have : (e.1 == x.1 && (e.2.1 == x.2.1 && true)) = zFx e x := by
  unfold zFx
  rw [Bool.eq_iff_iff]
  simp only [Bool.and_true, Bool.and_eq_true, beq_iff_eq]
  exact ⟨fun h => ⟨h.1.symm, h.2.symm⟩, fun h => ⟨h.1.symm, h.2.symm⟩⟩
 rw [this]
 cases zFx e x <;> rfl
theorem zDB (l : List (Ty.El zK)) (e : Ty.El zK) (hl : l.length ≤ 1048576) : Wp (kR (l, e, ())) (fun b => b = l.any (zFx e)) := by
 unfold kR
 dsimp only
 refine zC ((zFl l e hl).mono (fun k hk => zB ?_))
 subst hk
 rw [Bool.eq_iff_iff, decide_eq_true_eq]
 exact zGc
theorem zBx (v : Ty.El zS) (r i : Int) (hv : zAM v) : Wp (zAA (v, r, i, ())) (fun k => k = uK v r i) := by
 unfold zAA
 dsimp only
 have := hv.doms
 refine zBG (p := fun d : Ty.El kM => d.2.2.1.any (zFx (r, i, ()))) (by omega) ?_ rfl
 intro k x hx
 simp only [zJ hx, Option.bind_some]
 have := hv.ends x (List.mem_of_getElem? hx)
 have h1 := wD (zDB x.2.2.1 (r, i, ()) (by omega))
 refine (congrArg (fun m => Option.bind m _) h1).trans ?_
 simp only [Option.bind_some]
 cases List.any x.2.2.1 (zFx (r, i, ())) <;> rfl
theorem zAX (v : Ty.El zS) (r i : Int) (hv : zAM v) : Wp (xP (v, r, i, ())) (fun k => k = uK v r i) := by
 unfold xP
 dsimp only
 have := hv.doms
 refine zAQ (by omega) (fun k => ∀ j y, j < k → v.2.1.1[j]? = some y → y.2.2.1.any (zFx (r, i, ())) = false) (fun j y hj => by omega) ?_ ?_
 ·intro k x hx hj
  have hends := hv.ends x (List.mem_of_getElem? hx)
  simp only [zJ hx, Option.bind_some]
  refine zAQ (xs := x.2.2.1) (by omega) (fun m => ∀ y, y ∈ x.2.2.1.take m → zFx (r, i, ()) y = false) (fun y hy => by simp at hy) ?_ ?_
  ·intro m y hy hm
   simp only [zJ hy, Option.bind_some]
   refine zG (fun h => zB (e2r (e2r (e2r (e2r ?_))))) (fun h => zB (e2l ⟨rfl, ?_⟩))
   ·have h1 : x.2.2.1.any (zFx (r, i, ())) = true := List.any_eq_true.2 ⟨y, List.mem_of_getElem? hy, h⟩
    exact (zUf (p := fun d : Ty.El kM => d.2.2.1.any (zFx (r, i, ()))) hx h1 hj).symm
   ·intro z hz
    rw [List.take_add_one, hy] at hz
    simp only [Option.toList_some, List.mem_append, List.mem_singleton] at hz
    rcases hz with hz | rfl
    ·exact hm z hz
    ·exact h
  ·intro hm
   rw [List.take_length] at hm
   refine zB (e2l ⟨rfl, ?_⟩)
   intro j y hj' hy
   rcases Nat.lt_or_ge j k with h' | h'
   ·exact hj j y h' hy
   ·have : j = k := by omega
    subst this
    rw [hx] at hy
    cases hy
    rw [Bool.eq_false_iff]
    intro h
    obtain ⟨z, hz, hz2⟩ := List.any_eq_true.1 h
    rw [hm z hz] at hz2
    cases hz2
 ·intro hj
  refine zB (zKG ?_).symm
  intro x hx
  obtain ⟨j, hjl, rfl⟩ := List.getElem_of_mem hx
  exact hj j _ hjl (by simp [hjl])
theorem zBq (l : List Int) (e : Int) (hl : l.length ≤ 1048576) : Wp (k9 (l, e, ())) (fun k => k = zBE (fun x => x == e) l) := by
 unfold k9
 dsimp only
 refine zBG (p := fun x : Int => x == e) (by omega) ?_ rfl
 intro i (x : Int) hx
 simp only [zJ hx, Option.bind_some]
 have : (e == x) = (x == e) := by rw [Bool.eq_iff_iff, beq_iff_eq, beq_iff_eq]; exact eq_comm
 rw [this]
 cases x == e <;> rfl
theorem zDA (l : List Int) (e : Int) (hl : l.length ≤ 1048576) : Wp (kQ (l, e, ())) (fun b => b = l.any (fun x => x == e)) := by
 unfold kQ
 dsimp only
 refine zC ((zBq l e hl).mono (fun k hk => zB ?_))
 subst hk
 rw [Bool.eq_iff_iff, decide_eq_true_eq]
 exact zGc
theorem zME (v : Ty.El zS) (r i : Int) (hv : zAM v) : Wp (zGC (v, r, i, ())) (fun k => k = zGJ v r i) := by
 unfold zGC
 dsimp only
 refine zC ((zBx v r i hv).mono (fun k hk => ?_))
 subst hk
 refine zI (fun h => zB ?_) (fun h => ?_)
 ·unfold zGJ
  rw [zKG]
  intro x _
  have : ¬ (uK v r i ≥ 0) := by omega
  simp [this]
 ·have := hv.links
  refine zC ((zBq _ _ (by omega)).mono (fun k hk => zB ?_))
  rw [hk]
  unfold zGJ
  have h2 : uK v r i ≥ 0 := by omega
  congr 1
  funext l
  simp [h2]
theorem zLE (v : Ty.El zS) (r i : Int) (hv : zAM v) : Wp (zEu (v, r, i, ())) (fun k => k = zGJ v r i) := by
 unfold zEu
 dsimp only
 refine zC ((zAX v r i hv).mono (fun k hk => ?_))
 subst hk
 have := hv.links
 refine zBG (p := fun l : Int => decide (uK v r i ≥ 0) && l == uK v r i) (by omega) ?_ rfl
 intro i' (x : Int) hx
 simp only [zJ hx, Option.bind_some]
 cases decide (uK v r i ≥ 0) <;> cases x == uK v r i <;> rfl
theorem zSr {α : Type} {p : α → Bool} (l : List α) : (!l.any p) = l.all (fun x => !p x) := by
 induction l with
 | nil => rfl
 | cons x l ih => simp [← ih]
theorem zIP (v : Ty.El zS) (r i : Int) (hv : zAM v) : Wp (zGB (v, r, i, ())) (fun b => b = upB v r i) := by
 unfold zGB
 dsimp only
 refine zC ((zBx v r i hv).mono (fun k hk => ?_))
 subst hk
 refine zI (fun h => zB ?_) (fun h => ?_)
 ·unfold upB
  have : ¬ (0 ≤ uK v r i) := by omega
  simp [this]
 ·refine zC ((zME v r i hv).mono (fun k hk => ?_))
  subst hk
  have h0 : 0 ≤ uK v r i := by omega
  have hd := hv.down
  refine zC (zI (fun h => zB (zB ?_)) (fun h => ?_))
  ·unfold upB
   simp only [h0, decide_true, Bool.true_and]
   symm
   rw [List.all_eq_true]
   intro x hx
   have := hv.down0 x hx
   simp only [Bool.not_eq_true', beq_eq_false_iff_ne]
   omega
  ·refine zC ((zDA _ _ (by omega)).mono (fun b hb => zB (zB ?_)))
   subst hb
   unfold upB
   simp only [h0, decide_true, Bool.true_and]
   exact zSr _
theorem zHl (v : Ty.El zS) (r i : Int) (hv : zAM v) : Wp (zFW (v, r, i, ())) (fun b => b = upB v r i) := by
 unfold zFW
 dsimp only
 refine zC ((zAX v r i hv).mono (fun k hk => ?_))
 subst hk
 refine zI (fun h => zB ?_) (fun h => ?_)
 ·unfold upB
  have : ¬ (0 ≤ uK v r i) := by omega
  simp [this]
 ·refine zC ((zLE v r i hv).mono (fun k hk => ?_))
  subst hk
  have h0 : 0 ≤ uK v r i := by omega
  have hd := hv.down
  refine zCu (P := fun x : Int => (x == zGJ v r i) = false) (by omega) ?_ (fun hall => zB ?_)
  ·intro i' (x : Int) hx
   simp only [zJ hx, Option.bind_some]
   refine zG (fun h => zB (e2r (e2r ?_))) (fun h => zB (e2l ⟨rfl, h⟩))
   unfold upB
   simp only [h0, decide_true, Bool.true_and]
   symm
   rw [Bool.eq_false_iff]
   intro hh
   have := List.all_eq_true.1 hh x (List.mem_of_getElem? hx)
   simp [h] at this
  ·unfold upB
   simp only [h0, decide_true, Bool.true_and]
   symm
   rw [List.all_eq_true]
   intro x hx
   simp [hall x hx]
def zUa (r : Ty.El zH) (nm : Ty.El .str) : Int := zBE (fun x : Ty.El qA => x.1 == nm) r.2.2.1
theorem zGZ (r : Ty.El zH) (nm : Ty.El .str) (hr : SmR r) : Wp (uC (r, nm, ())) (fun k => k = zUa r nm) := by
 unfold uC
 dsimp only
 have := hr.i1
 refine zBG (p := fun x : Ty.El qA => x.1 == nm) (by omega) ?_ rfl
 intro i x hx
 simp only [zJ hx, Option.bind_some]
 cases x.1 == nm <;> rfl
end Go.Ve

namespace Go.Ve
open Go
set_option maxRecDepth 1000000
set_option maxHeartbeats 4000000
def wI (n : Int) : Nat := min n.toNat 32
def zCb (k : Nat) : BitVec 32 := BitVec.allOnes 32 <<< (32 - k)
theorem zPu (n : Int) : wI n ≤ 32 := Nat.min_le_right _ _
theorem zVu {x : Int} (h0 : 0 ≤ x) (h1 : x < 4294967296) : IntKind.wrap .u32 x = x := by
 have e1 : ((2 : Int) ^ IntKind.bits .u32) = 4294967296 := by decide
 simp only [IntKind.wrap, IntKind.signed, Bool.false_and, Bool.false_eq_true, if_false, e1]
 omega
theorem zPD (x : BitVec 32) : IntKind.wrap .u32 (x.toNat : Int) = (x.toNat : Int) := zVu (by omega) (by have := x.isLt; omega)
theorem zJq (x : BitVec 32) : BitVec.ofInt 32 (x.toNat : Int) = x := by
 rw [BitVec.ofInt_natCast, BitVec.ofNat_toNat, BitVec.setWidth_eq]
theorem zUx : ∀ i, i < 32 → zCb i ||| BitVec.ofInt 32 (IntKind.wrap .u32 (1 * 2 ^ min (31 - i) 32)) = zCb (i + 1) := by decide +kernel
theorem zUQ : zCb 0 = 0#32 := by decide +kernel
theorem zQF : ∀ k, k < 33 → IntKind.wrap .u32 (4294967295 * 2 ^ min (32 - k) 32) = ((zCb k).toNat : Int) := by decide +kernel
theorem zCA (n : Int) : Wp (zAF (n, ())) (fun m => m = ((zCb (wI n)).toNat : Int)) := by
 unfold zAF
 dsimp only
 refine zC ((zQJ (n := 32) (by omega) (fun i (m : Int) => m = ((zCb (min i (wI n))).toNat : Int)) (by simp [zUQ]) (fun i g _ => by simp) ?_ (Q := fun m => m = ((zCb (wI n)).toNat : Int)) (fun g hg => by
  rw [hg, Nat.min_eq_right (zPu n)])).mono (fun m hm => zB hm))
 intro i g hi hg
 subst hg
 refine zI (fun h => ?_) (fun h => zB ?_)
 ·have h : (i : Int) < n := h
  have hk : i < wI n := by unfold wI; omega
  refine zI (fun _ => zB ?_) (fun h' => absurd ?_ h')
  ·have e1 : min i (wI n) = i := by omega
   have e2 : min (i + 1) (wI n) = i + 1 := by omega
   rw [e1, e2]
   dsimp only
   rw [zD (by omega) (by omega), zIA (by omega) (by omega), show ((31 : Int) - (i : Int)).toNat = 31 - i by omega]
   change IntKind.wrap .u32 (((BitVec.ofInt 32 ((zCb i).toNat : Int) ||| BitVec.ofInt 32 (IntKind.wrap .u32 (1 * 2 ^ min (31 - i) 32))).toNat : Nat) : Int) = _
   rw [zJq, zUx i hi, zPD]
  ·simp only
   rw [zD (by omega) (by omega), zIA (by omega) (by omega)]
   omega
 ·have h : ¬ ((i : Int) < n) := h
  have hk : wI n ≤ i := by unfold wI; omega
  rw [Nat.min_eq_right hk, Nat.min_eq_right (by omega)]
theorem zR7 (n : Int) : (if (if (32 : Int) < n then (32 : Int) else n) > (0 : Int) then if (32 : Int) < n then (32 : Int) else n else (0 : Int)) = (wI n : Int) := by
 unfold wI
 split <;> split <;> omega
theorem zVh (n : Int) : (if (0 : Int) > if (32 : Int) < n then (32 : Int) else n then (0 : Int) else if (32 : Int) < n then (32 : Int) else n) = (wI n : Int) := by
 unfold wI
 split <;> split <;> omega
theorem zN0 (n : Int) : wI ((wI n : Nat) : Int) = wI n := by
 unfold wI
 omega
theorem zFR (n : Int) : zEc (n, ()) = some ((zCb (wI n)).toNat : Int) := by
 have hle := zPu n
 unfold zEc zC4
 simp only [zR7, Option.bind_some]
 rw [zD (by omega) (by omega)]
 have h0 : (0 : Int) ≤ 32 - ((wI n : Nat) : Int) := by omega
 simp only [h0, decide_true, cond_true]
 rw [show ((32 : Int) - ((wI n : Nat) : Int)).toNat = 32 - wI n by omega]
 exact congrArg some (zQF _ (by omega))
def zCN (a n : Int) : Ty.El zF := (((BitVec.ofInt 32 a &&& zCb (wI n)).toNat : Int), (wI n : Int), ())
def zCf (p : Ty.El zF) (a : Int) : Bool := (((BitVec.ofInt 32 a &&& zCb (wI p.2.1)).toNat : Nat) : Int) == p.1
theorem zQC (a : Int) (k : Nat) : IntKind.wrap .u32 (((BitVec.ofInt (IntKind.bits .u32) a &&& BitVec.ofInt (IntKind.bits .u32) ((zCb k).toNat : Int)).toNat : Nat) : Int) = ((BitVec.ofInt 32 a &&& zCb k).toNat : Int) := by
 change IntKind.wrap .u32 (((BitVec.ofInt 32 a &&& BitVec.ofInt 32 ((zCb k).toNat : Int)).toNat : Nat) : Int) = _
 rw [zJq, zPD]
theorem zIT (a n : Int) : zBl (a, n, ()) = some (zCN a n) := by
 refine wD ?_
 unfold zBl
 dsimp only
 refine zC (qD (zFR _) ?_)
 unfold zC4
 simp only [zR7, Option.bind_some]
 refine zB ?_
 unfold zCN
 rw [zQC]
theorem vU (a n : Int) : j5 (a, n, ()) = some (zCN a n) := by
 refine wD ?_
 unfold j5
 simp only [zVh]
 refine zC ((zCA _).mono (fun m hm => zB ?_))
 subst hm
 unfold zCN
 rw [zN0, zQC]
theorem zHU (p : Ty.El zF) (a : Int) : yE (p, a, ()) = some (zCf p a) := by
 refine wD ?_
 unfold yE
 dsimp only
 refine zC ((zCA _).mono (fun m hm => zB ?_))
 subst hm
 rw [zQC]
 rfl
theorem zHY (p : Ty.El zF) (a : Int) : zAo (p, a, ()) = some (zCf p a) := by
 refine wD ?_
 unfold zAo
 dsimp only
 refine zC (qD (zFR _) (zB ?_))
 rw [zQC]
 rfl
theorem zUP (a n : Int) : zCf (zCN a n) (zCN a n).1 = true := by
 unfold zCf zCN
 simp only [zN0, zJq]
 rw [BitVec.and_assoc, BitVec.and_self]
 simp
theorem zBy (p q : Ty.El zF) : vZ (p, q, ()) = some (decide (p.2.1 ≤ q.2.1) && zCf p q.1) := by
 refine wD ?_
 unfold vZ
 dsimp only
 refine zC (zG (fun h => zC (qD (zHU _ _) (zB (zB ?_)))) (fun h => zB (zB ?_))) <;> (rw [h]; rfl)
theorem zHT (p q : Ty.El zF) : kE (p, q, ()) = some ((decide (p.2.1 ≤ q.2.1) && zCf p q.1) || (decide (q.2.1 ≤ p.2.1) && zCf q p.1)) := by
 refine wD ?_
 unfold kE
 dsimp only
 refine zC (zC (qD (zBy _ _) (zG (fun h => zB (zB ?_)) (fun h => zC (qD (zBy _ _) (zB (zB ?_))))))) <;> (rw [h]; rfl)
def zHE (p : Ty.El zF) : Bool := decide (p.2.1 ≥ 0) && (decide (p.2.1 ≤ 32) && (BitVec.ofInt 32 p.1 &&& ~~~ zCb (wI p.2.1)) == 0#32)
theorem zE0 (p : Ty.El zF) : wF (p, ()) = some (zHE p) := by
 refine wD ?_
 unfold wF zHE
 dsimp only
 refine zC (zG (fun h => zG (fun h' => zC ((zCA _).mono (fun m hm => zB (zB ?_)))) (fun h' => zB (zB ?_))) (fun h => zB (zB ?_)))
 ·subst hm
  rw [h, h']
  simp only [Bool.true_and]
  change (IntKind.wrap .u32 (((BitVec.ofInt 32 p.1 &&& ~~~ BitVec.ofInt 32 ((zCb (wI p.2.1)).toNat : Int)).toNat : Nat) : Int) == (0 : Int)) = _
  rw [zJq, zPD, Bool.eq_iff_iff, beq_iff_eq, beq_iff_eq]
  constructor
  ·intro h
   apply BitVec.eq_of_toNat_eq
   simp only [BitVec.toNat_ofNat]
   omega
  ·intro h
   rw [h]; rfl
 ·rw [h, h']; rfl
 ·rw [h]; rfl
end Go.Ve

namespace Go.Ve
open Go
set_option maxRecDepth 1000000
set_option maxHeartbeats 4000000
section
variable {ρ : Type}
theorem zXb {n : Nat} {body : Int → Option (Int ⊕ (Unit ⊕ ρ))} {Q : Unit ⊕ ρ → Prop} (hl : n < 4611686018427387904) (J : Nat → Prop) (h0 : J 0)
  (step : ∀ i, i < n → J i → Wp (body (i : Int)) (j7 (fun s' => s' = IntKind.wrap IntKind.i64 ((i : Int) + 1) ∧ J (i + 1)) Q)) (fin : J n → Q (Sum.inl ())) :
  Wp (zN (fun s : Int => bif decide (s < (n : Int)) then body s else some (Sum.inr (Sum.inl ()))) (0 : Int)) Q := by
 refine j2 (fun (s : Int) => ∃ i : Nat, s = (i : Int) ∧ i ≤ n ∧ J i) (fun (s : Int) => ((n : Int) - s).toNat) ⟨(0 : Nat), rfl, Nat.zero_le _, h0⟩ ?_
 rintro s ⟨i, hi, hle, hj⟩
 subst hi
 refine zI ?_ ?_
 ·intro hc
  have hlt : i < n := by omega
  refine (step i hlt hj).mono ?_
  intro o ho
  cases o with
  | inl s' =>
   obtain ⟨rfl, h2⟩ := ho
   rw [zD (by omega) (by omega)]
   exact ⟨⟨i + 1, by omega, hlt, h2⟩, by omega⟩
  | inr o => exact ho
 ·intro hc
  have : i = n := by omega
  subst this
  exact zB (e2r (fin hj))
theorem zIB {n : Nat} {P : Nat → Prop} {body : Int → Option (Int ⊕ (Unit ⊕ ρ))} {Q : Unit ⊕ ρ → Prop} (hl : n < 4611686018427387904)
  (step : ∀ i, i < n → Wp (body (i : Int)) (j7 (fun s' => s' = IntKind.wrap IntKind.i64 ((i : Int) + 1) ∧ P i) Q)) (fin : (∀ i, i < n → P i) → Q (Sum.inl ())) :
  Wp (zN (fun s : Int => bif decide (s < (n : Int)) then body s else some (Sum.inr (Sum.inl ()))) (0 : Int)) Q := by
 refine zXb hl (fun i => ∀ j, j < i → P j) (fun j hj => by omega) ?_ fin
 intro i hi hj
 refine (step i hi).mono ?_
 intro o ho
 cases o with
 | inl s' =>
  refine ⟨ho.1, ?_⟩
  intro j hj'
  rcases Nat.lt_or_ge j i with h' | h'
  ·exact hj j h'
  ·have : j = i := by omega
   subst this
   exact ho.2
 | inr o => exact ho
end
theorem zXa {σ ρ : Type} {m : Option (σ ⊕ ρ)} {K : σ → Option ρ} {Q : ρ → Prop} (P : σ → Prop) (h : Wp m (j7 P Q)) (hK : ∀ s, P s → Wp (K s) Q) : Wp (qV m K) Q := by
 refine qJ (h.mono ?_)
 intro o ho
 cases o with
 | inl s => exact hK s ho
 | inr r => exact ho
theorem jT (a lo hi : Int) : zV (a, lo, hi, ()) = some (decide (lo ≤ a) && decide (a ≤ hi)) := by
 refine wD ?_
 unfold zV
 dsimp only
 refine zC (zG (fun h => zB (zB ?_)) (fun h => zB (zB ?_))) <;> (rw [h]; rfl)
theorem yH (a lo hi : Int) : qO (a, lo, hi, ()) = some (decide (lo ≤ a) && decide (a ≤ hi)) := by
 refine wD ?_
 unfold qO
 dsimp only
 refine zC (zG (fun h => zB (zB ?_)) (fun h => zB (zB ?_))) <;> (rw [h]; rfl)
def ovB (p q : Ty.El zF) : Bool := (decide (p.2.1 ≤ q.2.1) && zCf p q.1) || (decide (q.2.1 ≤ p.2.1) && zCf q p.1)
theorem zMV (a n : Int) : ovB (zCN a n) (zCN a n) = true := by
 unfold ovB
 rw [zUP]
 simp
structure zYf (l : List (Ty.El qA)) (i : Nat) (x : Ty.El qA) : Prop where
 name : ∀ j y, j < i → l[j]? = some y → y.1 ≠ x.1
 len : 0 ≤ x.2.2.1 ∧ x.2.2.1 ≤ 32
 addr : x.2.2.1 ≠ 0 → x.2.1 ≠ 0
 ls : x.2.2.2.2.2.1 = true → (0 ≤ x.2.2.2.2.2.2.1 ∧ x.2.2.2.2.2.2.1 ≤ 255) ∧ 1 ≤ x.2.2.2.2.2.2.2.1 ∧ x.2.2.2.2.2.2.2.1 ≤ 65535
 apart : ∀ j y, j < i → l[j]? = some y → x.2.2.1 ≠ 0 → y.2.2.1 ≠ 0 → ovB (zCN x.2.1 x.2.2.1) (zCN y.2.1 y.2.2.1) = false
def zYe (l : List (Ty.El qA)) : Prop := ∀ i x, l[i]? = some x → zYf l i x
theorem zN1 (l : List (Ty.El qA)) (h0 : l.length ≤ 20) : Wp (vT (l, ())) (fun e => e = 0 → zYe l ∧ l.length ≤ 8) := by
 unfold vT
 dsimp only
 refine zI (fun _ => zB (fun h => by cases h)) (fun h => ?_)
 refine zAQ (by omega) (fun i => ∀ m x, m < i → l[m]? = some x → zYf l m x) (fun m x hm => by omega) ?_ (fun hj => zB (fun _ => ⟨fun i x hx => hj i x (List.getElem?_eq_some_iff.1 hx).1 hx, by omega⟩))
 intro i x hx hj
 have hi := (List.getElem?_eq_some_iff.1 hx).1
 simp only [zJ hx, Option.bind_some]
 refine qJ (zC ((kB _).mono (fun b _ => ?_)))
 refine zG (fun _ => zB (fun h => by cases h)) (fun _ => ?_)
 refine qJ (zIB (n := i) (P := fun j => ∀ y, l[j]? = some y → y.1 ≠ x.1) (by omega) ?_ (fun hname => ?_))
 ·intro j hjl
  have hy : l[j]? = some l[j] := by simp
  simp only [zJ hy, Option.bind_some]
  refine zG (fun _ => zB (fun h => by cases h)) (fun hn => zB (e2l ⟨rfl, ?_⟩))
  intro y hy'
  rw [hy] at hy'
  cases hy'
  simpa using hn
 ·refine e2l (zC ((show Wp _ (fun s : Bool => s = false → 0 ≤ x.2.2.1 ∧ x.2.2.1 ≤ 32) from ?_).mono (fun s hs => ?_)))
  ·refine zC (qD (jT _ _ _) (zG (fun _ => zB (fun h => by cases h)) (fun h1 => zC (qD (jT _ _ _) (zG (fun _ => zB (fun h => by cases h)) (fun _ => zC (qD (jT _ _ _) (zB (fun _ => ?_)))))))))
   simpa using h1
  refine zG (fun _ => zB (fun h => by cases h)) (fun h1 => ?_)
  have hlen := hs h1
  refine zC ((show Wp _ (fun s : Bool => s = false → x.2.2.1 ≠ 0 → x.2.1 ≠ 0) from ?_).mono (fun s hs => ?_))
  ·refine zG (fun hz => ?_) (fun hz => ?_)
   ·have hz : x.2.2.1 = 0 := by simpa using hz
    repeat' (first
     | exact zB (fun _ hne => absurd hz hne)
     | refine zG (fun _ => ?_) (fun _ => ?_))
   ·refine zG (fun _ => zB (fun h' _ => by simpa using h')) (fun h' => zB (fun _ hne => ?_))
    rw [hz] at *
    exact absurd (show x.2.2.1 = 0 by simpa using h') hne
  refine zG (fun _ => zB (fun h => by cases h)) (fun h2 => ?_)
  have haddr := hs h2
  refine zC ((show Wp _ (fun s : Bool => s = false → x.2.2.2.2.2.1 = true → (0 ≤ x.2.2.2.2.2.2.1 ∧ x.2.2.2.2.2.2.1 ≤ 255) ∧ 1 ≤ x.2.2.2.2.2.2.2.1 ∧ x.2.2.2.2.2.2.2.1 ≤ 65535) from ?_).mono (fun s hs => ?_))
  ·refine zG (fun hz => ?_) (fun hz => ?_)
   ·refine zC (qD (jT _ _ _) (zG (fun _ => zB (fun h => by cases h)) (fun h3 => zC (qD (jT _ _ _) (zG (fun _ => zB (fun h => by cases h)) (fun h4 => ?_))))))
    have h3 : 0 ≤ x.2.2.2.2.2.2.1 ∧ x.2.2.2.2.2.2.1 ≤ 255 := by simpa using h3
    have h4 : 1 ≤ x.2.2.2.2.2.2.2.1 ∧ x.2.2.2.2.2.2.2.1 ≤ 65535 := by simpa using h4
    repeat' (first
     | exact zB (fun _ _ => ⟨h3, h4⟩)
     | refine zG (fun _ => ?_) (fun _ => ?_))
   ·repeat' (first
     | exact zB (fun _ ht => by rw [hz] at ht; cases ht)
     | refine zG (fun _ => ?_) (fun _ => ?_))
  refine zG (fun _ => zB (fun h => by cases h)) (fun h3 => ?_)
  have hls := hs h3
  refine zIB (n := i) (P := fun j => ∀ y, l[j]? = some y → x.2.2.1 ≠ 0 → y.2.2.1 ≠ 0 → ovB (zCN x.2.1 x.2.2.1) (zCN y.2.1 y.2.2.1) = false) (by omega) ?_ (fun hap => ?_)
  ·intro j hjl
   have hy : l[j]? = some l[j] := by simp
   simp only [zJ hy, Option.bind_some]
   refine zC ((show Wp _ (fun s : Bool => s = false → x.2.2.1 ≠ 0 → l[j].2.2.1 ≠ 0 → ovB (zCN x.2.1 x.2.2.1) (zCN l[j].2.1 l[j].2.2.1) = false) from ?_).mono (fun s hs => ?_))
   ·refine zG (fun _ => zG (fun _ => ?_) (fun hz => zB (fun _ _ hne => ?_))) (fun hz => zB (fun _ hne => ?_))
    ·exact zC (qD (vU _ _) (zC (qD (vU _ _) (zC (qD (zHT _ _) (zB (fun h _ _ => h)))))))
    ·exact absurd (show l[j].2.2.1 = 0 by simpa using hz) hne
    ·exact absurd (show x.2.2.1 = 0 by simpa using hz) hne
   ·refine zG (fun _ => zB (fun h => by cases h)) (fun hn => zB (e2l ⟨rfl, ?_⟩))
    intro y hy'
    rw [hy] at hy'
    cases hy'
    exact hs hn
  ·refine e2l (zB (e2l ⟨rfl, ?_⟩))
   intro m z hm hz
   rcases Nat.lt_or_ge m i with h' | h'
   ·exact hj m z h' hz
   ·have : m = i := by omega
    subst this
    rw [hx] at hz
    cases hz
    exact ⟨fun j y hjl hy => hname j hjl y hy, hlen, haddr, hls, fun j y hjl hy => hap j hjl y hy⟩
structure zYb (r : Ty.El zH) (x : Ty.El zIL) : Prop where
 pre : zHE x.1 = true
 admin : 1 ≤ x.2.2.2.2.1 ∧ x.2.2.2.2.1 ≤ 255
 tag : 0 ≤ x.2.2.2.2.2.1 ∧ x.2.2.2.2.2.1 ≤ 65535
 one : (x.2.1 ≠ 0 ∧ x.2.2.1 = { data := #[] } ∧ x.2.2.2.1 = false) ∨ (x.2.1 = 0 ∧ x.2.2.1 ≠ { data := #[] } ∧ x.2.2.2.1 = false) ∨ (x.2.1 = 0 ∧ x.2.2.1 = { data := #[] } ∧ x.2.2.2.1 = true)
 iface : x.2.2.1 ≠ { data := #[] } → 0 ≤ zUa r x.2.2.1
def zYa (r : Ty.El zH) : Prop := ∀ x, x ∈ r.2.2.2.2.2.2.2.1 → zYb r x
theorem zR9 (r : Ty.El zH) (hr : SmR r) : Wp (xM (r, ())) (fun e => e = 0 → zYa r) := by
 have hs6 := hr.i6
 unfold xM
 dsimp only
 refine zI (fun _ => zB (fun h => by cases h)) (fun h => ?_)
 refine zCu (P := zYb r) (by omega) ?_ (fun hj => zB (fun _ => hj))
 intro i x hx
 have hi := (List.getElem?_eq_some_iff.1 hx).1
 simp only [zJ hx, Option.bind_some]
 refine qJ ?_
 have w1 : IntKind.wrap .i64 ((0 : Int) + 1) = 1 := by decide
 have w2 : IntKind.wrap .i64 ((1 : Int) + 1) = 2 := by decide
 have w3 : IntKind.wrap .i64 ((2 : Int) + 1) = 3 := by decide
 refine zC ((show Wp _ (fun k : Int => k = if x.2.1 ≠ 0 then 1 else 0) from ?_).mono (fun k1 hk1 => ?_))
 ·refine zG (fun h => zB ?_) (fun h => zB ?_)
  ·rw [w1, if_pos (by simpa using h)]
  ·rw [if_neg (by simpa using h)]
 refine zC ((show Wp _ (fun k : Int => k = k1 + if x.2.2.1 ≠ { data := #[] } then 1 else 0) from ?_).mono (fun k2 hk2 => ?_))
 ·refine zG (fun h => zB ?_) (fun h => zB ?_)
  ·rw [if_pos (by simpa using h)]
   split at hk1 <;> (subst hk1; first | exact w1 | exact w2)
  ·rw [if_neg (by simpa using h)]; omega
 refine zC ((show Wp _ (fun k : Int => k = k2 + if x.2.2.2.1 = true then 1 else 0) from ?_).mono (fun k3 hk3 => ?_))
 ·refine zG (fun h => zB ?_) (fun h => zB ?_)
  ·have h : x.2.2.2.1 = true := h
   rw [if_pos h]
   split at hk1 <;> split at hk2 <;> (subst hk1; subst hk2; first | exact w1 | exact w2 | exact w3)
  ·have h : x.2.2.2.1 = false := h
   rw [if_neg (by rw [h]; simp)]; omega
 refine zC ((show Wp _ (fun s : Bool => s = false → zHE x.1 = true ∧ k3 = 1 ∧ (1 ≤ x.2.2.2.2.1 ∧ x.2.2.2.2.1 ≤ 255) ∧ 0 ≤ x.2.2.2.2.2.1 ∧ x.2.2.2.2.2.1 ≤ 65535) from ?_).mono (fun s hs => ?_))
 ·refine zC (qD (zE0 _) (zG (fun _ => zB (fun h => by cases h)) (fun h1 => zG (fun _ => zB (fun h => by cases h)) (fun h2 => ?_))))
  have h1 : zHE x.1 = true := by simpa using h1
  have h2 : k3 = 1 := by simpa using h2
  refine zG (fun _ => zC ((zBv r x.2.1 hr).mono (fun k _ => zI (fun _ => zB (fun h => by cases h)) (fun _ => ?_)))) (fun _ => ?_)
  all_goals
   refine zC (qD (jT _ _ _) (zG (fun _ => zB (fun h => by cases h)) (fun h3 => zC (qD (jT _ _ _) (zB (fun h4 => ⟨h1, h2, ?_, ?_⟩))))))
   ·simpa using h3
   ·simpa using h4
 refine zG (fun _ => zB (fun h => by cases h)) (fun h1 => ?_)
 obtain ⟨g1, g2, g3, g4⟩ := hs h1
 refine zXa (fun _ : Unit => x.2.2.1 ≠ { data := #[] } → 0 ≤ zUa r x.2.2.1) ?_ (fun _ hif => ?_)
 ·refine zG (fun hne => ?_) (fun hne => zB (e2l (fun h => absurd h (by simpa using hne))))
  refine zC ((zGZ r _ hr).mono (fun k hk => ?_))
  subst hk
  refine zI (fun _ => zB (fun h => by cases h)) (fun hk => ?_)
  have hk0 : 0 ≤ zUa r x.2.2.1 := Int.not_lt.1 hk
  obtain ⟨y, hy, _⟩ := zDt (p := fun x' : Ty.El qA => x'.1 == x.2.2.1) (xs := r.2.2.1) hk0
  refine zC (qD (zXE hk0 hy) (zG (fun _ => zB (fun h => by cases h)) (fun _ => zB (e2l (fun _ => hk0)))))
 ·refine zIB (n := i) (P := fun _ => True) (by omega) ?_ (fun _ => e2l (zB (e2l ⟨rfl, g1, g3, g4, ?_, hif⟩)))
  ·intro j hjl
   have hy : r.2.2.2.2.2.2.2.1[j]? = some r.2.2.2.2.2.2.2.1[j] := by simp
   simp only [zJ hy, Option.bind_some]
   refine zC ((show Wp _ (fun _ : Bool => True) from ?_).mono (fun s _ => zG (fun _ => zB (fun h => by cases h)) (fun _ => zB (e2l ⟨rfl, trivial⟩))))
   exact zG (fun _ => zB trivial) (fun _ => zB trivial)
  ·rw [hk3, hk2, hk1] at g2
   by_cases c1 : x.2.1 = 0 <;> by_cases c2 : x.2.2.1 = { data := #[] } <;> cases c3 : x.2.2.2.1 <;> simp [c1, c2, c3] at g2 ⊢
end Go.Ve

namespace Go.Ve
open Go
set_option maxRecDepth 1000000
set_option maxHeartbeats 4000000
def zW0 (r : Ty.El zH) (a : Int) : Int := zBE (fun x : Ty.El qA => x.2.2.1 != 0 && x.2.1 == a) r.2.2.1
theorem zIQ (r : Ty.El zH) (a : Int) (hr : SmR r) : Wp (uZ (r, a, ())) (fun k => k = zW0 r a) := by
 unfold uZ
 dsimp only
 have := hr.i1
 refine zBG (p := fun x : Ty.El qA => x.2.2.1 != 0 && x.2.1 == a) (by omega) ?_ rfl
 intro i x hx
 simp only [zJ hx, Option.bind_some]
 cases x.2.2.1 != 0 <;> cases x.2.1 == a <;> rfl
structure zYS (r : Ty.El zH) : Prop where
 asn : 0 ≤ r.2.1 ∧ r.2.1 ≤ 65535
 ifs : zYe r.2.2.1
 sts : zYa r
 lists : uA (r.2.2.2.1, ()) = some 0
 maps : yR (r, ()) = some 0
 acls : uB (r.2.2.2.2.2.1, ()) = some 0
 nat : vX (r, ()) = some 0
 filters : zA2 (r, ()) = some 0
 ls : yS (r, ()) = some 0
 dv : zAc (r, ()) = some 0
 pv : u9 (r, ()) = some 0
 ifl : r.2.2.1.length ≤ 8
theorem zMd (r : Ty.El zH) (hr : SmR r) : Wp (vA (r, ())) (fun e => e = 0 → zYS r) := by
 have hr0 := hr
 obtain ⟨i1, i2, i3, i4, i5, i6, i7, i8, i9, i10, i11, i12, i13, i14, n1, n2, n3⟩ := hr0
 unfold vA
 dsimp only
 refine zC ((kB _).mono (fun b _ => ?_))
 refine zG (fun _ => zB (fun h => by cases h)) (fun _ => ?_)
 refine zC (qD (jT _ _ _) (zG (fun _ => zB (fun h => by cases h)) (fun has => ?_)))
 have has : 0 ≤ r.2.1 ∧ r.2.1 ≤ 65535 := by simpa using has
 refine zC ((zN1 _ i1).mono (fun y12 h12 => ?_))
 refine yP ((zBM _ i2 n1).mono (fun _ _ => trivial)) (fun y13 h13 => ?_)
 refine yP ((zCv _ hr).mono (fun _ _ => trivial)) (fun y14 h14 => ?_)
 refine yP ((zBN _ i4 n3).mono (fun _ _ => trivial)) (fun y15 h15 => ?_)
 refine yP ((zBp _ hr).mono (fun _ _ => trivial)) (fun y16 h16 => ?_)
 refine yP ((zDJ _ hr).mono (fun _ _ => trivial)) (fun y17 h17 => ?_)
 refine zC ((zR9 _ hr).mono (fun y18 h18 => ?_))
 refine yP ((zCw _ hr).mono (fun _ _ => trivial)) (fun y19 h19 => ?_)
 refine yP ((zDa _ hr).mono (fun _ _ => trivial)) (fun y20 h20 => ?_)
 refine yP ((zB6 _ hr).mono (fun _ _ => trivial)) (fun y21 h21 => ?_)
 refine zCu (P := fun x : Int => x = 0) (xs := [y12, y13, y14, y15, y16, y17, y18, y19, y20, y21]) (by simp) ?_ (fun hall => zB (fun _ => ?_))
 ·intro i x hx
  simp only [zJ hx, Option.bind_some]
  refine zG (fun hne => zB (fun h => ?_)) (fun h => zB (e2l ⟨rfl, by simpa using h⟩))
  have h : x = 0 := h
  rw [h] at hne
  cases hne
 ·have e12 := hall y12 (by simp)
  have e13 := hall y13 (by simp)
  have e14 := hall y14 (by simp)
  have e15 := hall y15 (by simp)
  have e16 := hall y16 (by simp)
  have e17 := hall y17 (by simp)
  have e18 := hall y18 (by simp)
  have e19 := hall y19 (by simp)
  have e20 := hall y20 (by simp)
  have e21 := hall y21 (by simp)
  exact ⟨has, (h12 e12).1, h18 e18, e13 ▸ h13, e14 ▸ h14, e15 ▸ h15, e16 ▸ h16, e17 ▸ h17, e19 ▸ h19, e20 ▸ h20, e21 ▸ h21, (h12 e12).2⟩
structure zYd (n : Ty.El zT) : Prop where
 len : n.1.length ≤ 8
 rt : ∀ r, r ∈ n.1 → zYS r
 name : ∀ (i j : Nat) r q, j < i → n.1[i]? = some r → n.1[j]? = some q → q.1 ≠ r.1
 addr : ∀ (i j : Nat) r q, i ≠ j → n.1[i]? = some r → n.1[j]? = some q → ∀ x y, x ∈ r.2.2.1 → y ∈ q.2.2.1 → x.2.2.1 ≠ 0 → y.2.2.1 ≠ 0 → x.2.1 ≠ y.2.1
theorem zVk (n : Ty.El zT) (hs : ∀ y, y ∈ n.1 → SmR y) : Wp (kD (n, ())) (fun e => e = 0 → zYd n) := by
 unfold kD
 dsimp only
 refine zI (fun _ => zB (fun h => by cases h)) (fun hl => ?_)
 refine zAQ (by omega) (fun i => ∀ m r, m < i → n.1[m]? = some r → zYS r ∧ (∀ j q, j < m → n.1[j]? = some q → q.1 ≠ r.1 ∧ ∀ x y, x ∈ r.2.2.1 → y ∈ q.2.2.1 → x.2.2.1 ≠ 0 → y.2.2.1 ≠ 0 → x.2.1 ≠ y.2.1)) (fun m x hm => by omega) ?_ (fun hj => zB (fun _ => ?_))
 ·intro i r hr hj
  have hi := (List.getElem?_eq_some_iff.1 hr).1
  have hsm := hs r (List.mem_of_getElem? hr)
  have hs1 := hsm.i1
  simp only [zJ hr, Option.bind_some]
  refine qJ (zC ((zMd r hsm).mono (fun e he => ?_)))
  refine zG (fun hne => zB (fun h => ?_)) (fun h => ?_)
  ·have h : e = 0 := h
   rw [h] at hne
   cases hne
  have hrt := he (by simpa using h)
  refine qJ (zIB (n := i) (P := fun j => ∀ q, n.1[j]? = some q → q.1 ≠ r.1) (by omega) ?_ (fun hname => ?_))
  ·intro j hjl
   have hq : n.1[j]? = some n.1[j] := by simp
   simp only [zJ hq, Option.bind_some]
   refine zG (fun _ => zB (fun h => by cases h)) (fun hn => zB (e2l ⟨rfl, ?_⟩))
   intro q hq'
   rw [hq] at hq'
   cases hq'
   simpa using hn
  refine e2l (zXc (P := fun x : Ty.El qA => ∀ j q, j < i → n.1[j]? = some q → ∀ y, y ∈ q.2.2.1 → x.2.2.1 ≠ 0 → y.2.2.1 ≠ 0 → x.2.1 ≠ y.2.1) (by omega) ?_ (fun hall => ?_))
  ·intro k x hx
   simp only [zJ hx, Option.bind_some]
   refine qJ (zIB (n := i) (P := fun j => ∀ q, n.1[j]? = some q → ∀ y, y ∈ q.2.2.1 → x.2.2.1 ≠ 0 → y.2.2.1 ≠ 0 → x.2.1 ≠ y.2.1) (by omega) ?_ (fun hall => e2l (zB (e2l ⟨rfl, fun j q hjl hq => hall j hjl q hq⟩))))
   intro j hjl
   have hq : n.1[j]? = some n.1[j] := by simp
   simp only [zJ hq, Option.bind_some]
   refine zC ((show Wp _ (fun s : Bool => s = false → ∀ y, y ∈ n.1[j].2.2.1 → x.2.2.1 ≠ 0 → y.2.2.1 ≠ 0 → x.2.1 ≠ y.2.1) from ?_).mono (fun s hs' => ?_))
   ·refine zG (fun _ => zC ((zIQ _ _ (hs _ (List.getElem_mem _))).mono (fun k hk => zB ?_))) (fun hz => zB (fun _ y _ hne => absurd (show x.2.2.1 = 0 by simpa using hz) hne))
    subst hk
    intro hlt y hy _ hyz hxy
    have hlt : ¬ (zW0 n.1[j] x.2.1 ≥ 0) := of_decide_eq_false hlt
    apply hlt
    unfold zW0
    rw [zGc]
    refine List.any_eq_true.2 ⟨y, hy, ?_⟩
    have h1 : (y.2.2.1 != 0) = true := by simpa using hyz
    have h2 : (y.2.1 == x.2.1) = true := beq_iff_eq.2 hxy.symm
    rw [h1, h2]; rfl
   ·refine zG (fun _ => zB ⟨(fun u h => by cases h), (fun h => by cases h)⟩) (fun hn => zB (e2l ⟨rfl, ?_⟩))
    intro q hq'
    rw [hq] at hq'
    cases hq'
    exact hs' hn
  ·refine e2l (zB (e2l ⟨rfl, ?_⟩))
   intro m z hm hz
   rcases Nat.lt_or_ge m i with h' | h'
   ·exact hj m z h' hz
   ·have : m = i := by omega
    subst this
    rw [hr] at hz
    cases hz
    exact ⟨hrt, fun j q hjl hq => ⟨hname j hjl q hq, fun x y hx hy => hall x hx j q hjl hq y hy⟩⟩
 ·have hall : ∀ m r, n.1[m]? = some r → _ := fun m r hr => hj m r (List.getElem?_eq_some_iff.1 hr).1 hr
  refine ⟨by omega, ?_, ?_, ?_⟩
  ·intro r hr
   obtain ⟨m, hm, rfl⟩ := List.getElem_of_mem hr
   exact (hall m _ (by simp [hm])).1
  ·intro i j r q hji hr hq
   exact ((hall i r hr).2 j q hji hq).1
  ·intro i j r q hne hr hq x y hx hy hx0 hy0
   rcases Nat.lt_or_ge j i with h' | h'
   ·exact ((hall i r hr).2 j q h' hq).2 x y hx hy hx0 hy0
   ·exact fun h => ((hall j q hq).2 i r (by omega) hr).2 y x hy hx hy0 hx0 h.symm
theorem zWf {n : Ty.El zT} {d : List Int} {v : Ty.El zS} (h : x8 n d v) : zYd n := by
 obtain ⟨e, h1, h2⟩ := zVk n h.sm
 have h3 := h.chk
 rw [h1] at h3
 exact h2 (Option.some.inj h3)
end Go.Ve

namespace Go.Ve
open Go
set_option maxRecDepth 1000000
set_option maxHeartbeats 4000000
def rlt (x y : Ty.El zA) : Prop := plt x.1 y.1
theorem zMg : Ord rlt where
 asym := fun x y h => zGG.asym _ _ h
 tr := fun x y z h1 h2 => zGG.tr _ _ _ h1 h2
end Go.Ve
