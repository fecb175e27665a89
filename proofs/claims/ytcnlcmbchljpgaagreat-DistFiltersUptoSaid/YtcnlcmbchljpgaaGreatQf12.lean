/-
  Functions out of code: distance-vector and path-vector routing.
  Plain laws, part 1: what partial values come to.
  Plain laws, part 2: loops over lists.
  Plain laws, part 3: loops over lists within loops.
  Plain laws: sorting by insertion.
  Plain laws: prefixes in order; domains in order.
  Plain laws: the checks of a network always answer.
  Plain laws: the topology of a network is built, and what it is made of.
  Plain laws: the topology of a network is built: the walk.
  Plain laws: views.
  Plain laws: the checks of routes and tables always answer.
  Plain laws: equal routes; static routes that are active.
-/
import Derived.Test.YtcnlcmbchljpgaaGreatQf11
import Derived.Test.YtcnlcmbchljpgaaGreatQf10
set_option linter.unusedVariables false
namespace Go.Ve
open Go
set_option maxRecDepth 1000000
noncomputable def zL2 : ElS [] → Option (RTy.El (.p .bool)) := fun x => match x with | () => some true
noncomputable def zC1 : ElS [zW, (.sl (.sl zA))] → Option (RTy.El (.p .bool)) := fun x => match x with | (a1, a2, ()) => bif (↑(List.length a2) : Int) != (↑(List.length a1.1.1) : Int) then some false else qQ (zO (fun (s13 : Int) => bif decide (s13 < (↑(List.length a2) : Int)) then Option.bind (Option.bind (idx a2 s13) fun (y14 : List (Ty.El zA)) => bif decide ((↑(List.length y14) : Int) > (12 : Int)) then some true else Option.bind (idx a2 s13) fun (y15 : List (Ty.El zA)) => Option.bind (zCV (y15, (4 : Int), ())) fun (y16 : Bool) => some !y16) fun (s17 : Bool) => bif s17 then some (Sum.inr (Sum.inr false)) else some (Sum.inl (IntKind.wrap IntKind.i64 (s13 + (1 : Int)))) else some (Sum.inr (Sum.inl ()))) (0 : Int)) fun (s18 : Unit) => some true
noncomputable def j3 : ElS [zW, tI, tI] → Option (RTy.El (.tu [qA, .bool])) := fun x => match x with | (a1, a2, a3, ()) => Option.bind (bif decide (a2 < (0 : Int)) then some true else bif decide (a2 ≥ (↑(List.length a1.1.1) : Int)) then some true else bif decide (a3 < (0 : Int)) then some true else Option.bind (idx a1.1.1 a2) fun (y1 : Ty.El zH) => some (decide (a3 ≥ (↑(List.length y1.2.2.1) : Int)))) fun (s2 : Bool) => bif s2 then some (({ data := #[] }, (0 : Int), (0 : Int), (0 : Int), false, false, (0 : Int), (0 : Int), false, { data := #[] }, { data := #[] }, (0 : Int), ()), false, ()) else Option.bind (idx a1.1.1 a2) fun (y3 : Ty.El zH) => Option.bind (idx y3.2.2.1 a3) fun (y4 : Ty.El qA) => some (y4, true, ())
noncomputable def jW : ElS [zW, tI, tI] → Option (RTy.El (.p .bool)) := fun x => match x with | (a1, a2, a3, ()) => Option.bind (j3 (a1, a2, a3, ())) fun (y0 : Ty.El qA × Bool × Unit) => Option.bind (bif y0.2.1 then Option.bind (idx a1.1.1 a2) fun (y3 : Ty.El zH) => bif y3.2.2.2.2.2.2.2.2.2.1.1 then bif y0.1.2.2.2.2.2.2.2.2.1 then Option.bind (zHN (a1, a2, a3, ())) fun (y4 : Bool) => some y4 else some false else some false else some false) fun (s5 : Bool) => some s5
noncomputable def zAB : ElS [zW, tI, tI] → Option (RTy.El (.p (.sl zJ))) := fun x => match x with | (a1, a2, a3, ()) => Option.bind (zHN (a1, a2, a3, ())) fun (y0 : Bool) => bif !y0 then some [] else Option.bind (Option.bind (zAl (a1, a2, a3, ())) fun (y18 : Int) => Option.bind (idx a1.2.1.1 y18) fun (y19 : Ty.El kC) => zO (fun (s20 : Int × List (Ty.El zJ)) => bif decide (s20.1 < (↑(List.length y19.2.2.1) : Int)) then Option.bind (Option.bind (idx y19.2.2.1 s20.1) fun (y21 : Ty.El zJ) => Option.bind (bif y21.1 != a2 then some (true, s20.2) else some (y21.2.1 != a3, s20.2)) fun (s22 : Bool × List (Ty.El zJ)) => bif s22.1 then Option.bind (app (16 : Nat) s22.2 [y21]) fun (y23 : List (Ty.El zJ)) => some y23 else some s22.2) fun (s24 : List (Ty.El zJ)) => some (Sum.inl (IntKind.wrap IntKind.i64 (s20.1 + (1 : Int)), s24)) else some (Sum.inr s20.2)) ((0 : Int), [])) fun (s25 : List (Ty.El zJ)) => some s25
noncomputable def xQ : ElA [.d jI, .pp .str] → Option (RTy.El (.p .bool)) := fun x => match x with | (a1, a2, ()) => some (a1.1 == a2)
noncomputable def j9 : ElA [.d (.sl jI), .clo 178 [(true, .str)]] → Option (RTy.El (.p tI)) := fun x => match x with | (a1, (a2, ()), ()) => qQ (zO (fun (s6 : Int) => bif decide (s6 < (↑(List.length a1) : Int)) then Option.bind (idx a1 s6) fun (y7 : Ty.El jI) => Option.bind (xQ (y7, a2, ())) fun (y8 : Bool) => bif y8 then some (Sum.inr (Sum.inr s6)) else some (Sum.inl (IntKind.wrap IntKind.i64 (s6 + (1 : Int)))) else some (Sum.inr (Sum.inl ()))) (0 : Int)) fun (s9 : Unit) => some (-1 : Int)
noncomputable def xE : ElS [zH, .str] → Option (RTy.El (.p tI)) := fun x => match x with | (a1, a2, ()) => Option.bind (j9 (a1.2.2.2.1, (a2, ()), ())) fun (y0 : Int) => some y0
noncomputable def zBC : ElS [zG, zG] → Option (RTy.El (.p .bool)) := fun x => match x with | (a1, a2, ()) => Option.bind (bif decide (a1.2.1 ≤ a2.2.1) then Option.bind (x9 (a1, a2.1, ())) fun (y1 : Bool) => some y1 else some false) fun (s2 : Bool) => some s2
noncomputable def yK : ElS [uX, zG] → Option (RTy.El (.p .bool)) := fun x => match x with | (a1, a2, ()) => Option.bind (Option.bind (zBC (a1.2.1, a2, ())) fun (y1 : Bool) => bif y1 then bif decide (a1.2.2.1 ≤ a2.2.1) then some (decide (a2.2.1 ≤ a1.2.2.2.1)) else some false else some false) fun (s2 : Bool) => some s2
noncomputable def zBS : ElS [jI, zG] → Option (RTy.El (.p tI)) := fun x => match x with | (a1, a2, ()) => qQ (zO (fun (s6 : Int) => bif decide (s6 < (↑(List.length a1.2.1) : Int)) then Option.bind (idx a1.2.1 s6) fun (y7 : Ty.El uX) => Option.bind (yK (y7, a2, ())) fun (y8 : Bool) => bif y8 then some (Sum.inr (Sum.inr s6)) else some (Sum.inl (IntKind.wrap IntKind.i64 (s6 + (1 : Int)))) else some (Sum.inr (Sum.inl ()))) (0 : Int)) fun (s9 : Unit) => some (-1 : Int)
noncomputable def yJ : ElS [zH, .str, zG] → Option (RTy.El (.p .bool)) := fun x => match x with | (a1, a2, a3, ()) => bif a2 == { data := #[] } then some true else Option.bind (xE (a1, a2, ())) fun (y0 : Int) => bif decide (y0 < (0 : Int)) then some false else Option.bind (idx a1.2.2.2.1 y0) fun (y3 : Ty.El jI) => Option.bind (zBS (y3, a3, ())) fun (y4 : Int) => Option.bind (bif decide (y4 ≥ (0 : Int)) then Option.bind (idx a1.2.2.2.1 y0) fun (y7 : Ty.El jI) => Option.bind (idx y7.2.1 y4) fun (y8 : Ty.El uX) => some y8.1 else some false) fun (s9 : Bool) => some s9
noncomputable def uO : ElS [zW, (.sl zA), tI, tI, zJ] → Option (RTy.El (.p (.sl zA))) := fun x => match x with | (a1, a2, a3, a4, a5, ()) => Option.bind (idx a1.1.1 a3) fun (y2 : Ty.El zH) => Option.bind (idx a1.1.1 a5.1) fun (y3 : Ty.El zH) => Option.bind (j3 (a1, a5.1, a5.2.1, ())) fun (y4 : Ty.El qA × Bool × Unit) => Option.bind (zO (fun (s26 : Int × List (Ty.El zA)) => bif decide (s26.1 < (↑(List.length a2) : Int)) then Option.bind (Option.bind (idx a2 s26.1) fun (y27 : Ty.El zA) => Option.bind (bif decide (y27.2.2.2.2.1 ≥ (15 : Int)) then some (true, s26.2) else Option.bind (yJ (y3, y3.2.2.2.2.2.2.2.2.2.1.2.2.2.1, y27.1, ())) fun (y28 : Bool) => bif !y28 then some (true, s26.2) else Option.bind (yJ (y2, y2.2.2.2.2.2.2.2.2.2.1.2.2.1, y27.1, ())) fun (y29 : Bool) => some (!y29, s26.2)) fun (s30 : Bool × List (Ty.El zA)) => bif s30.1 then some s30.2 else Option.bind (app (136 : Nat) s30.2 [(y27.1, (4 : Int), (3 : Int), y2.2.2.2.2.2.2.2.2.2.1.2.1, IntKind.wrap IntKind.i64 (y27.2.2.2.2.1 + (1 : Int)), (0 : Int), y27.2.2.2.2.2.2.1, (0 : Int), [], (0 : Int), (0 : Int), [(a4, y4.1.2.1, ())], false, ())]) fun (y31 : List (Ty.El zA)) => some y31) fun (s32 : List (Ty.El zA)) => some (Sum.inl (IntKind.wrap IntKind.i64 (s26.1 + (1 : Int)), s32)) else some (Sum.inr s26.2)) ((0 : Int), [])) fun (s33 : List (Ty.El zA)) => some s33
noncomputable def wB : ElS [zW, (.sl (.sl zA)), tI] → Option (RTy.El (.p (.sl zA))) := fun x => match x with | (a1, a2, a3, ()) => Option.bind (bif decide (a3 < (0 : Int)) then some true else some (decide (a3 ≥ (↑(List.length a1.1.1) : Int)))) fun (s0 : Bool) => bif s0 then some [] else Option.bind (Option.bind (idx a1.1.1 a3) fun (y54 : Ty.El zH) => zO (fun (s55 : Int × List (Ty.El zA)) => bif decide (s55.1 < (↑(List.length y54.2.2.1) : Int)) then Option.bind (Option.bind (jW (a1, a3, s55.1, ())) fun (y56 : Bool) => bif !y56 then some s55.2 else Option.bind (zAB (a1, a3, s55.1, ())) fun (y57 : List (Ty.El zJ)) => zO (fun (s58 : Int × List (Ty.El zA)) => bif decide (s58.1 < (↑(List.length y57) : Int)) then Option.bind (Option.bind (idx y57 s58.1) fun (y59 : Ty.El zJ) => Option.bind (Option.bind (jW (a1, y59.1, y59.2.1, ())) fun (y60 : Bool) => bif y60 then some (decide (y59.1 < (↑(List.length a2) : Int)), s58.2) else some (false, s58.2)) fun (s61 : Bool × List (Ty.El zA)) => bif s61.1 then Option.bind (idx a2 y59.1) fun (y62 : List (Ty.El zA)) => Option.bind (uO (a1, y62, a3, s55.1, y59, ())) fun (y63 : List (Ty.El zA)) => Option.bind (app (136 : Nat) s61.2 y63) fun (y64 : List (Ty.El zA)) => some y64 else some s61.2) fun (s65 : List (Ty.El zA)) => some (Sum.inl (IntKind.wrap IntKind.i64 (s58.1 + (1 : Int)), s65)) else some (Sum.inr s58.2)) ((0 : Int), s55.2)) fun (s66 : List (Ty.El zA)) => some (Sum.inl (IntKind.wrap IntKind.i64 (s55.1 + (1 : Int)), s66)) else some (Sum.inr s55.2)) ((0 : Int), [])) fun (s67 : List (Ty.El zA)) => some s67
noncomputable def zAd : ElS [zW, tI, tI] → Option (RTy.El (.p (.sl zJ))) := fun x => match x with | (a1, a2, a3, ()) => Option.bind (zH5 (a1, a2, a3, ())) fun (y0 : Bool) => bif !y0 then some [] else Option.bind (xD (a1, a2, a3, ())) fun (y3 : Int) => Option.bind (idx a1.2.1.1 y3) fun (y4 : Ty.El kC) => Option.bind (zO (fun (s18 : Int × List (Ty.El zJ)) => bif decide (s18.1 < (↑(List.length y4.2.2.1) : Int)) then Option.bind (Option.bind (idx y4.2.2.1 s18.1) fun (y19 : Ty.El zJ) => bif y19.1 != a2 then Option.bind (idx y4.2.2.1 s18.1) fun (y20 : Ty.El zJ) => Option.bind (app (16 : Nat) s18.2 [y20]) fun (y21 : List (Ty.El zJ)) => some y21 else some s18.2) fun (s22 : List (Ty.El zJ)) => some (Sum.inl (IntKind.wrap IntKind.i64 (s18.1 + (1 : Int)), s22)) else some (Sum.inr s18.2)) ((0 : Int), [])) fun (s23 : List (Ty.El zJ)) => some s23
noncomputable def w9 : ElS [uX, zG] → Option (RTy.El (.p .bool)) := fun x => match x with | (a1, a2, ()) => Option.bind (Option.bind (vQ (a1.2.1, a2, ())) fun (y1 : Bool) => bif y1 then bif decide (a1.2.2.1 ≤ a2.2.1) then some (decide (a2.2.1 ≤ a1.2.2.2.1)) else some false else some false) fun (s2 : Bool) => some s2
noncomputable def xC : ElS [jI, zG] → Option (RTy.El (.p tI)) := fun x => match x with | (a1, a2, ()) => qQ (zO (fun (s8 : Int) => bif decide (s8 < (↑(List.length a1.2.1) : Int)) then Option.bind (idx a1.2.1 s8) fun (y9 : Ty.El uX) => Option.bind (w9 (y9, a2, ())) fun (y10 : Bool) => bif y10 then some (Sum.inr (Sum.inr s8)) else some (Sum.inl (IntKind.wrap IntKind.i64 (s8 + (1 : Int)))) else some (Sum.inr (Sum.inl ()))) (0 : Int)) fun (s11 : Unit) => some (-1 : Int)
noncomputable def uK : ElS [zH, .str, zG] → Option (RTy.El (.p .bool)) := fun x => match x with | (a1, a2, a3, ()) => bif a2 == { data := #[] } then some true else Option.bind (jH (a1, a2, ())) fun (y0 : Int) => bif decide (y0 < (0 : Int)) then some false else Option.bind (idx a1.2.2.2.1 y0) fun (y3 : Ty.El jI) => Option.bind (xC (y3, a3, ())) fun (y4 : Int) => Option.bind (bif decide (y4 ≥ (0 : Int)) then Option.bind (idx a1.2.2.2.1 y0) fun (y7 : Ty.El jI) => Option.bind (idx y7.2.1 y4) fun (y8 : Ty.El uX) => some y8.1 else some false) fun (s9 : Bool) => some s9
noncomputable def xA : ElS [(.sl tI)] → Option (RTy.El (.p (.sl tI))) := fun x => match x with | (a1, ()) => Option.bind (app (8 : Nat) [] a1) fun (z : List (Ty.El tI)) => some z
end Go.Ve

namespace Go.Ve
open Go
def Wp {α : Type} (m : Option α) (Q : α → Prop) : Prop := ∃ r, m = some r ∧ Q r
section
variable {α β ρ σ : Type}
theorem Wp.mono {m : Option α} {Q Q' : α → Prop} (h : Wp m Q) (hq : ∀ r, Q r → Q' r) : Wp m Q' := by
 obtain ⟨r, h1, h2⟩ := h; exact ⟨r, h1, hq r h2⟩
theorem zB {x : α} {Q : α → Prop} (h : Q x) : Wp (some x) Q := ⟨x, rfl, h⟩
theorem zC {m : Option α} {f : α → Option β} {Q : β → Prop} (h : Wp m (fun y => Wp (f y) Q)) : Wp (Option.bind m f) Q := by
 obtain ⟨y, rfl, h⟩ := h; exact h
theorem yE {m : Option α} {f : α → Option β} {Q : β → Prop} (h : Wp m (fun _ => True)) (k : ∀ y, m = some y → Wp (f y) Q) : Wp (Option.bind m f) Q := by
 obtain ⟨y, rfl, _⟩ := h; exact k y rfl
theorem zF {c : Bool} {x y : Option α} {Q : α → Prop} (h1 : c = true → Wp x Q) (h2 : c = false → Wp y Q) : Wp (bif c then x else y) Q := by
 cases c
 ·exact h2 rfl
 ·exact h1 rfl
theorem xO {m : Option α} {f : α → β} {Q : β → Prop} (h : Wp m (fun y => Q (f y))) : Wp (Option.map f m) Q := by
 obtain ⟨y, rfl, h⟩ := h; exact ⟨_, rfl, h⟩
def wU (P : σ → Prop) (Q : ρ → Prop) : σ ⊕ ρ → Prop
 | .inl s => P s
 | .inr r => Q r
theorem e2l {P : σ → Prop} {Q : ρ → Prop} {s : σ} (h : P s) : wU P Q (.inl s) := h
theorem e2r {P : σ → Prop} {Q : ρ → Prop} {r : ρ} (h : Q r) : wU P Q (.inr r) := h
theorem z8 {m : Option (σ ⊕ ρ)} {K : σ → Option ρ} {Q : ρ → Prop} (h : Wp m (wU (fun s => Wp (K s) Q) Q)) : Wp (qQ m K) Q := by
 obtain ⟨o, rfl, h⟩ := h
 cases o with
 | inl s => exact h
 | inr r => exact ⟨r, rfl, h⟩
theorem wF {f : σ → Option (σ ⊕ ρ)} {Q : ρ → Prop} (J : σ → Prop) (m : σ → Nat) {s0 : σ} (h0 : J s0)
  (step : ∀ s, J s → Wp (f s) (wU (fun s' => J s' ∧ m s' < m s) Q)) : Wp (zO f s0) Q := by
 refine zTs J m Q ?_ h0
 intro s hs
 obtain ⟨o, h1, h2⟩ := step s hs
 refine ⟨o, h1, ?_⟩
 cases o with
 | inl s' => exact h2
 | inr r => exact h2
theorem j6 {n s0 : Int} {body els : Int → Option (Int ⊕ ρ)} {Q : ρ → Prop}
  (step : ∀ s, s0 ≤ s → s < n → Wp (body s) (wU (fun s' => s' = s + 1) Q))
  (fin : ∀ s, s0 ≤ s → n ≤ s → Wp (els s) (wU (fun _ => False) Q)) : Wp (zO (fun s => bif decide (s < n) then body s else els s) s0) Q := by
 refine wF (fun s => s0 ≤ s) (fun s => (n - s).toNat) (Int.le_refl _) ?_
 intro s hs
 refine zF ?_ ?_
 ·intro hc
  have hc : s < n := by simpa using hc
  refine (step s hs hc).mono ?_
  intro o ho
  cases o with
  | inl s' => have : s' = s + 1 := ho; subst this; exact ⟨by omega, by omega⟩
  | inr r => exact ho
 ·intro hc
  have hc : n ≤ s := by simpa using hc
  refine (fin s hs hc).mono ?_
  intro o ho
  cases o with
  | inl s' => exact ho.elim
  | inr r => exact ho
theorem zVP {γ : Type} {n s0 : Int} {g0 : γ} {body els : Int × γ → Option ((Int × γ) ⊕ ρ)} {Q : ρ → Prop} (J : Int → γ → Prop) (h0 : J s0 g0)
  (step : ∀ s g, s0 ≤ s → s < n → J s g → Wp (body (s, g)) (wU (fun o => o.1 = s + 1 ∧ J (s + 1) o.2) Q))
  (fin : ∀ s g, s0 ≤ s → n ≤ s → J s g → Wp (els (s, g)) (wU (fun _ => False) Q)) : Wp (zO (fun o => bif decide (o.1 < n) then body o else els o) (s0, g0)) Q := by
 refine wF (fun o => s0 ≤ o.1 ∧ J o.1 o.2) (fun o => (n - o.1).toNat) ⟨Int.le_refl _, h0⟩ ?_
 rintro ⟨s, g⟩ ⟨hs, hj⟩
 refine zF ?_ ?_
 ·intro hc
  have hc : s < n := by simpa using hc
  refine (step s g hs hc hj).mono ?_
  intro o ho
  cases o with
  | inl s' => obtain ⟨s1, g1⟩ := s'; obtain ⟨h1, h2⟩ := ho; simp only at h1 h2; subst h1; exact ⟨⟨by omega, h2⟩, by simp only; omega⟩
  | inr r => exact ho
 ·intro hc
  have hc : n ≤ s := by simpa using hc
  refine (fin s g hs hc hj).mono ?_
  intro o ho
  cases o with
  | inl s' => exact ho.elim
  | inr r => exact ho
theorem j1 {xs : List α} {i : Int} {Q : α → Prop} (h0 : 0 ≤ i) (h1 : i < xs.length) (h : ∀ y, y ∈ xs → xs[i.toNat]? = some y → Q y) : Wp (idx xs i) Q := by
 unfold idx
 rw [if_pos h0]
 have hl : i.toNat < xs.length := by omega
 exact ⟨xs[i.toNat], by simp [hl], h _ (List.getElem_mem hl) (by simp [hl])⟩
theorem uV {s : ByteArray} {i : Int} {Q : Int → Prop} (h0 : 0 ≤ i) (h1 : i < s.size) (h : ∀ y, 0 ≤ y → y < 256 → Q y) : Wp (zJY s i) Q := by
 unfold zJY
 rw [if_pos h0]
 have hl : i.toNat < s.size := by omega
 refine ⟨(s[i.toNat].toNat : Int), by simp [hl], h _ (by omega) ?_⟩
 have := s[i.toNat].toNat_lt
 omega
theorem zAz {bytes : Nat} {xs ys : List α} {Q : List α → Prop} (h0 : (2 * (xs.length + ys.length) + 1024) * bytes ≤ 140737488355328) (h : Q (xs ++ ys)) : Wp (app bytes xs ys) Q := by
 unfold app
 rw [if_pos h0]
 exact ⟨_, rfl, h⟩
end
theorem zD {x : Int} (h0 : -9223372036854775808 ≤ x) (h1 : x < 9223372036854775808) : IntKind.wrap .i64 x = x := by
 have e1 : ((2 : Int) ^ IntKind.bits .i64) = 18446744073709551616 := by decide
 have e2 : ((2 : Int) ^ (IntKind.bits .i64 - 1)) = 9223372036854775808 := by decide
 simp only [IntKind.wrap, IntKind.signed, Bool.true_and, decide_eq_true_eq, e1, e2]
 split <;> omega
theorem zHF {x : Int} (h0 : 0 ≤ x) (h1 : x < 18446744073709551616) : IntKind.wrap .u64 x = x := by
 have e1 : ((2 : Int) ^ IntKind.bits .u64) = 18446744073709551616 := by decide
 simp only [IntKind.wrap, IntKind.signed, Bool.false_and, Bool.false_eq_true, if_false, e1]
 omega
theorem zI {α : Type} {p : Prop} [Decidable p] {x y : Option α} {Q : α → Prop} (h1 : p → Wp x Q) (h2 : ¬ p → Wp y Q) : Wp (bif decide p then x else y) Q := by
 by_cases h : p
 ·simp only [h, decide_true, cond_true]; exact h1 h
 ·simp only [h, decide_false, cond_false]; exact h2 h
theorem jM {α : Type} {p : Prop} [Decidable p] {x y : Option α} {Q : α → Prop} (h1 : ¬ p → Wp x Q) (h2 : p → Wp y Q) : Wp (bif !decide p then x else y) Q := by
 by_cases h : p
 ·simp only [h, decide_true, Bool.not_true, cond_false]; exact h2 h
 ·simp only [h, decide_false, Bool.not_false, cond_true]; exact h1 h
end Go.Ve

namespace Go.Ve
open Go
theorem zM {α : Type} {xs : List α} {i : Nat} {x : α} (h : xs[i]? = some x) : idx xs (i : Int) = some x := by
 rw [idx, if_pos (by omega), Int.toNat_natCast]; exact h
theorem zWo {α : Type} {xs : List α} {i : Int} {x : α} (h0 : 0 ≤ i) (h : xs[i.toNat]? = some x) : idx xs i = some x := by
 rw [idx, if_pos h0]; exact h
theorem qV {α : Type} {m : Option α} {x : α} {Q : α → Prop} (h : m = some x) (hq : Q x) : Wp m Q := ⟨x, h, hq⟩
section
variable {α γ ρ : Type}
theorem zAy {xs : List α} {g0 : γ} {body : Int × γ → Option γ} {Q : γ → Prop} (hl : xs.length < 4611686018427387904) (J : Nat → γ → Prop) (h0 : J 0 g0)
  (step : ∀ i x g, xs[i]? = some x → J i g → Wp (body ((i : Int), g)) (J (i + 1))) (fin : ∀ g, J xs.length g → Q g) :
  Wp (zO (fun s : Int × γ => bif decide (s.1 < (xs.length : Int)) then Option.bind (body s) (fun g => some (Sum.inl (IntKind.wrap IntKind.i64 (s.1 + (1 : Int)), g))) else some (Sum.inr s.2)) ((0 : Int), g0)) Q := by
 refine wF (fun (s : Int × γ) => ∃ i : Nat, s.1 = (i : Int) ∧ i ≤ xs.length ∧ J i s.2) (fun (s : Int × γ) => ((xs.length : Int) - s.1).toNat) ⟨(0 : Nat), rfl, Nat.zero_le _, h0⟩ ?_
 rintro ⟨s, g⟩ ⟨i, hi, hle, hj⟩
 simp only at hi
 subst hi
 refine zI ?_ ?_
 ·intro hc
  have hlt : i < xs.length := by simp only at hc; omega
  refine zC ((step i xs[i] g (by simp [hlt]) hj).mono ?_)
  intro g' hg'
  refine zB ?_
  refine e2l ⟨⟨i + 1, ?_, hlt, hg'⟩, ?_⟩
  ·simp only; rw [zD (by omega) (by omega)]; omega
  ·simp only; rw [zD (by omega) (by omega)]; omega
 ·intro hc
  have : i = xs.length := by simp only at hc; omega
  subst this
  exact zB (e2r (fin _ hj))
theorem zPi {n : Nat} {c : Int × γ → Int} {g0 : γ} {body : Int × γ → Option γ} {Q : γ → Prop} (hl : n < 4611686018427387904) (J : Nat → γ → Prop) (h0 : J 0 g0) (hc : ∀ i g, J i g → c ((i : Int), g) = n)
  (step : ∀ i g, i < n → J i g → Wp (body ((i : Int), g)) (J (i + 1))) (fin : ∀ g, J n g → Q g) :
  Wp (zO (fun s : Int × γ => bif decide (s.1 < c s) then Option.bind (body s) (fun g => some (Sum.inl (IntKind.wrap IntKind.i64 (s.1 + (1 : Int)), g))) else some (Sum.inr s.2)) ((0 : Int), g0)) Q := by
 refine wF (fun (s : Int × γ) => ∃ i : Nat, s.1 = (i : Int) ∧ i ≤ n ∧ J i s.2) (fun (s : Int × γ) => ((n : Int) - s.1).toNat) ⟨(0 : Nat), rfl, Nat.zero_le _, h0⟩ ?_
 rintro ⟨s, g⟩ ⟨i, hi, hle, hj⟩
 simp only at hi
 subst hi
 have hci := hc i g hj
 refine zI ?_ ?_
 ·intro hc'
  simp only [hci] at hc'
  have hlt : i < n := by omega
  refine zC ((step i g hlt hj).mono ?_)
  intro g' hg'
  refine zB ?_
  refine e2l ⟨⟨i + 1, ?_, hlt, hg'⟩, ?_⟩
  ·simp only; rw [zD (by omega) (by omega)]; omega
  ·simp only; rw [zD (by omega) (by omega)]; omega
 ·intro hc'
  simp only [hci] at hc'
  have : i = n := by omega
  subst this
  exact zB (e2r (fin _ hj))
theorem zBi {xs : List α} {body : Int → Option (Int ⊕ (Unit ⊕ ρ))} {K : Unit → Option ρ} {Q : ρ → Prop} (hl : xs.length < 4611686018427387904) (J : Nat → Prop) (h0 : J 0)
  (step : ∀ i x, xs[i]? = some x → J i → Wp (body (i : Int)) (wU (fun s' => s' = IntKind.wrap IntKind.i64 ((i : Int) + 1) ∧ J (i + 1)) (wU (fun _ => False) Q))) (fin : J xs.length → Wp (K ()) Q) :
  Wp (qQ (zO (fun s : Int => bif decide (s < (xs.length : Int)) then body s else some (Sum.inr (Sum.inl ()))) (0 : Int)) K) Q := by
 refine z8 ?_
 refine wF (fun (s : Int) => ∃ i : Nat, s = (i : Int) ∧ i ≤ xs.length ∧ J i) (fun (s : Int) => ((xs.length : Int) - s).toNat) ⟨(0 : Nat), rfl, Nat.zero_le _, h0⟩ ?_
 rintro s ⟨i, hi, hle, hj⟩
 subst hi
 refine zI ?_ ?_
 ·intro hc
  have hlt : i < xs.length := by omega
  refine (step i xs[i] (by simp [hlt]) hj).mono ?_
  intro o ho
  cases o with
  | inl s' =>
   obtain ⟨rfl, h2⟩ := ho
   rw [zD (by omega) (by omega)]
   exact ⟨⟨i + 1, by omega, hlt, h2⟩, by omega⟩
  | inr o =>
   cases o with
   | inl _ => exact ho.elim
   | inr r => exact ho
 ·intro hc
  have : i = xs.length := by omega
  subst this
  exact zB (e2r (fin hj))
end
def zBg {α : Type} (p : α → Bool) (xs : List α) : Int :=
 match xs.findIdx? p with
 | some i => i
 | none => -1
theorem zJC {α : Type} {p : α → Bool} {xs : List α} (h : ∀ x, x ∈ xs → p x = false) : zBg p xs = -1 := by
 have : xs.findIdx? p = none := by rw [List.findIdx?_eq_none_iff]; exact h
 simp [zBg, this]
theorem zSP {α : Type} {p : α → Bool} {xs : List α} {i : Nat} {x : α} (h : xs[i]? = some x) (hp : p x = true) (hn : ∀ j y, j < i → xs[j]? = some y → p y = false) : zBg p xs = i := by
 have hlt := (List.getElem?_eq_some_iff.1 h).1
 have hx := (List.getElem?_eq_some_iff.1 h).2
 have : xs.findIdx? p = some i := by
  rw [List.findIdx?_eq_some_iff_getElem]
  refine ⟨hlt, by rw [hx]; exact hp, ?_⟩
  intro j hj
  have := hn j xs[j] hj (by simp)
  simp [this]
 simp [zBg, this]
theorem zHk {α : Type} (p : α → Bool) (xs : List α) : (zBg p xs = -1 ∧ ∀ x, x ∈ xs → p x = false) ∨ ∃ i x, zBg p xs = (i : Nat) ∧ xs[i]? = some x ∧ p x = true ∧ ∀ j y, j < i → xs[j]? = some y → p y = false := by
 cases h : xs.findIdx? p with
 | none => left; refine ⟨by simp [zBg, h], ?_⟩; rw [List.findIdx?_eq_none_iff] at h; exact h
 | some i =>
  right
  rw [List.findIdx?_eq_some_iff_getElem] at h
  obtain ⟨h1, h2, h3⟩ := h
  have h' : xs.findIdx? p = some i := by rw [List.findIdx?_eq_some_iff_getElem]; exact ⟨h1, h2, h3⟩
  refine ⟨i, xs[i], by simp [zBg, h'], by simp [h1], h2, ?_⟩
  intro j y hj hy
  obtain ⟨hjl, rfl⟩ := List.getElem?_eq_some_iff.1 hy
  have := h3 j hj
  simpa using this
theorem zBj {α : Type} {xs : List α} {p : α → Bool} {body : Int → Option (Int ⊕ (Unit ⊕ Int))} {Q : Int → Prop} (hl : xs.length < 4611686018427387904)
  (step : ∀ (i : Nat) x, xs[i]? = some x → body (i : Int) = some (bif p x then Sum.inr (Sum.inr (i : Int)) else Sum.inl (IntKind.wrap IntKind.i64 ((i : Int) + 1)))) (fin : Q (zBg p xs)) :
  Wp (qQ (zO (fun s : Int => bif decide (s < (xs.length : Int)) then body s else some (Sum.inr (Sum.inl ()))) (0 : Int)) (fun _ => some (-1 : Int))) Q := by
 refine zBi hl (fun i => ∀ j y, j < i → xs[j]? = some y → p y = false) (fun j y hj => by omega) ?_ ?_
 ·intro i x hx hj
  refine qV (step i x hx) ?_
  cases hp : p x with
  | true =>
   simp only [cond_true]
   refine e2r (e2r ?_)
   rw [zSP hx hp hj] at fin
   exact fin
  | false =>
   simp only [cond_false]
   refine e2l ⟨rfl, ?_⟩
   intro j y hji hy
   rcases Nat.lt_or_ge j i with h | h
   ·exact hj j y h hy
   ·have : j = i := by omega
    subst this
    rw [hx] at hy
    cases hy
    exact hp
 ·intro hj
  refine zB ?_
  rw [zJC] at fin
  ·exact fin
  ·intro x hx
   obtain ⟨j, hjl, rfl⟩ := List.getElem_of_mem hx
   exact hj j _ hjl (by simp [hjl])
end Go.Ve

namespace Go.Ve
open Go
section
variable {α ρ : Type}
theorem zT8 {xs : List α} {body : Int → Option (Int ⊕ (Unit ⊕ ρ))} {Q : Unit ⊕ ρ → Prop} (hl : xs.length < 4611686018427387904) (J : Nat → Prop) (h0 : J 0)
  (step : ∀ i x, xs[i]? = some x → J i → Wp (body (i : Int)) (wU (fun s' => s' = IntKind.wrap IntKind.i64 ((i : Int) + 1) ∧ J (i + 1)) (fun o => (∀ u, o ≠ Sum.inl u) ∧ Q o))) (fin : J xs.length → Q (Sum.inl ())) :
  Wp (zO (fun s : Int => bif decide (s < (xs.length : Int)) then body s else some (Sum.inr (Sum.inl ()))) (0 : Int)) Q := by
 refine wF (fun (s : Int) => ∃ i : Nat, s = (i : Int) ∧ i ≤ xs.length ∧ J i) (fun (s : Int) => ((xs.length : Int) - s).toNat) ⟨(0 : Nat), rfl, Nat.zero_le _, h0⟩ ?_
 rintro s ⟨i, hi, hle, hj⟩
 subst hi
 refine zI ?_ ?_
 ·intro hc
  have hlt : i < xs.length := by omega
  refine (step i xs[i] (by simp [hlt]) hj).mono ?_
  intro o ho
  cases o with
  | inl s' =>
   obtain ⟨rfl, h2⟩ := ho
   rw [zD (by omega) (by omega)]
   exact ⟨⟨i + 1, by omega, hlt, h2⟩, by omega⟩
  | inr o => exact ho.2
 ·intro hc
  have : i = xs.length := by omega
  subst this
  exact zB (e2r (fin hj))
theorem zK5 {xs : List α} {P : α → Prop} {body : Int → Option (Int ⊕ (Unit ⊕ ρ))} {Q : Unit ⊕ ρ → Prop} (hl : xs.length < 4611686018427387904)
  (step : ∀ (i : Nat) x, xs[i]? = some x → Wp (body (i : Int)) (wU (fun s' => s' = IntKind.wrap IntKind.i64 ((i : Int) + 1) ∧ P x) (fun o => (∀ u, o ≠ Sum.inl u) ∧ Q o))) (fin : (∀ x, x ∈ xs → P x) → Q (Sum.inl ())) :
  Wp (zO (fun s : Int => bif decide (s < (xs.length : Int)) then body s else some (Sum.inr (Sum.inl ()))) (0 : Int)) Q := by
 refine zT8 hl (fun i => ∀ j y, j < i → xs[j]? = some y → P y) (fun j y hj => by omega) ?_ (fun h => fin ?_)
 ·intro i x hx hj
  refine (step i x hx).mono ?_
  intro o ho
  cases o with
  | inl s' =>
   refine ⟨ho.1, ?_⟩
   intro j y hj' hy
   rcases Nat.lt_or_ge j i with h' | h'
   ·exact hj j y h' hy
   ·have : j = i := by omega
    subst this
    rw [hx] at hy
    cases hy
    exact ho.2
  | inr o => exact ho
 ·intro x hx
  obtain ⟨j, hjl, rfl⟩ := List.getElem_of_mem hx
  exact h j _ hjl (by simp [hjl])
theorem zW0 {xs : List α} {body : Int × Bool → Option Bool} {Q : Bool → Prop} {p : α → Prop} (hl : xs.length < 4611686018427387904)
  (step : ∀ (i : Nat) x, xs[i]? = some x → body ((i : Int), true) = some true ∧ Wp (body ((i : Int), false)) (fun b => b = true ↔ p x)) (fin : ∀ b : Bool, (b = true ↔ ∃ x, x ∈ xs ∧ p x) → Q b) :
  Wp (zO (fun s : Int × Bool => bif decide (s.1 < (xs.length : Int)) then Option.bind (body s) (fun g => some (Sum.inl (IntKind.wrap IntKind.i64 (s.1 + (1 : Int)), g))) else some (Sum.inr s.2)) ((0 : Int), false)) Q := by
 refine zAy hl (fun i b => b = true ↔ ∃ x, x ∈ xs.take i ∧ p x) (by simp) ?_ (fun b hb => fin b (by rw [List.take_length] at hb; exact hb))
 intro i x b hx hb
 obtain ⟨h1, h2⟩ := step i x hx
 have hm : ∀ y, y ∈ xs.take (i + 1) ↔ y ∈ xs.take i ∨ y = x := by
  intro y
  rw [List.take_add_one, hx, Option.toList_some, List.mem_append, List.mem_singleton]
 cases b with
 | true =>
  obtain ⟨y, hy, hp⟩ := hb.1 rfl
  refine qV h1 ⟨fun _ => ⟨y, (hm y).2 (.inl hy), hp⟩, fun _ => rfl⟩
 | false =>
  refine h2.mono (fun c hc => hc.trans ⟨fun hp => ⟨x, (hm x).2 (.inr rfl), hp⟩, ?_⟩)
  rintro ⟨y, hy, hp⟩
  rcases (hm y).1 hy with hy | rfl
  ·exact absurd (hb.2 ⟨y, hy, hp⟩) (by simp)
  ·exact hp
end
end Go.Ve

namespace Go.Ve
open Go
section
variable {α : Type} {lt : α → α → Prop}
structure Ord (lt : α → α → Prop) : Prop where
 asym : ∀ x y, lt x y → ¬ lt y x
 tr : ∀ x y z, ¬ lt y x → ¬ lt z y → ¬ lt z x
theorem zBb (ho : Ord lt) : ∀ {xs ys : List α}, xs.Pairwise lt → ys.Pairwise lt → (∀ z, z ∈ xs ↔ z ∈ ys) → xs = ys
 | [], [], _, _, _ => rfl
 | [], y :: ys, _, _, h => by have := (h y).2 (by simp); cases this
 | x :: xs, [], _, _, h => by have := (h x).1 (by simp); cases this
 | x :: xs, y :: ys, hx, hy, h => by
  rw [List.pairwise_cons] at hx hy
  have irr : ∀ z, ¬ lt z z := fun z hz => ho.asym z z hz hz
  have e : x = y := by
   rcases List.mem_cons.1 ((h x).1 (by simp)) with h1 | h1
   ·exact h1
   ·rcases List.mem_cons.1 ((h y).2 (by simp)) with h2 | h2
    ·exact h2.symm
    ·exact absurd (hx.1 y h2) (ho.asym _ _ (hy.1 x h1))
  subst e
  have : xs = ys := by
   refine zBb ho hx.2 hy.2 (fun z => ⟨fun hz => ?_, fun hz => ?_⟩)
   ·rcases List.mem_cons.1 ((h z).1 (List.mem_cons_of_mem _ hz)) with rfl | h1
    ·exact absurd (hx.1 z hz) (irr z)
    ·exact h1
   ·rcases List.mem_cons.1 ((h z).2 (List.mem_cons_of_mem _ hz)) with rfl | h1
    ·exact absurd (hy.1 z hz) (irr z)
    ·exact h1
  rw [this]
end
end Go.Ve

namespace Go.Ve
open Go
set_option maxRecDepth 1000000
set_option maxHeartbeats 4000000
theorem vH {α : Type} {m : Option α} {x : α} (h : Wp m (fun r => r = x)) : m = some x := by
 obtain ⟨r, h1, rfl⟩ := h; exact h1
theorem zD4 {p q : Ty.El zG} (h : (p.1 == q.1 && (p.2.1 == q.2.1 && true)) = true) : p = q := by
 obtain ⟨a, b, ⟨⟩⟩ := p
 obtain ⟨c, d, ⟨⟩⟩ := q
 simp only [Bool.and_true, Bool.and_eq_true, beq_iff_eq] at h
 obtain ⟨rfl, rfl⟩ := h
 rfl
def zCn (a b c d : Int) : Prop := a < c ∨ (a = c ∧ b < d)
def plt (p q : Ty.El zG) : Prop := zCn p.1 p.2.1 q.1 q.2.1
theorem zFX : Ord plt where
 asym := fun x y h => by unfold plt zCn at *; omega
 tr := fun x y z h1 h2 => by unfold plt zCn at *; omega
theorem zSH {a b c d : Int} (h : ¬ zCn c d a b) (hne : ¬ (a = c ∧ b = d)) : zCn a b c d := by
 unfold zCn at *
 omega
theorem zOE {p q : Ty.El zG} (h : ¬ plt q p) (hne : p ≠ q) : plt p q := by
 refine zSH h (fun e => hne ?_)
 obtain ⟨a, b, ⟨⟩⟩ := p
 obtain ⟨c, d, ⟨⟩⟩ := q
 obtain ⟨rfl, rfl⟩ := e
 rfl
def zIX (a b c d : Int) : Int := if a < c then -1 else if c < a then 1 else if b < d then -1 else if d < b then 1 else 0
def zWA (p q : Ty.El zG) : Int := zIX p.1 p.2.1 q.1 q.2.1
theorem zO9 {a b c d : Int} : zIX a b c d < 0 ↔ zCn a b c d := by
 unfold zIX zCn
 split
 ·omega
 ·split
  ·omega
  ·split
   ·omega
   ·split <;> omega
theorem zIW {p q : Ty.El zG} : zWA p q < 0 ↔ plt p q := zO9
theorem zLw (a b : Int) : wC (a, b, ()) = some (if a < b then -1 else if b < a then 1 else 0) := by
 refine vH ?_
 unfold wC xJ
 simp only [Option.bind_some, bne_self_eq_false, cond_false]
 refine zI (fun h => zB ?_) (fun h => zI (fun h' => zB ?_) (fun h' => zB ?_))
 ·rw [if_pos h]
 ·rw [if_neg h, if_pos h']
 ·rw [if_neg h, if_neg h']
theorem zCc (a b : Int) : zZ (a, b, ()) = some (if a < b then -1 else if b < a then 1 else 0) := by
 refine vH ?_
 unfold zZ zBn
 simp only [Option.bind_some, bne_self_eq_false, cond_false]
 refine zI (fun h => zB ?_) (fun h => zI (fun h' => zB ?_) (fun h' => zB ?_))
 ·rw [if_pos h]
 ·rw [if_neg h, if_pos h']
 ·rw [if_neg h, if_neg h']
theorem zSU {a b c d : Int} : (if ((if a < c then (-1 : Int) else if c < a then 1 else 0) != 0) = true then (if a < c then (-1 : Int) else if c < a then 1 else 0) else (if b < d then (-1 : Int) else if d < b then 1 else 0)) = zIX a b c d := by
 unfold zIX
 by_cases h1 : a < c
 ·simp [h1]
 ·by_cases h2 : c < a
  ·simp [h1, h2]
  ·simp [h1, h2]
theorem zHZ (p q : Ty.El zG) : zAX (p, q, ()) = some (zWA p q) := by
 refine vH ?_
 unfold zAX
 dsimp only
 refine zC (qV (zLw _ _) (zF (fun h => zB ?_) (fun h => zC (qV (zCc _ _) (zB ?_)))))
 ·have := zSU (a := p.1) (b := p.2.1) (c := q.1) (d := q.2.1)
  rw [if_pos h] at this
  exact this
 ·have := zSU (a := p.1) (b := p.2.1) (c := q.1) (d := q.2.1)
  rw [if_neg (by rw [h]; simp)] at this
  exact this
theorem zXA {a b c d : Int} (h : zCn a b c d) : -1 = zIX a b c d := by
 unfold zIX; unfold zCn at h
 by_cases h1 : a < c
 ·rw [if_pos h1]
 ·rw [if_neg h1, if_neg (by omega), if_pos (by omega)]
theorem zXy {a b : Int} : 0 = zIX a b a b := by
 unfold zIX
 rw [if_neg (by omega), if_neg (by omega), if_neg (by omega), if_neg (by omega)]
theorem zXz {a b c d : Int} (h : ¬ zCn a b c d) (hne : ¬ (a = c ∧ b = d)) : 1 = zIX a b c d := by
 unfold zIX; unfold zCn at h
 rw [if_neg (by omega)]
 by_cases h1 : c < a
 ·rw [if_pos h1]
 ·rw [if_neg h1, if_neg (by omega), if_pos (by omega)]
theorem zCQ (p q : Ty.El zG) : vR (p, q, ()) = some (zWA p q) := by
 refine vH ?_
 unfold vR
 dsimp only
 refine zC ((show Wp _ (fun s : Bool => s = true ↔ plt p q) from ?_).mono (fun s hs => ?_))
 ·refine zI (fun h => zB ⟨fun _ => .inl h, fun _ => rfl⟩) (fun h => zF (fun h' => zB ?_) (fun h' => zB ?_))
  ·have h' : p.1 = q.1 := by simpa using h'
   rw [decide_eq_true_eq]
   constructor
   ·intro h2; exact .inr ⟨h', h2⟩
   ·intro h2
    rcases h2 with h2 | h2
    ·exact absurd h2 h
    ·exact h2.2
  ·have h' : ¬ p.1 = q.1 := by simpa using h'
   constructor
   ·intro h2; cases h2
   ·intro h2
    exfalso
    rcases h2 with h2 | h2
    ·exact h h2
    ·exact h' h2.1
 ·refine zF (fun h => zB (zXA (hs.1 h))) (fun h => zF (fun he => zB ?_) (fun he => zB (zXz ?_ ?_)))
  ·have := zD4 he
   subst this
   exact zXy
  ·exact fun hp => by rw [hs.2 hp] at h; cases h
  ·intro e
   have h1 : (p.1 == q.1) = true := by simpa using e.1
   have h2 : (p.2.1 == q.2.1) = true := by simpa using e.2
   rw [h1, h2] at he
   cases he
def zBv (p : Ty.El zG) (v : Int) (p' : Ty.El zG) (v' : Int) : Prop := plt p p' ∨ (p = p' ∧ v < v')
theorem zQh {p q r : Ty.El zG} {u v w : Int} (h1 : zBv p u q v) (h2 : zBv q v r w) : zBv p u r w := by
 rcases h1 with h1 | ⟨rfl, h1⟩
 ·rcases h2 with h2 | ⟨rfl, h2⟩
  ·exact .inl (by unfold plt zCn at *; omega)
  ·exact .inl h1
 ·rcases h2 with h2 | ⟨rfl, h2⟩
  ·exact .inl h2
  ·exact .inr ⟨rfl, by omega⟩
theorem zUZ {p q : Ty.El zG} {u v : Int} (h : ¬ zBv p u q v) (hne : ¬ (p = q ∧ u = v)) : zBv q v p u := by
 by_cases he : p = q
 ·subst he
  refine .inr ⟨rfl, ?_⟩
  have h1 : ¬ u < v := fun h' => h (.inr ⟨rfl, h'⟩)
  have h2 : ¬ u = v := fun h' => hne ⟨rfl, h'⟩
  omega
 ·exact .inl (zOE (fun h' => h (.inl h')) (fun h' => he h'.symm))
theorem zTv {p : Ty.El zG} {u : Int} : ¬ zBv p u p u := by
 rintro (h | ⟨_, h⟩)
 ·unfold plt zCn at h; omega
 ·omega
end Go.Ve

namespace Go.Ve
open Go
set_option maxRecDepth 1000000
set_option maxHeartbeats 4000000
theorem jD {α : Type} {xs : List α} {i : Int} {y : α} (h : xs[i.toNat]? = some y) (h0 : 0 ≤ i := by omega) : idx xs i = some y := by
 rw [idx, if_pos h0]; exact h
theorem z7 {α : Type} {xs : List α} {i : Int} {Q : α → Prop} {B : α → Prop} (hB : ∀ y, y ∈ xs → B y) (h0 : 0 ≤ i) (h1 : i < xs.length) (h : ∀ y, xs[i.toNat]? = some y → B y → Q y) : Wp (idx xs i) Q :=
 j1 h0 h1 (fun y hm hy => h y hy (hB y hm))
structure SmR (r : Ty.El zH) : Prop where
 i1 : List.length r.2.2.1 ≤ 20
 i2 : List.length r.2.2.2.1 ≤ 20
 i3 : List.length r.2.2.2.2.1 ≤ 20
 i4 : List.length r.2.2.2.2.2.1 ≤ 20
 i5 : List.length r.2.2.2.2.2.2.1 ≤ 20
 i6 : List.length r.2.2.2.2.2.2.2.1 ≤ 20
 i7 : List.length r.2.2.2.2.2.2.2.2.1.2.2.1 ≤ 20
 i8 : List.length r.2.2.2.2.2.2.2.2.1.2.2.2.1 ≤ 20
 i9 : List.length r.2.2.2.2.2.2.2.2.2.1.2.2.2.2.1 ≤ 20
 i10 : List.length r.2.2.2.2.2.2.2.2.2.2.1.2.2.2.1 ≤ 20
 i11 : List.length r.2.2.2.2.2.2.2.2.2.2.1.2.2.2.2.1 ≤ 20
 i12 : List.length r.2.2.2.2.2.2.2.2.2.2.1.2.2.2.2.2.1 ≤ 20
 i13 : List.length r.2.2.2.2.2.2.2.2.2.2.1.2.2.2.2.2.2.1 ≤ 20
 i14 : List.length r.2.2.2.2.2.2.2.2.2.2.1.2.2.2.2.2.2.2.1 ≤ 20
 n1 : ∀ y, y ∈ r.2.2.2.1 → List.length y.2.1 ≤ 20
 n2 : ∀ y, y ∈ r.2.2.2.2.1 → List.length y.2.1 ≤ 20
 n3 : ∀ y, y ∈ r.2.2.2.2.2.1 → List.length y.2.1 ≤ 20
structure zYl (r : Ty.El tPV) : Prop where
 i10 : List.length r.2.2.2.1 ≤ 20
 i11 : List.length r.2.2.2.2.1 ≤ 20
 i12 : List.length r.2.2.2.2.2.1 ≤ 20
 i13 : List.length r.2.2.2.2.2.2.1 ≤ 20
 i14 : List.length r.2.2.2.2.2.2.2.1 ≤ 20
theorem zC9 (a1 : Int) : Wp (zAo (a1, ())) (fun _ => True) := by
 unfold zAo
 refine zC ?_
 refine zVP (fun _ _ => True) trivial (fun s g h1 h2 _ => ?_) (fun s g _ _ _ => zB (e2r (zB trivial)))
 refine zC ?_
 refine zI (fun _ => ?_) (fun _ => ?_)
 ·refine zI (fun _ => ?_) (fun hn => ?_)
  ·exact zB (zB (e2l ⟨zD (by simp only; omega) (by simp only; omega), trivial⟩))
  ·exfalso
   apply hn
   simp only
   rw [zD (by omega) (by omega), zHF (by omega) (by omega)]
   omega
 ·exact zB (zB (e2l ⟨zD (by simp only; omega) (by simp only; omega), trivial⟩))
theorem zKt (a1 : Ty.El (.int .u8))  : Wp (zBr (a1, ())) (fun _ => True) := by
 unfold zBr
 try dsimp only
 repeat' (first
  | with_reducible exact trivial
  | assumption
  | contradiction
  | with_reducible first | refine zB ?_ | refine zI (fun _ => ?_) (fun _ => ?_) | refine zF (fun _ => ?_) (fun _ => ?_) | refine zC ?_
  | omega)
theorem vY (a1 : Ty.El (.str))  : Wp (zAn (a1, ())) (fun _ => True) := by
 unfold zAn
 try dsimp only
 repeat' (first
  | with_reducible exact trivial
  | assumption
  | contradiction
  | with_reducible first | refine zB ?_ | refine (zKt _).mono (fun r _ => ?_) | refine uV ?_ ?_ (fun y _ _ => ?_) | refine jM (fun _ => ?_) (fun _ => ?_) | refine zI (fun _ => ?_) (fun _ => ?_) | refine zF (fun _ => ?_) (fun _ => ?_) | refine z8 ?_ | refine j6 (fun s _ _ => ?_) (fun s _ _ => ?_) | refine zC ?_ | refine e2l ?_ | refine e2r ?_
  | exact zD (by omega) (by omega)
  | omega
  | (simp only [List.length_cons, List.length_nil] at *; exact zD (by omega) (by omega)))
theorem qW (a1 : Ty.El (tI)) (a2 : Ty.El (tI)) (a3 : Ty.El (tI))  : Wp (zU (a1, a2, a3, ())) (fun _ => True) := by
 unfold zU
 try dsimp only
 repeat' (first
  | with_reducible exact trivial
  | assumption
  | contradiction
  | with_reducible first | refine zB ?_ | refine zI (fun _ => ?_) (fun _ => ?_) | refine zF (fun _ => ?_) (fun _ => ?_) | refine zC ?_
  | omega)
theorem zDk (a1 : Ty.El (tU)) (a2 : Ty.El (tI))  : Wp (wG (a1, a2, ())) (fun _ => True) := by
 unfold wG
 try dsimp only
 repeat' (first
  | with_reducible exact trivial
  | assumption
  | contradiction
  | with_reducible first | refine zB ?_ | refine (zC9 _).mono (fun r _ => ?_) | refine zC ?_
  | exact zD (by omega) (by omega)
  | omega
  | (simp only [List.length_cons, List.length_nil] at *; exact zD (by omega) (by omega)))
theorem zHK (a1 : Ty.El (zG)) (a2 : Ty.El (tU))  : Wp (uW (a1, a2, ())) (fun _ => True) := by
 unfold uW
 try dsimp only
 repeat' (first
  | with_reducible exact trivial
  | assumption
  | contradiction
  | with_reducible first | refine zB ?_ | refine (zC9 _).mono (fun r _ => ?_) | refine zC ?_
  | exact zD (by omega) (by omega)
  | omega
  | (simp only [List.length_cons, List.length_nil] at *; exact zD (by omega) (by omega)))
theorem zKu (a1 : Ty.El (zG)) (a2 : Ty.El (zG))  : Wp (vQ (a1, a2, ())) (fun _ => True) := by
 unfold vQ
 try dsimp only
 repeat' (first
  | with_reducible exact trivial
  | assumption
  | contradiction
  | with_reducible first | refine zB ?_ | refine (zHK _ _).mono (fun r _ => ?_) | refine zI (fun _ => ?_) (fun _ => ?_) | refine zF (fun _ => ?_) (fun _ => ?_) | refine zC ?_
  | omega)
theorem zCO (a1 : Ty.El (zG)) (a2 : Ty.El (zG))  : Wp (v6 (a1, a2, ())) (fun _ => True) := by
 unfold v6
 try dsimp only
 repeat' (first
  | with_reducible exact trivial
  | assumption
  | contradiction
  | with_reducible first | refine zB ?_ | refine (zKu _ _).mono (fun r _ => ?_) | refine zF (fun _ => ?_) (fun _ => ?_) | refine zC ?_
  | omega)
theorem zF9 (a1 : Ty.El (.sl qA)) (h0 : List.length a1 ≤ 20) : Wp (vL (a1, ())) (fun _ => True) := by
 unfold vL
 try dsimp only
 repeat' (first
  | with_reducible exact trivial
  | assumption
  | contradiction
  | with_reducible first | refine zB ?_ | refine (vY _).mono (fun r _ => ?_) | refine (qW _ _ _).mono (fun r _ => ?_) | refine (zDk _ _).mono (fun r _ => ?_) | refine (zCO _ _).mono (fun r _ => ?_) | refine j1 ?_ ?_ (fun y _ _ => ?_) | refine jM (fun _ => ?_) (fun _ => ?_) | refine zI (fun _ => ?_) (fun _ => ?_) | refine zF (fun _ => ?_) (fun _ => ?_) | refine z8 ?_ | refine j6 (fun s _ _ => ?_) (fun s _ _ => ?_)
  | simp only [jD ‹_[_]? = some _›, Option.bind_some]
  | with_reducible first | refine zC ?_ | refine e2l ?_ | refine e2r ?_
  | exact zD (by omega) (by omega)
  | omega
  | (simp only [List.length_cons, List.length_nil] at *; exact zD (by omega) (by omega)))
theorem yF (a1 : Ty.El (zG))  : Wp (wA (a1, ())) (fun _ => True) := by
 unfold wA
 try dsimp only
 repeat' (first
  | with_reducible exact trivial
  | assumption
  | contradiction
  | with_reducible first | refine zB ?_ | refine (zC9 _).mono (fun r _ => ?_) | refine zI (fun _ => ?_) (fun _ => ?_) | refine zF (fun _ => ?_) (fun _ => ?_) | refine zC ?_
  | exact zD (by omega) (by omega)
  | omega
  | (simp only [List.length_cons, List.length_nil] at *; exact zD (by omega) (by omega)))
theorem zC8 (a1 : Ty.El (uX))  : Wp (vP (a1, ())) (fun _ => True) := by
 unfold vP
 try dsimp only
 repeat' (first
  | with_reducible exact trivial
  | assumption
  | contradiction
  | with_reducible first | refine zB ?_ | refine (yF _).mono (fun r _ => ?_) | refine zI (fun _ => ?_) (fun _ => ?_) | refine zF (fun _ => ?_) (fun _ => ?_) | refine zC ?_
  | omega)
theorem zBo (a1 : Ty.El (.sl jI)) (h0 : List.length a1 ≤ 20) (h1 : ∀ y, y ∈ a1 → List.length y.2.1 ≤ 20) : Wp (kS (a1, ())) (fun _ => True) := by
 unfold kS
 try dsimp only
 repeat' (first
  | with_reducible exact trivial
  | assumption
  | contradiction
  | with_reducible first | refine zB ?_ | refine (vY _).mono (fun r _ => ?_) | refine (zC8 _).mono (fun r _ => ?_) | refine z7 h1 ?_ ?_ (fun y _ _ => ?_) | refine j1 ?_ ?_ (fun y _ _ => ?_) | refine jM (fun _ => ?_) (fun _ => ?_) | refine zI (fun _ => ?_) (fun _ => ?_) | refine zF (fun _ => ?_) (fun _ => ?_) | refine z8 ?_ | refine j6 (fun s _ _ => ?_) (fun s _ _ => ?_)
  | simp only [jD ‹_[_]? = some _›, Option.bind_some]
  | with_reducible first | refine zC ?_ | refine e2l ?_ | refine e2r ?_
  | exact zD (by omega) (by omega)
  | omega
  | (simp only [List.length_cons, List.length_nil] at *; exact zD (by omega) (by omega)))
theorem zBI (a1 : Ty.El (zH)) (a2 : Ty.El (.str)) (h0 : SmR a1) : Wp (jH (a1, a2, ())) (fun (r : Int) => -1 ≤ r ∧ r < (List.length a1.2.2.2.1 : Int)) := by
 have hh0 := h0
 obtain ⟨i1, i2, i3, i4, i5, i6, i7, i8, i9, i10, i11, i12, i13, i14, n1, n2, n3⟩ := hh0
 unfold jH
 try dsimp only
 repeat' (first
  | with_reducible exact trivial
  | exact ⟨i10, i11, i12, i13, i14⟩
  | assumption
  | contradiction
  | with_reducible first | refine zB ?_ | refine z7 n1 ?_ ?_ (fun y _ _ => ?_) | refine z7 n2 ?_ ?_ (fun y _ _ => ?_) | refine z7 n3 ?_ ?_ (fun y _ _ => ?_) | refine j1 ?_ ?_ (fun y _ _ => ?_) | refine zI (fun _ => ?_) (fun _ => ?_) | refine zF (fun _ => ?_) (fun _ => ?_) | refine z8 ?_ | refine j6 (fun s _ _ => ?_) (fun s _ _ => ?_)
  | simp only [jD ‹_[_]? = some _›, Option.bind_some]
  | with_reducible first | refine zC ?_ | refine e2l ?_ | refine e2r ?_
  | exact zD (by omega) (by omega)
  | omega
  | (simp only [List.length_cons, List.length_nil] at *; exact zD (by omega) (by omega))
  | exact ⟨by omega, by omega⟩)
theorem zB6 (a1 : Ty.El (zH)) (h0 : SmR a1) : Wp (yG (a1, ())) (fun _ => True) := by
 have hh0 := h0
 obtain ⟨i1, i2, i3, i4, i5, i6, i7, i8, i9, i10, i11, i12, i13, i14, n1, n2, n3⟩ := hh0
 unfold yG
 try dsimp only
 repeat' (first
  | with_reducible exact trivial
  | exact ⟨i10, i11, i12, i13, i14⟩
  | assumption
  | contradiction
  | with_reducible first | refine zB ?_ | refine (vY _).mono (fun r _ => ?_) | refine (zBI _ _ ?_).mono (fun r _ => ?_) | refine (qW _ _ _).mono (fun r _ => ?_) | refine z7 n1 ?_ ?_ (fun y _ _ => ?_) | refine z7 n2 ?_ ?_ (fun y _ _ => ?_) | refine z7 n3 ?_ ?_ (fun y _ _ => ?_) | refine j1 ?_ ?_ (fun y _ _ => ?_) | refine jM (fun _ => ?_) (fun _ => ?_) | refine zI (fun _ => ?_) (fun _ => ?_) | refine zF (fun _ => ?_) (fun _ => ?_) | refine z8 ?_ | refine j6 (fun s _ _ => ?_) (fun s _ _ => ?_)
  | simp only [jD ‹_[_]? = some _›, Option.bind_some]
  | with_reducible first | refine zC ?_ | refine e2l ?_ | refine e2r ?_
  | exact zD (by omega) (by omega)
  | omega
  | (simp only [List.length_cons, List.length_nil] at *; exact zD (by omega) (by omega)))
theorem zLn (a1 : Ty.El (zJ))  : Wp (zCg (a1, ())) (fun _ => True) := by
 unfold zCg
 try dsimp only
 repeat' (first
  | with_reducible exact trivial
  | assumption
  | contradiction
  | with_reducible first | refine zB ?_ | refine zI (fun _ => ?_) (fun _ => ?_) | refine zF (fun _ => ?_) (fun _ => ?_) | refine zC ?_
  | omega)
theorem zOm (a1 : Ty.El (zJ))  : Wp (zFm (a1, ())) (fun _ => True) := by
 unfold zFm
 try dsimp only
 repeat' (first
  | with_reducible exact trivial
  | assumption
  | contradiction
  | with_reducible refine zB ?_
  | omega)
theorem zGR (a1 : Ty.El (zPv))  : Wp (zAK (a1, ())) (fun _ => True) := by
 unfold zAK
 try dsimp only
 repeat' (first
  | with_reducible exact trivial
  | assumption
  | contradiction
  | with_reducible first | refine zB ?_ | refine (qW _ _ _).mono (fun r _ => ?_) | refine (zLn _).mono (fun r _ => ?_) | refine (zOm _).mono (fun r _ => ?_) | refine jM (fun _ => ?_) (fun _ => ?_) | refine zF (fun _ => ?_) (fun _ => ?_) | refine zC ?_
  | exact zD (by omega) (by omega)
  | omega
  | (simp only [List.length_cons, List.length_nil] at *; exact zD (by omega) (by omega)))
theorem zBp (a1 : Ty.El (.sl zJb)) (h0 : List.length a1 ≤ 20) (h1 : ∀ y, y ∈ a1 → List.length y.2.1 ≤ 20) : Wp (kU (a1, ())) (fun _ => True) := by
 unfold kU
 try dsimp only
 repeat' (first
  | with_reducible exact trivial
  | assumption
  | contradiction
  | with_reducible first | refine zB ?_ | refine (vY _).mono (fun r _ => ?_) | refine (zGR _).mono (fun r _ => ?_) | refine z7 h1 ?_ ?_ (fun y _ _ => ?_) | refine j1 ?_ ?_ (fun y _ _ => ?_) | refine jM (fun _ => ?_) (fun _ => ?_) | refine zI (fun _ => ?_) (fun _ => ?_) | refine zF (fun _ => ?_) (fun _ => ?_) | refine z8 ?_ | refine j6 (fun s _ _ => ?_) (fun s _ _ => ?_)
  | simp only [jD ‹_[_]? = some _›, Option.bind_some]
  | with_reducible first | refine zC ?_ | refine e2l ?_ | refine e2r ?_
  | exact zD (by omega) (by omega)
  | omega
  | (simp only [List.length_cons, List.length_nil] at *; exact zD (by omega) (by omega)))
theorem zHJ (a1 : Ty.El (zH)) (a2 : Ty.El (.str)) (h0 : SmR a1) : Wp (zCh (a1, a2, ())) (fun (r : Int) => -1 ≤ r ∧ r < (List.length a1.2.2.2.2.2.1 : Int)) := by
 have hh0 := h0
 obtain ⟨i1, i2, i3, i4, i5, i6, i7, i8, i9, i10, i11, i12, i13, i14, n1, n2, n3⟩ := hh0
 unfold zCh
 try dsimp only
 repeat' (first
  | with_reducible exact trivial
  | exact ⟨i10, i11, i12, i13, i14⟩
  | assumption
  | contradiction
  | with_reducible first | refine zB ?_ | refine z7 n1 ?_ ?_ (fun y _ _ => ?_) | refine z7 n2 ?_ ?_ (fun y _ _ => ?_) | refine z7 n3 ?_ ?_ (fun y _ _ => ?_) | refine j1 ?_ ?_ (fun y _ _ => ?_) | refine zI (fun _ => ?_) (fun _ => ?_) | refine zF (fun _ => ?_) (fun _ => ?_) | refine z8 ?_ | refine j6 (fun s _ _ => ?_) (fun s _ _ => ?_)
  | simp only [jD ‹_[_]? = some _›, Option.bind_some]
  | with_reducible first | refine zC ?_ | refine e2l ?_ | refine e2r ?_
  | exact zD (by omega) (by omega)
  | omega
  | (simp only [List.length_cons, List.length_nil] at *; exact zD (by omega) (by omega))
  | exact ⟨by omega, by omega⟩)
theorem zAZ (a1 : Ty.El (zH)) (h0 : SmR a1) : Wp (vO (a1, ())) (fun _ => True) := by
 have hh0 := h0
 obtain ⟨i1, i2, i3, i4, i5, i6, i7, i8, i9, i10, i11, i12, i13, i14, n1, n2, n3⟩ := hh0
 unfold vO
 try dsimp only
 repeat' (first
  | with_reducible exact trivial
  | exact ⟨i10, i11, i12, i13, i14⟩
  | assumption
  | contradiction
  | with_reducible first | refine zB ?_ | refine (qW _ _ _).mono (fun r _ => ?_) | refine (zHJ _ _ ?_).mono (fun r _ => ?_) | refine z7 n1 ?_ ?_ (fun y _ _ => ?_) | refine z7 n2 ?_ ?_ (fun y _ _ => ?_) | refine z7 n3 ?_ ?_ (fun y _ _ => ?_) | refine j1 ?_ ?_ (fun y _ _ => ?_) | refine jM (fun _ => ?_) (fun _ => ?_) | refine zI (fun _ => ?_) (fun _ => ?_) | refine zF (fun _ => ?_) (fun _ => ?_) | refine z8 ?_ | refine j6 (fun s _ _ => ?_) (fun s _ _ => ?_)
  | simp only [jD ‹_[_]? = some _›, Option.bind_some]
  | with_reducible first | refine zC ?_ | refine e2l ?_ | refine e2r ?_
  | exact zD (by omega) (by omega)
  | omega
  | (simp only [List.length_cons, List.length_nil] at *; exact zD (by omega) (by omega)))
theorem zDj (a1 : Ty.El (zH)) (h0 : SmR a1) : Wp (zAJ (a1, ())) (fun _ => True) := by
 have hh0 := h0
 obtain ⟨i1, i2, i3, i4, i5, i6, i7, i8, i9, i10, i11, i12, i13, i14, n1, n2, n3⟩ := hh0
 unfold zAJ
 try dsimp only
 repeat' (first
  | with_reducible exact trivial
  | exact ⟨i10, i11, i12, i13, i14⟩
  | assumption
  | contradiction
  | with_reducible first | refine zB ?_ | refine (zHJ _ _ ?_).mono (fun r _ => ?_) | refine z7 n1 ?_ ?_ (fun y _ _ => ?_) | refine z7 n2 ?_ ?_ (fun y _ _ => ?_) | refine z7 n3 ?_ ?_ (fun y _ _ => ?_) | refine j1 ?_ ?_ (fun y _ _ => ?_) | refine zI (fun _ => ?_) (fun _ => ?_) | refine zF (fun _ => ?_) (fun _ => ?_) | refine z8 ?_ | refine j6 (fun s _ _ => ?_) (fun s _ _ => ?_)
  | simp only [jD ‹_[_]? = some _›, Option.bind_some]
  | with_reducible first | refine zC ?_ | refine e2l ?_ | refine e2r ?_
  | exact zD (by omega) (by omega)
  | omega
  | (simp only [List.length_cons, List.length_nil] at *; exact zD (by omega) (by omega)))
theorem zA7 (a1 : Ty.El (zH)) (a2 : Ty.El (tU)) (h0 : SmR a1) : Wp (uL (a1, a2, ())) (fun (r : Int) => -1 ≤ r ∧ r < (List.length a1.2.2.1 : Int)) := by
 have hh0 := h0
 obtain ⟨i1, i2, i3, i4, i5, i6, i7, i8, i9, i10, i11, i12, i13, i14, n1, n2, n3⟩ := hh0
 unfold uL
 try dsimp only
 repeat' (first
  | with_reducible exact trivial
  | exact ⟨i10, i11, i12, i13, i14⟩
  | assumption
  | contradiction
  | with_reducible first | refine zB ?_ | refine z7 n1 ?_ ?_ (fun y _ _ => ?_) | refine z7 n2 ?_ ?_ (fun y _ _ => ?_) | refine z7 n3 ?_ ?_ (fun y _ _ => ?_) | refine j1 ?_ ?_ (fun y _ _ => ?_) | refine zI (fun _ => ?_) (fun _ => ?_) | refine zF (fun _ => ?_) (fun _ => ?_) | refine z8 ?_ | refine j6 (fun s _ _ => ?_) (fun s _ _ => ?_)
  | simp only [jD ‹_[_]? = some _›, Option.bind_some]
  | with_reducible first | refine zC ?_ | refine e2l ?_ | refine e2r ?_
  | exact zD (by omega) (by omega)
  | omega
  | (simp only [List.length_cons, List.length_nil] at *; exact zD (by omega) (by omega))
  | exact ⟨by omega, by omega⟩)
theorem zGS (a1 : Ty.El (zH)) (a2 : Ty.El (.str)) (h0 : SmR a1) : Wp (kW (a1, a2, ())) (fun (r : Int) => -1 ≤ r ∧ r < (List.length a1.2.2.1 : Int)) := by
 have hh0 := h0
 obtain ⟨i1, i2, i3, i4, i5, i6, i7, i8, i9, i10, i11, i12, i13, i14, n1, n2, n3⟩ := hh0
 unfold kW
 try dsimp only
 repeat' (first
  | with_reducible exact trivial
  | exact ⟨i10, i11, i12, i13, i14⟩
  | assumption
  | contradiction
  | with_reducible first | refine zB ?_ | refine z7 n1 ?_ ?_ (fun y _ _ => ?_) | refine z7 n2 ?_ ?_ (fun y _ _ => ?_) | refine z7 n3 ?_ ?_ (fun y _ _ => ?_) | refine j1 ?_ ?_ (fun y _ _ => ?_) | refine zI (fun _ => ?_) (fun _ => ?_) | refine zF (fun _ => ?_) (fun _ => ?_) | refine z8 ?_ | refine j6 (fun s _ _ => ?_) (fun s _ _ => ?_)
  | simp only [jD ‹_[_]? = some _›, Option.bind_some]
  | with_reducible first | refine zC ?_ | refine e2l ?_ | refine e2r ?_
  | exact zD (by omega) (by omega)
  | omega
  | (simp only [List.length_cons, List.length_nil] at *; exact zD (by omega) (by omega))
  | exact ⟨by omega, by omega⟩)
theorem zJa (a1 : Ty.El (zH)) (h0 : SmR a1) : Wp (xB (a1, ())) (fun _ => True) := by
 have hh0 := h0
 obtain ⟨i1, i2, i3, i4, i5, i6, i7, i8, i9, i10, i11, i12, i13, i14, n1, n2, n3⟩ := hh0
 unfold xB
 try dsimp only
 repeat' (first
  | with_reducible exact trivial
  | exact ⟨i10, i11, i12, i13, i14⟩
  | assumption
  | contradiction
  | with_reducible first | refine zB ?_ | refine (yF _).mono (fun r _ => ?_) | refine (zA7 _ _ ?_).mono (fun r _ => ?_) | refine (qW _ _ _).mono (fun r _ => ?_) | refine (zGS _ _ ?_).mono (fun r _ => ?_) | refine z7 n1 ?_ ?_ (fun y _ _ => ?_) | refine z7 n2 ?_ ?_ (fun y _ _ => ?_) | refine z7 n3 ?_ ?_ (fun y _ _ => ?_) | refine j1 ?_ ?_ (fun y _ _ => ?_) | refine jM (fun _ => ?_) (fun _ => ?_) | refine zI (fun _ => ?_) (fun _ => ?_) | refine zF (fun _ => ?_) (fun _ => ?_) | refine z8 ?_ | refine j6 (fun s _ _ => ?_) (fun s _ _ => ?_)
  | simp only [jD ‹_[_]? = some _›, Option.bind_some]
  | with_reducible first | refine zC ?_ | refine e2l ?_ | refine e2r ?_
  | exact zD (by omega) (by omega)
  | omega
  | (simp only [List.length_cons, List.length_nil] at *; exact zD (by omega) (by omega)))
theorem zCN (a1 : Ty.El (zH)) (a2 : Ty.El (.str)) (h0 : SmR a1) : Wp (vZ (a1, a2, ())) (fun (r : Int) => -1 ≤ r ∧ r < (List.length a1.2.2.2.2.1 : Int)) := by
 have hh0 := h0
 obtain ⟨i1, i2, i3, i4, i5, i6, i7, i8, i9, i10, i11, i12, i13, i14, n1, n2, n3⟩ := hh0
 unfold vZ
 try dsimp only
 repeat' (first
  | with_reducible exact trivial
  | exact ⟨i10, i11, i12, i13, i14⟩
  | assumption
  | contradiction
  | with_reducible first | refine zB ?_ | refine z7 n1 ?_ ?_ (fun y _ _ => ?_) | refine z7 n2 ?_ ?_ (fun y _ _ => ?_) | refine z7 n3 ?_ ?_ (fun y _ _ => ?_) | refine j1 ?_ ?_ (fun y _ _ => ?_) | refine zI (fun _ => ?_) (fun _ => ?_) | refine zF (fun _ => ?_) (fun _ => ?_) | refine z8 ?_ | refine j6 (fun s _ _ => ?_) (fun s _ _ => ?_)
  | simp only [jD ‹_[_]? = some _›, Option.bind_some]
  | with_reducible first | refine zC ?_ | refine e2l ?_ | refine e2r ?_
  | exact zD (by omega) (by omega)
  | omega
  | (simp only [List.length_cons, List.length_nil] at *; exact zD (by omega) (by omega))
  | exact ⟨by omega, by omega⟩)
theorem vX (a1 : Ty.El (zH)) (a2 : Ty.El (.sl zCP)) (a3 : Ty.El (tI)) (a4 : Ty.El (tI)) (a5 : Ty.El (tI)) (h0 : SmR a1) (h1 : List.length a2 ≤ 20) : Wp (jT (a1, a2, a3, a4, a5, ())) (fun _ => True) := by
 have hh0 := h0
 obtain ⟨i1, i2, i3, i4, i5, i6, i7, i8, i9, i10, i11, i12, i13, i14, n1, n2, n3⟩ := hh0
 unfold jT
 try dsimp only
 repeat' (first
  | with_reducible exact trivial
  | exact ⟨i10, i11, i12, i13, i14⟩
  | assumption
  | contradiction
  | with_reducible first | refine zB ?_ | refine (qW _ _ _).mono (fun r _ => ?_) | refine (zCN _ _ ?_).mono (fun r _ => ?_) | refine z7 n1 ?_ ?_ (fun y _ _ => ?_) | refine z7 n2 ?_ ?_ (fun y _ _ => ?_) | refine z7 n3 ?_ ?_ (fun y _ _ => ?_) | refine j1 ?_ ?_ (fun y _ _ => ?_) | refine jM (fun _ => ?_) (fun _ => ?_) | refine zI (fun _ => ?_) (fun _ => ?_) | refine zF (fun _ => ?_) (fun _ => ?_) | refine z8 ?_ | refine j6 (fun s _ _ => ?_) (fun s _ _ => ?_)
  | simp only [jD ‹_[_]? = some _›, Option.bind_some]
  | with_reducible first | refine zC ?_ | refine e2l ?_ | refine e2r ?_
  | exact zD (by omega) (by omega)
  | omega
  | (simp only [List.length_cons, List.length_nil] at *; exact zD (by omega) (by omega)))
theorem zB7 (a1 : Ty.El (zH)) (h0 : SmR a1) : Wp (yH (a1, ())) (fun _ => True) := by
 have hh0 := h0
 obtain ⟨i1, i2, i3, i4, i5, i6, i7, i8, i9, i10, i11, i12, i13, i14, n1, n2, n3⟩ := hh0
 unfold yH
 try dsimp only
 repeat' (first
  | with_reducible exact trivial
  | exact ⟨i10, i11, i12, i13, i14⟩
  | assumption
  | contradiction
  | with_reducible first | refine zB ?_ | refine (qW _ _ _).mono (fun r _ => ?_) | refine (yF _).mono (fun r _ => ?_) | refine (zCO _ _).mono (fun r _ => ?_) | refine (vX _ _ _ _ _ ?_ ?_).mono (fun r _ => ?_) | refine z7 n1 ?_ ?_ (fun y _ _ => ?_) | refine z7 n2 ?_ ?_ (fun y _ _ => ?_) | refine z7 n3 ?_ ?_ (fun y _ _ => ?_) | refine j1 ?_ ?_ (fun y _ _ => ?_) | refine jM (fun _ => ?_) (fun _ => ?_) | refine zI (fun _ => ?_) (fun _ => ?_) | refine zF (fun _ => ?_) (fun _ => ?_) | refine z8 ?_ | refine j6 (fun s _ _ => ?_) (fun s _ _ => ?_)
  | simp only [jD ‹_[_]? = some _›, Option.bind_some]
  | with_reducible first | refine zC ?_ | refine e2l ?_ | refine e2r ?_
  | exact zD (by omega) (by omega)
  | omega
  | (simp only [List.length_cons, List.length_nil] at *; exact zD (by omega) (by omega)))
theorem zCM (a1 : Ty.El (zH)) (h0 : SmR a1) : Wp (xW (a1, ())) (fun _ => True) := by
 have hh0 := h0
 obtain ⟨i1, i2, i3, i4, i5, i6, i7, i8, i9, i10, i11, i12, i13, i14, n1, n2, n3⟩ := hh0
 unfold xW
 try dsimp only
 repeat' (first
  | with_reducible exact trivial
  | exact ⟨i10, i11, i12, i13, i14⟩
  | assumption
  | contradiction
  | with_reducible first | refine zB ?_ | refine (qW _ _ _).mono (fun r _ => ?_) | refine (zBI _ _ ?_).mono (fun r _ => ?_) | refine (vX _ _ _ _ _ ?_ ?_).mono (fun r _ => ?_) | refine jM (fun _ => ?_) (fun _ => ?_) | refine zI (fun _ => ?_) (fun _ => ?_) | refine zF (fun _ => ?_) (fun _ => ?_) | refine zC ?_
  | omega)
theorem zGQ (a1 : Ty.El (zH)) (h0 : SmR a1) : Wp (zAI (a1, ())) (fun _ => True) := by
 have hh0 := h0
 obtain ⟨i1, i2, i3, i4, i5, i6, i7, i8, i9, i10, i11, i12, i13, i14, n1, n2, n3⟩ := hh0
 unfold zAI
 try dsimp only
 repeat' (first
  | with_reducible exact trivial
  | exact ⟨i10, i11, i12, i13, i14⟩
  | assumption
  | contradiction
  | with_reducible first | refine zB ?_ | refine (qW _ _ _).mono (fun r _ => ?_) | refine (zCN _ _ ?_).mono (fun r _ => ?_) | refine z7 n1 ?_ ?_ (fun y _ _ => ?_) | refine z7 n2 ?_ ?_ (fun y _ _ => ?_) | refine z7 n3 ?_ ?_ (fun y _ _ => ?_) | refine j1 ?_ ?_ (fun y _ _ => ?_) | refine zI (fun _ => ?_) (fun _ => ?_) | refine zF (fun _ => ?_) (fun _ => ?_) | refine z8 ?_ | refine j6 (fun s _ _ => ?_) (fun s _ _ => ?_)
  | simp only [jD ‹_[_]? = some _›, Option.bind_some]
  | with_reducible first | refine zC ?_ | refine e2l ?_ | refine e2r ?_
  | exact zD (by omega) (by omega)
  | omega
  | (simp only [List.length_cons, List.length_nil] at *; exact zD (by omega) (by omega)))
theorem zEL (a1 : Ty.El (tPV)) (h0 : zYl a1) : Wp (u9 (a1, ())) (fun _ => True) := by
 have hh0 := h0
 obtain ⟨i10, i11, i12, i13, i14⟩ := hh0
 unfold u9
 try dsimp only
 repeat' (first
  | with_reducible exact trivial
  | assumption
  | contradiction
  | with_reducible first | refine zB ?_ | refine (yF _).mono (fun r _ => ?_) | refine j1 ?_ ?_ (fun y _ _ => ?_) | refine jM (fun _ => ?_) (fun _ => ?_) | refine zI (fun _ => ?_) (fun _ => ?_) | refine zF (fun _ => ?_) (fun _ => ?_) | refine z8 ?_ | refine j6 (fun s _ _ => ?_) (fun s _ _ => ?_)
  | simp only [jD ‹_[_]? = some _›, Option.bind_some]
  | with_reducible first | refine zC ?_ | refine e2l ?_ | refine e2r ?_
  | exact zD (by omega) (by omega)
  | omega
  | (simp only [List.length_cons, List.length_nil] at *; exact zD (by omega) (by omega)))
theorem zBH (a1 : Ty.El (zH)) (h0 : SmR a1) : Wp (uR (a1, ())) (fun _ => True) := by
 have hh0 := h0
 obtain ⟨i1, i2, i3, i4, i5, i6, i7, i8, i9, i10, i11, i12, i13, i14, n1, n2, n3⟩ := hh0
 unfold uR
 try dsimp only
 repeat' (first
  | with_reducible exact trivial
  | exact ⟨i10, i11, i12, i13, i14⟩
  | assumption
  | contradiction
  | with_reducible first | refine zB ?_ | refine (qW _ _ _).mono (fun r _ => ?_) | refine (zGQ _ ?_).mono (fun r _ => ?_) | refine (zEL _ ?_).mono (fun r _ => ?_) | refine (vX _ _ _ _ _ ?_ ?_).mono (fun r _ => ?_) | refine jM (fun _ => ?_) (fun _ => ?_) | refine zF (fun _ => ?_) (fun _ => ?_) | refine zC ?_
  | exact zD (by omega) (by omega)
  | omega
  | (simp only [List.length_cons, List.length_nil] at *; exact zD (by omega) (by omega)))
theorem zE9 (a1 : Ty.El (zH)) (h0 : SmR a1) : Wp (w5 (a1, ())) (fun _ => True) := by
 have hh0 := h0
 obtain ⟨i1, i2, i3, i4, i5, i6, i7, i8, i9, i10, i11, i12, i13, i14, n1, n2, n3⟩ := hh0
 unfold w5
 try dsimp only
 repeat' (first
  | with_reducible exact trivial
  | exact ⟨i10, i11, i12, i13, i14⟩
  | assumption
  | contradiction
  | with_reducible first | refine zB ?_ | refine (vY _).mono (fun r _ => ?_) | refine (qW _ _ _).mono (fun r _ => ?_) | refine (zF9 _ ?_).mono (fun r _ => ?_) | refine (zBo _ ?_ ?_).mono (fun r _ => ?_) | refine (zB6 _ ?_).mono (fun r _ => ?_) | refine (zBp _ ?_ ?_).mono (fun r _ => ?_) | refine (zAZ _ ?_).mono (fun r _ => ?_) | refine (zDj _ ?_).mono (fun r _ => ?_) | refine (zJa _ ?_).mono (fun r _ => ?_) | refine (zB7 _ ?_).mono (fun r _ => ?_) | refine (zCM _ ?_).mono (fun r _ => ?_) | refine (zBH _ ?_).mono (fun r _ => ?_) | refine z7 n1 ?_ ?_ (fun y _ _ => ?_) | refine z7 n2 ?_ ?_ (fun y _ _ => ?_) | refine z7 n3 ?_ ?_ (fun y _ _ => ?_) | refine j1 ?_ ?_ (fun y _ _ => ?_) | refine jM (fun _ => ?_) (fun _ => ?_) | refine zI (fun _ => ?_) (fun _ => ?_) | refine zF (fun _ => ?_) (fun _ => ?_) | refine z8 ?_ | refine j6 (fun s _ _ => ?_) (fun s _ _ => ?_)
  | simp only [jD ‹_[_]? = some _›, Option.bind_some]
  | with_reducible first | refine zC ?_ | refine e2l ?_ | refine e2r ?_
  | exact zD (by omega) (by omega)
  | omega
  | (simp only [List.length_cons, List.length_nil] at *; exact zD (by omega) (by omega)))
theorem zLo (a1 : Ty.El (zQ)) (h0 : ∀ y, y ∈ a1.1 → SmR y) : Wp (v2 (a1, ())) (fun _ => True) := by
 unfold v2
 try dsimp only
 repeat' (first
  | with_reducible exact trivial
  | assumption
  | contradiction
  | with_reducible first | refine zB ?_ | refine (zE9 _ ?_).mono (fun r _ => ?_) | refine (zA7 _ _ ?_).mono (fun r _ => ?_) | refine z7 h0 ?_ ?_ (fun y _ _ => ?_) | refine j1 ?_ ?_ (fun y _ _ => ?_) | refine zI (fun _ => ?_) (fun _ => ?_) | refine zF (fun _ => ?_) (fun _ => ?_) | refine z8 ?_ | refine j6 (fun s _ _ => ?_) (fun s _ _ => ?_)
  | simp only [jD ‹_[_]? = some _›, Option.bind_some]
  | with_reducible first | refine zC ?_ | refine e2l ?_ | refine e2r ?_
  | exact zD (by omega) (by omega)
  | omega
  | (simp only [List.length_cons, List.length_nil] at *; exact zD (by omega) (by omega))
  | exact zD (by omega) (by have := SmR.i1 ‹SmR _›; omega))
end Go.Ve

namespace Go.Ve
open Go
set_option maxRecDepth 1000000
set_option maxHeartbeats 4000000
def zDL (n : Ty.El zQ) (p : Ty.El zG) (vl : Int) (e : Ty.El zJ) : Prop :=
 0 ≤ e.1 ∧ 0 ≤ e.2.1 ∧ ∃ r x, n.1[e.1.toNat]? = some r ∧ r.2.2.1[e.2.1.toNat]? = some x ∧ x.2.2.1 ≠ 0 ∧ x.2.2.2.2.1 = false ∧ wG (x.2.1, x.2.2.1, ()) = some p ∧ x.2.2.2.1 = vl
def zYc (st : HSt zJ) (B : Nat) (E : Ty.El zJ → Prop) (q : Option (Nat × Nat)) : Prop :=
 ∀ id m, q = some (id, m) → ∃ xs, st[id]? = some (some xs) ∧ xs.length = m ∧ xs.length ≤ B ∧ ∀ e, e ∈ xs → E e
def zMU (d d' : Ty.El zN) : Prop := ∀ id m m', d.2.2.1 = some (id, m) → d'.2.2.1 = some (id, m') → False
theorem zMU.symm {d d' : Ty.El zN} (h : zMU d d') : zMU d' d := fun id m m' h1 h2 => h id m' m h2 h1
structure Bld (n : Ty.El zQ) (B : Nat) (D : List (Ty.El zN)) (st : HSt zJ) : Prop where
 len : D.length ≤ B
 ok : ∀ d, d ∈ D → zYc st B (zDL n d.1 d.2.1) d.2.2.1
 ap : D.Pairwise zMU
 so : D.Pairwise (fun d d' => zBv d.1 d.2.1 d'.1 d'.2.1)
theorem zDI {n : Ty.El zQ} {B B' : Nat} {D : List (Ty.El zN)} {st : HSt zJ} (h : Bld n B D st) (hb : B ≤ B') : Bld n B' D st := by
 refine ⟨Nat.le_trans h.len hb, ?_, h.ap, h.so⟩
 intro d hd id m hq
 obtain ⟨xs, h1, h2, h3, h4⟩ := h.ok d hd id m hq
 exact ⟨xs, h1, h2, Nat.le_trans h3 hb, h4⟩
theorem zWF {n : Ty.El zQ} {B : Nat} {st : HSt zJ} : Bld n B [] st := ⟨Nat.zero_le _, (fun d hd => by cases hd), List.Pairwise.nil, List.Pairwise.nil⟩
theorem zWG {n : Ty.El zQ} {B : Nat} {D : List (Ty.El zN)} {st : HSt zJ} (h : Bld n B D st) (k : Nat) (p : Ty.El zG) (v : Int)
  (hlo : ∀ j d, j < k → D[j]? = some d → zBv d.1 d.2.1 p v) (hhi : ∀ d, D[k]? = some d → zBv p v d.1 d.2.1) :
  Bld n (B + 1) (D.take k ++ [((p, v, none, ()) : Ty.El zN)] ++ D.drop k) st := by
 have h' := zDI h (Nat.le_succ B)
 have hnew : ∀ d : Ty.El zN, zMU d ((p, v, none, ()) : Ty.El zN) := fun d id m m' _ h2 => by cases h2
 refine ⟨?_, ?_, ?_, ?_⟩
 ·have := h.len; simp only [List.length_append, List.length_take, List.length_drop, List.length_singleton]; omega
 ·intro d hd
  simp only [List.mem_append, List.mem_singleton] at hd
  rcases hd with (hd | rfl) | hd
  ·exact h'.ok d (List.mem_of_mem_take hd)
  ·intro id m hq; cases hq
  ·exact h'.ok d (List.mem_of_mem_drop hd)
 ·have hp := h.ap
  rw [← List.take_append_drop k D, List.pairwise_append] at hp
  obtain ⟨h1, h2, h3⟩ := hp
  rw [List.pairwise_append, List.pairwise_append]
  refine ⟨⟨h1, List.pairwise_singleton _ _, ?_⟩, h2, ?_⟩
  ·intro a _ b hb
   simp only [List.mem_singleton] at hb
   subst hb
   exact hnew a
  ·intro a ha b hb
   simp only [List.mem_append, List.mem_singleton] at ha
   rcases ha with ha | rfl
   ·exact h3 a ha b hb
   ·exact (hnew b).symm
 ·have hso := h.so
  have hso' := List.pairwise_iff_getElem.1 hso
  rw [← List.take_append_drop k D, List.pairwise_append] at hso
  obtain ⟨h1, h2, h3⟩ := hso
  rw [List.pairwise_append, List.pairwise_append]
  refine ⟨⟨h1, List.pairwise_singleton _ _, ?_⟩, h2, ?_⟩
  ·intro a ha b hb
   simp only [List.mem_singleton] at hb
   subst hb
   obtain ⟨j, hj, hje⟩ := List.getElem_of_mem ha
   rw [List.length_take] at hj
   refine hlo j a (by omega) ?_
   rw [← hje, List.getElem_take, List.getElem?_eq_getElem (by omega)]
  ·intro a ha b hb
   simp only [List.mem_append, List.mem_singleton] at ha
   rcases ha with ha | rfl
   ·exact h3 a ha b hb
   ·obtain ⟨j, hj, hje⟩ := List.getElem_of_mem hb
    rw [List.length_drop] at hj
    rw [List.getElem_drop] at hje
    have hk : D[k]? = some (D[k]'(by omega)) := by simp
    have hlt := hhi _ hk
    rcases Nat.eq_zero_or_pos j with h0 | h0
    ·subst h0
     simp only [Nat.add_zero] at hje
     rw [← hje]; exact hlt
    ·rw [← hje]
     exact zQh hlt (hso' k (k + j) (by omega) (by omega) (by omega))
theorem zSV {n : Ty.El zQ} {B : Nat} {D : List (Ty.El zN)} {st st' : HSt zJ} (h : Bld n B D st) {k : Nat} {d : Ty.El zN} (hd : D[k]? = some d) {id m : Nat} {xs : List (Ty.El zJ)}
  (hnew : st'[id]? = some (some xs)) (hm : xs.length = m) (hB : xs.length ≤ B + 1) (hE : ∀ e, e ∈ xs → zDL n d.1 d.2.1 e) (hid : st.length ≤ id)
  (hkeep : ∀ j ys, st[j]? = some (some ys) → (∀ m', d.2.2.1 ≠ some (j, m')) → st'[j]? = some (some ys)) :
  Bld n (B + 1) (D.set k ((d.1, d.2.1, some (id, m), ()) : Ty.El zN)) st' := by
 have hlt : k < D.length := (List.getElem?_eq_some_iff.1 hd).1
 have hdk : D[k] = d := (List.getElem?_eq_some_iff.1 hd).2
 have hap := List.pairwise_iff_getElem.1 h.ap
 have hother : ∀ j (hj : j < D.length), j ≠ k → zMU d D[j] := by
  intro j hj hne
  rcases Nat.lt_or_ge j k with hh | hh
  ·have := hap j k hj hlt hh; rw [hdk] at this; exact this.symm
  ·have := hap k j hlt hj (by omega); rw [hdk] at this; exact this
 have hold : ∀ j (hj : j < D.length), zMU D[j] ((d.1, d.2.1, some (id, m), ()) : Ty.El zN) := by
  intro j hj i m1 m2 h1 h2
  obtain ⟨ys, g1, _⟩ := h.ok D[j] (List.getElem_mem hj) i m1 h1
  simp only [Option.some.injEq, Prod.mk.injEq] at h2
  obtain ⟨rfl, _⟩ := h2
  have := (List.getElem?_eq_some_iff.1 g1).1
  omega
 refine ⟨by rw [List.length_set]; have := h.len; omega, ?_, ?_, ?_⟩
 ·intro x hx
  obtain ⟨j, hj, rfl⟩ := List.getElem_of_mem hx
  rw [List.length_set] at hj
  rw [List.getElem_set]
  split
  ·intro i m1 h1
   simp only [Option.some.injEq, Prod.mk.injEq] at h1
   obtain ⟨rfl, rfl⟩ := h1
   exact ⟨xs, hnew, hm, hB, hE⟩
  ·rename_i hne
   intro i m1 h1
   obtain ⟨ys, g1, g2, g3, g4⟩ := h.ok D[j] (List.getElem_mem hj) i m1 h1
   exact ⟨ys, hkeep i ys g1 (fun m' hq => hother j hj (fun hh => hne hh.symm) i m' m1 hq h1), g2, by omega, g4⟩
 ·rw [List.pairwise_iff_getElem]
  intro i j hi hj hij
  rw [List.length_set] at hi hj
  rw [List.getElem_set, List.getElem_set]
  split
  ·split
   ·omega
   ·exact (hold j hj).symm
  ·split
   ·exact hold i hi
   ·exact hap i j hi hj hij
 ·have hso := List.pairwise_iff_getElem.1 h.so
  rw [List.pairwise_iff_getElem]
  intro i j hi hj hij
  rw [List.length_set] at hi hj
  have := hso i j hi hj hij
  rw [List.getElem_set, List.getElem_set]
  split
  ·split
   ·omega
   ·rename_i hki _
    subst hki
    rw [hdk] at this
    exact this
  ·split
   ·rename_i hkj
    subst hkj
    rw [hdk] at this
    exact this
   ·exact this
theorem zWH {n : Ty.El zQ} {B : Nat} {D : List (Ty.El zN)} {st : HSt zJ} (h : Bld n B D st) (hb : B ≤ 1000) {k : Nat} {d : Ty.El zN} (hd : D[k]? = some d) {e : Ty.El zJ} (he : zDL n d.1 d.2.1 e) :
  Wp (zNh 16 st d.2.2.1 [e]) (fun r => Bld n (B + 1) (D.set k ((d.1, d.2.1, r.2, ()) : Ty.El zN)) r.1) := by
 have hmem : d ∈ D := List.mem_of_getElem? hd
 cases hq : d.2.2.1 with
 | none =>
  refine ⟨(st ++ [some [e]], some (st.length, 1)), ?_, ?_⟩
  ·simp only [zNh, List.length_singleton]
   rw [if_pos (by omega)]
  ·refine zSV h hd (xs := [e]) ?_ rfl (by simp) (fun e' h' => by simp only [List.mem_singleton] at h'; subst h'; exact he) (Nat.le_refl _) ?_
   ·simp
   ·intro j ys hj _
    rw [List.getElem?_append_left (List.getElem?_eq_some_iff.1 hj).1]
    exact hj
 | some q =>
  obtain ⟨id, m⟩ := q
  obtain ⟨xs, h1, h2, h3, h4⟩ := h.ok d hmem id m hq
  have hlt := (List.getElem?_eq_some_iff.1 h1).1
  refine ⟨(st.set id none ++ [some (xs ++ [e])], some (st.length, (xs ++ [e]).length)), ?_, ?_⟩
  ·simp only [zNh, h1, List.length_singleton]
   rw [if_pos (by omega)]
  ·refine zSV h hd (xs := xs ++ [e]) ?_ rfl (by simp; omega) ?_ (Nat.le_refl _) ?_
   ·rw [List.getElem?_append_right (by simp)]
    simp
   ·intro e' h'
    simp only [List.mem_append, List.mem_singleton] at h'
    rcases h' with h' | rfl
    ·exact h4 e' h'
    ·exact he
   ·intro j ys hj hne
    have hjl := (List.getElem?_eq_some_iff.1 hj).1
    rw [List.getElem?_append_left (by rw [List.length_set]; exact hjl), List.getElem?_set_ne]
    ·exact hj
    ·intro hh
     subst hh
     exact hne m hq
structure zVI (n : Ty.El zQ) (t : Ty.El zHQ) : Prop where
 doms : t.1.length ≤ 360
 ends : ∀ d, d ∈ t.1 → d.2.2.1.length ≤ 360 ∧ ∀ e, e ∈ d.2.2.1 → zDL n d.1 d.2.1 e
 links : t.2.1.length ≤ 12
 link : ∀ l, l ∈ t.2.1 → 0 ≤ l ∧ l < (t.1.length : Int)
 so : t.1.Pairwise (fun d d' => zBv d.1 d.2.1 d'.1 d'.2.1)
theorem zQb {α β : Type} {f : α → Option β} {R : α → β → Prop} : ∀ {xs : List α}, (∀ x, x ∈ xs → Wp (f x) (R x)) → Wp (zIt f xs) (fun ys : List β => ys.length = xs.length ∧ ∀ (i : Nat) x y, xs[i]? = some x → ys[i]? = some y → R x y)
 | [], _ => ⟨[], rfl, rfl, fun i x y h => by simp at h⟩
 | x :: r, h => by
  obtain ⟨y, h1, h2⟩ := h x (by simp)
  obtain ⟨ys, h3, h4, h5⟩ := zQb (xs := r) (fun z hz => h z (List.mem_cons_of_mem _ hz))
  refine ⟨y :: ys, by simp only [zIt, h1, h3], by simp [h4], ?_⟩
  intro i a b ha hb
  cases i with
  | zero => simp only [List.getElem?_cons_zero, Option.some.injEq] at ha hb; subst ha hb; exact h2
  | succ i => exact h5 i a b (by simpa using ha) (by simpa using hb)
theorem zVy {n : Ty.El zQ} {B : Nat} {D : List (Ty.El zN)} {st : HSt zJ} (h : Bld n B D st) :
  Wp (zIt (xN st zN) D) (fun ys => ys.length = D.length ∧ (∀ d : Ty.El kC, d ∈ ys → d.2.2.1.length ≤ B ∧ ∀ e, e ∈ d.2.2.1 → zDL n d.1 d.2.1 e) ∧ ys.Pairwise (fun d d' : Ty.El kC => zBv d.1 d.2.1 d'.1 d'.2.1)) := by
 refine (zQb (R := fun (d : Ty.El zN) (y : Ty.El kC) => (y.2.2.1.length ≤ B ∧ ∀ e, e ∈ y.2.2.1 → zDL n y.1 y.2.1 e) ∧ y.1 = d.1 ∧ y.2.1 = d.2.1) ?_).mono ?_
 ·intro d hd
  obtain ⟨⟨p1, p2, ⟨⟩⟩, v, q, ⟨⟩⟩ := d
  cases q with
  | none => exact ⟨((p1, p2, ()), v, [], ()), rfl, ⟨Nat.zero_le _, fun e he => by cases he⟩, rfl, rfl⟩
  | some q =>
   obtain ⟨id, m⟩ := q
   obtain ⟨xs, h1, h2, h3, h4⟩ := h.ok _ hd id m rfl
   refine ⟨((p1, p2, ()), v, xs, ()), ?_, ⟨h3, h4⟩, rfl, rfl⟩
   simp only [xN, h1]
 ·rintro ys ⟨h1, h2⟩
  have hat : ∀ i (hi : i < ys.length), ∃ d, D[i]? = some d ∧ ((ys[i].2.2.1.length ≤ B ∧ ∀ e, e ∈ ys[i].2.2.1 → zDL n ys[i].1 ys[i].2.1 e) ∧ ys[i].1 = d.1 ∧ ys[i].2.1 = d.2.1) := by
   intro i hi
   refine ⟨D[i]'(by omega), by simp, h2 i _ _ (by simp) (by simp [hi])⟩
  refine ⟨h1, ?_, ?_⟩
  ·intro d hd
   obtain ⟨i, hi, rfl⟩ := List.getElem_of_mem hd
   obtain ⟨_, _, h3, _⟩ := hat i hi
   exact h3
  ·rw [List.pairwise_iff_getElem]
   intro i j hi hj hij
   have hso := List.pairwise_iff_getElem.1 h.so i j (by omega) (by omega) hij
   obtain ⟨d, hd, _, e1, e2⟩ := hat i hi
   obtain ⟨d', hd', _, e3, e4⟩ := hat j hj
   obtain ⟨_, rfl⟩ := List.getElem?_eq_some_iff.1 hd
   obtain ⟨_, rfl⟩ := List.getElem?_eq_some_iff.1 hd'
   rw [e1, e2, e3, e4]
   exact hso
end Go.Ve

namespace Go.Ve
open Go
set_option maxRecDepth 1000000
set_option maxHeartbeats 4000000
theorem wT {α : Type} {xs : List α} {i : Nat} {x : α} (h : xs[i]? = some x) : atN xs i = some x := h
abbrev BSt := (List (Ty.El zN) × List Int) × HSt zJ
theorem zHM (a1 : Ty.El zQ) (hn : a1.1.length ≤ 9) (hs : ∀ y, y ∈ a1.1 → SmR y) :
  Wp (zBm [] (a1, ())) (fun r => (r.2.2.1 = 0 → Bld a1 360 r.2.1.1 r.1 ∧ r.2.1.2.1.length ≤ 12 ∧ (∀ l, l ∈ r.2.1.2.1 → 0 ≤ l ∧ l < (r.2.1.1.length : Int)) ∧ v2 (a1, ()) = some 0) ∧ (r.2.2.1 ≠ 0 → r.2.1 = ([], [], ()))) := by
 unfold zBm
 dsimp only
 refine yE ((zLo a1 hs).mono (fun _ _ => trivial)) (fun y0 hy0 => ?_)
 refine zF (fun hc => ?_) (fun hc => ?_)
 ·refine zB ⟨fun h => ?_, fun _ => rfl⟩
  simp only at h
  subst h
  cases hc
 have hy : y0 = 0 := by simpa using hc
 subst hy
 refine zC ((zAy (xs := a1.1) (by omega) (fun i (g : BSt) => g.1.2 = [] ∧ Bld a1 (40 * i) g.1.1 g.2) ⟨rfl, zWF⟩ ?_ (Q := fun g => g.1.2 = [] ∧ Bld a1 360 g.1.1 g.2) (fun g hg => ⟨hg.1, zDI hg.2 (by omega)⟩)).mono ?_)
 ·intro i x g hx hj
  have hi : i < 9 := by have := (List.getElem?_eq_some_iff.1 hx).1; omega
  have hsx := (hs x (List.mem_of_getElem? hx)).i1
  simp only [zM hx, Option.bind_some]
  refine (zAy (xs := x.2.2.1) (by omega) (fun j (g : BSt) => g.1.2 = [] ∧ Bld a1 (40 * i + 2 * j) g.1.1 g.2) hj ?_ (fun g hg => ⟨hg.1, zDI hg.2 (by omega)⟩))
  intro j f g hf hj
  have hjl : j < 20 := by have := (List.getElem?_eq_some_iff.1 hf).1; omega
  obtain ⟨⟨D, L⟩, st⟩ := g
  obtain ⟨rfl, hD⟩ := hj
  simp only [zM hf, Option.bind_some]
  refine zC ((show Wp _ (fun s : Bool × BSt => s.2 = ((D, []), st) ∧ (s.1 = false → f.2.2.1 ≠ 0 ∧ f.2.2.2.2.1 = false)) from ?_).mono ?_)
  ·refine zF (fun h => zB ⟨rfl, fun h => by cases h⟩) (fun h => zB ⟨rfl, fun h' => ⟨by simpa using h, h'⟩⟩)
  rintro ⟨b, g⟩ ⟨hg, hb⟩
  simp only at hg hb
  subst hg
  refine zF (fun _ => zB ⟨rfl, zDI hD (by omega)⟩) (fun hb' => ?_)
  obtain ⟨hlen, hdown⟩ := hb hb'
  refine yE (zDk _ _) (fun p hp => ?_)
  refine zC ((show Wp _ (fun s : Int × BSt => ∃ k : Nat, s.1 = (k : Int) ∧ k ≤ D.length ∧ s.2 = ((D, []), st) ∧ (∀ m d, m < k → D[m]? = some d → zBv d.1 d.2.1 p f.2.2.2.1) ∧ (∀ d, D[k]? = some d → ¬ zBv d.1 d.2.1 p f.2.2.2.1)) from ?_).mono ?_)
  ·refine wF (fun s : Int × BSt => ∃ k : Nat, s.1 = (k : Int) ∧ k ≤ D.length ∧ s.2 = ((D, []), st) ∧ (∀ m d, m < k → D[m]? = some d → zBv d.1 d.2.1 p f.2.2.2.1)) (fun s => ((D.length : Int) - s.1).toNat) ⟨(0 : Nat), rfl, Nat.zero_le _, rfl, fun m d hm => by omega⟩ ?_
   rintro ⟨s, g⟩ ⟨k, hk, hkl, hg, hlo⟩
   simp only at hk hg
   subst hk hg
   have hDl : D.length ≤ _ := hD.len
   refine zC ((show Wp _ (fun s : Bool × BSt => s.2 = ((D, []), st) ∧ (s.1 = true → ∃ d, D[k]? = some d ∧ zBv d.1 d.2.1 p f.2.2.2.1) ∧ (s.1 = false → ∀ d, D[k]? = some d → ¬ zBv d.1 d.2.1 p f.2.2.2.1)) from ?_).mono ?_)
   ·refine zI (fun hlt => ?_) (fun hge => zB ⟨rfl, (fun h => by cases h), fun _ d hd => ?_⟩)
    ·have hlt : k < D.length := by simp only at hlt; omega
     have hk : D[k]? = some D[k] := by simp [hlt]
     generalize D[k] = dk at hk
     have hone : ∀ d, D[k]? = some d → d = dk := fun d hd => by rw [hk] at hd; exact (Option.some.inj hd).symm
     simp only [zM hk, Int.toNat_natCast, wT hk, Option.bind_some]
     refine zC (qV (zCQ _ _) ?_)
     refine zI (fun hc => zB ⟨rfl, fun _ => ⟨dk, hk, .inl (zIW.1 hc)⟩, fun h => by cases h⟩) (fun hc => ?_)
     have hc : ¬ plt dk.1 p := fun h => hc (zIW.2 h)
     refine zF (fun he => zB ⟨rfl, fun h => ⟨dk, hk, .inr ⟨zD4 he, of_decide_eq_true h⟩⟩, fun h d hd => ?_⟩) (fun he => zB ⟨rfl, (fun h => by cases h), fun _ d hd => ?_⟩)
     ·have hd : d = dk := hone d hd
      subst hd
      rintro (h1 | ⟨_, h1⟩)
      ·exact hc h1
      ·exact of_decide_eq_false h h1
     ·have hd : d = dk := hone d hd
      subst hd
      rintro (h1 | ⟨h1, _⟩)
      ·exact hc h1
      ·have he : (d.1.fst == p.1 && (d.1.snd.fst == p.2.1 && true)) = false := he
       rw [h1] at he
       simp at he
    ·have hge : ¬ (k : Int) < (D.length : Int) := hge
     have := (List.getElem?_eq_some_iff.1 hd).1
     omega
   ·rintro ⟨b, g⟩ ⟨hg, hb, hb2⟩
    simp only at hg hb hb2
    subst hg
    refine zF (fun h => ?_) (fun h => ?_)
    ·obtain ⟨d, hd, hlt2⟩ := hb h
     have hlt := (List.getElem?_eq_some_iff.1 hd).1
     refine zB (e2l ⟨⟨k + 1, ?_, hlt, rfl, ?_⟩, ?_⟩)
     ·simp only; rw [zD (by omega) (by omega)]; omega
     ·intro m d' hm hd'
      rcases Nat.lt_or_ge m k with h' | h'
      ·exact hlo m d' h' hd'
      ·have : m = k := by omega
       subst this
       rw [hd] at hd'
       cases hd'
       exact hlt2
     ·simp only; rw [zD (by omega) (by omega)]; omega
    ·exact zB (e2r ⟨k, rfl, hkl, rfl, hlo, hb2 h⟩)
  rintro ⟨s, g⟩ ⟨k, hk, hkl, hg, hlo, hhi⟩
  simp only at hk hg
  subst hk hg
  have hDl : D.length ≤ _ := hD.len
  refine zC ((show Wp _ (fun g : BSt => g.1.2 = [] ∧ Bld a1 (40 * i + 2 * j + 1) g.1.1 g.2 ∧ ∃ d, g.1.1[k]? = some d ∧ d.1 = p ∧ d.2.1 = f.2.2.2.1) from ?_).mono ?_)
  ·refine zC ((show Wp _ (fun s : Bool × BSt => s.2 = ((D, []), st) ∧ (s.1 = false → ∃ d, D[k]? = some d ∧ d.1 = p ∧ d.2.1 = f.2.2.2.1) ∧ (s.1 = true → ∀ d, D[k]? = some d → ¬ (d.1 = p ∧ d.2.1 = f.2.2.2.1))) from ?_).mono ?_)
   ·refine zF (fun heq => zB ⟨rfl, (fun h => by cases h), fun _ d hd => ?_⟩) (fun hne => ?_)
    ·have heq : (k : Int) = (D.length : Int) := by simpa using heq
     have := (List.getElem?_eq_some_iff.1 hd).1
     omega
    have hlt : k < D.length := by
     have : ¬ ((k : Int) = (D.length : Int)) := by simpa using hne
     omega
    have hk : D[k]? = some D[k] := by simp [hlt]
    generalize D[k] = dk at hk
    have hone : ∀ d, D[k]? = some d → d = dk := fun d hd => by rw [hk] at hd; exact (Option.some.inj hd).symm
    simp only [zM hk, Int.toNat_natCast, wT hk, Option.bind_some]
    refine zF (fun he => zB ⟨rfl, (fun h => by cases h), fun _ d hd h2 => ?_⟩) (fun he => ?_)
    ·have hd : d = dk := hone d hd
     subst hd
     have he : (!(d.1.fst == p.1 && (d.1.snd.fst == p.2.1 && true))) = true := he
     rw [h2.1] at he
     simp at he
    have hpe := zD4 (by simpa using he)
    refine zB ⟨rfl, fun hv => ⟨dk, hk, hpe, by simpa using hv⟩, fun hv d hd h2 => ?_⟩
    have hd : d = dk := hone d hd
    subst hd
    have hv : (d.2.1 != f.2.2.2.1) = true := hv
    rw [h2.2] at hv
    simp at hv
   ·rintro ⟨b, g⟩ ⟨hg, hb, hb2⟩
    simp only at hg hb hb2
    subst hg
    refine zF (fun hbt => ?_) (fun hf' => zB ⟨rfl, zDI hD (by omega), hb hf'⟩)
    have hins : ∀ d, D[k]? = some d → zBv p f.2.2.2.1 d.1 d.2.1 := fun d hd => zUZ (hhi d hd) (hb2 hbt d hd)
    refine zF (fun _ => ?_) (fun h => ?_)
    ·simp only [Int.toNat_natCast, List.take_length]
     refine zC (zAz (by simp only [List.length_nil, List.length_drop]; omega) ?_)
     refine zF (fun _ => ?_) (fun h => ?_)
     ·refine zC (zAz (by simp only [List.length_take, List.length_singleton]; omega) ?_)
      refine zC (zAz (by simp only [List.length_append, List.length_nil, List.length_take, List.length_drop, List.length_singleton]; omega) ?_)
      rw [List.nil_append]
      refine zB ⟨rfl, zWG hD k p _ hlo hins, ⟨(p, f.2.2.2.1, none, ()), ?_, rfl, rfl⟩⟩
      simp only
      rw [List.append_assoc, List.getElem?_append_right (by simp only [List.length_take]; omega)]
      simp only [List.length_take]
      rw [show k - min k D.length = 0 by omega]
      rfl
     ·exfalso
      simp only [Bool.and_eq_false_iff, decide_eq_false_iff_not] at h
      omega
    ·exfalso
     simp only [Bool.and_eq_false_iff, decide_eq_false_iff_not] at h
     omega
  rintro ⟨⟨D', L'⟩, st'⟩ ⟨hL, hD', d, hk, hd1, hd2⟩
  simp only at hL hD' hk
  subst hL
  have hD'l : D'.length ≤ _ := hD'.len
  simp only [zM hk, Int.toNat_natCast, wT hk, Option.bind_some]
  refine zC ((zWH hD' (by omega) hk (e := (↑i, ↑j, ())) ⟨(show (0 : Int) ≤ (i : Int) by omega), (show (0 : Int) ≤ (j : Int) by omega), x, f, by simpa using hx, by simpa using hf, hlen, hdown, ?_, ?_⟩).mono ?_)
  ·rw [hp, hd1]
  ·exact hd2.symm
  ·rintro ⟨st2, q2⟩ hB
   exact zB ⟨rfl, zDI hB (by omega)⟩
 ·rintro ⟨⟨D, L⟩, st⟩ ⟨hL, hD⟩
  simp only at hL hD
  subst hL
  have hDl : D.length ≤ _ := hD.len
  refine zC ((zPi (n := D.length) (by omega) (fun i (g : BSt) => g.1.1 = D ∧ g.2 = st ∧ g.1.2.length ≤ i ∧ ∀ l, l ∈ g.1.2 → 0 ≤ l ∧ l < (D.length : Int)) ⟨rfl, rfl, Nat.le_refl _, (fun l hl => by cases hl)⟩ (fun i g hg => by simp only [hg.1]) ?_
   (Q := fun g : BSt => g.1.1 = D ∧ g.2 = st ∧ ∀ l, l ∈ g.1.2 → 0 ≤ l ∧ l < (D.length : Int)) (fun g hg => ⟨hg.1, hg.2.1, hg.2.2.2⟩)).mono ?_)
  ·rintro i ⟨⟨D', L⟩, st'⟩ hi ⟨rfl, rfl, hL, hl⟩
   simp only at hi hL hl
   have hDl2 : D'.length ≤ 360 := hD.len
   have hk : D'[i]? = some D'[i] := by simp [hi]
   simp only [zM hk, Int.toNat_natCast, wT hk, Option.bind_some]
   refine zI (fun _ => ?_) (fun _ => zB ⟨rfl, rfl, by simp only; omega, hl⟩)
   refine zC (zAz (by simp only [List.length_singleton]; omega) (zB ⟨rfl, rfl, by simp only [List.length_append, List.length_singleton]; omega, ?_⟩))
   intro l hl'
   simp only [List.mem_append, List.mem_singleton] at hl'
   rcases hl' with hl' | rfl
   ·exact hl l hl'
   ·omega
  ·rintro ⟨⟨D', L⟩, st'⟩ ⟨rfl, rfl, hl⟩
   simp only at hl
   refine zI (fun _ => zB ⟨(fun h => by cases h), fun _ => rfl⟩) (fun h => zB ⟨fun _ => ⟨hD, ?_, hl, hy0⟩, fun h => absurd rfl h⟩)
   simp only at h ⊢
   omega
end Go.Ve

namespace Go.Ve
open Go
set_option maxRecDepth 1000000
set_option maxHeartbeats 4000000
theorem zNw {tE a b : Ty} {st : HSt tE} {x : a.El} {y : b.El} {x' : (wV tE a).El} {y' : (wV tE b).El} (h1 : xN st a x = some x') (h2 : xN st b y = some y') : xN st (.pair a b) (x, y) = some (x', y') := by
 simp only [xN, h1, h2]
theorem zQ8 {tE a : Ty} {r : List Ty} {st : HSt tE} {x : a.El} {y : ElS r} {x' : (wV tE a).El} {y' : ElS (zE8 tE r)} (h1 : xN st a x = some x') (h2 : zLk st r y = some y') : zLk st (a :: r) (x, y) = some (x', y') := by
 simp only [zLk, h1, h2]
theorem zNN {α : Type} {f : α → Option α} (hf : ∀ x, f x = some x) : ∀ l : List α, zIt f l = some l
 | [] => rfl
 | x :: l => by simp only [zIt, hf x, zNN hf l]
theorem zKw (a1 : Ty.El zQ) (hn : a1.1.length ≤ 9) (hs : ∀ y, y ∈ a1.1 → SmR y) :
  Wp (zCW (a1, ())) (fun r => r.2.1 = 0 → zVI a1 r.1 ∧ v2 (a1, ()) = some 0) := by
 obtain ⟨⟨st, ⟨D, L, ⟨⟩⟩, e, ⟨⟩⟩, h1, h2, h3⟩ := zHM a1 hn hs
 unfold zCW zLl
 rw [h1]
 simp only at h2 h3
 by_cases he : e = 0
 ·subst he
  obtain ⟨hB, hL, hl, hc⟩ := h2 rfl
  obtain ⟨ys, g1, g2, g3, g4⟩ := zVy hB
  refine ⟨((ys, L, ()), 0, ()), ?_, fun _ => ⟨⟨?_, g3, hL, ?_, g4⟩, hc⟩⟩
  ·have e1 : xN st (.sl zN) D = some ys := g1
   have e2 : xN st (.sl tI) L = some L := zNN (fun _ => rfl) L
   exact zQ8 (r := [tI]) (zNw e1 (zNw e2 rfl)) rfl
  ·simp only; have : D.length ≤ 360 := hB.len; omega
  ·intro l hh; simp only; rw [g2]; exact hl l hh
 ·have := h3 he
  simp only [Prod.mk.injEq] at this
  obtain ⟨rfl, rfl, _⟩ := this
  exact ⟨(([], [], ()), e, ()), rfl, fun h => absurd h he⟩
structure zVL (d : List Int) (m : Int) : Prop where
 len : d.length ≤ 2
 lo : ∀ x, x ∈ d → 0 ≤ x ∧ x < m
theorem zGb (d : List Int) (m : Int) : Wp (zAe (d, m, ())) (fun b => b = true → zVL d m) := by
 unfold zAe
 dsimp only
 refine zI (fun _ => zB (fun h => by cases h)) (fun h => ?_)
 refine zBi (by omega) (fun i => ∀ (j : Nat) (y : Int), j < i → d[j]? = some y → 0 ≤ y ∧ y < m) (fun j y hj => by omega) ?_ ?_
 ·intro i (x : Int) hx hj
  have hi := (List.getElem?_eq_some_iff.1 hx).1
  simp only [zM hx, Option.bind_some]
  refine zC ((show Wp _ (fun b : Bool => b = false → 0 ≤ x ∧ x < m) from ?_).mono ?_)
  ·refine zI (fun _ => zB (fun h => by cases h)) (fun h1 => ?_)
   refine zI (fun _ => zB (fun h => by cases h)) (fun h2 => ?_)
   refine zI (fun h3 => ?_) (fun _ => zB (fun _ => ⟨by omega, by omega⟩))
   refine zC (j1 (by rw [zD (by omega) (by omega)]; omega) (by rw [zD (by omega) (by omega)]; omega) (fun y _ _ => zB (fun _ => ⟨by omega, by omega⟩)))
  ·intro b hb
   refine zF (fun _ => zB (e2r (e2r (fun h => by cases h)))) (fun h => zB (e2l ⟨rfl, ?_⟩))
   intro j y hj' hy
   rcases Nat.lt_or_ge j i with h' | h'
   ·exact hj j y h' hy
   ·have : j = i := by omega
    subst this
    rw [hx] at hy
    cases hy
    exact hb h
 ·intro hj
  refine zB (fun _ => ⟨by omega, ?_⟩)
  intro x hx
  obtain ⟨j, hjl, rfl⟩ := List.getElem_of_mem hx
  exact hj j _ hjl (by simp [hjl])
theorem zXE {α : Type} {xs : List α} {P : α → Prop} (h : ∀ j y, j < xs.length → xs[j]? = some y → P y) : ∀ y, y ∈ xs → P y := by
 intro x hx
 obtain ⟨j, hjl, rfl⟩ := List.getElem_of_mem hx
 exact h j _ hjl (by simp [hjl])
theorem zDN {α ρ : Type} {xs : List α} {P : α → Prop} {body : Int → Option (Int ⊕ (Unit ⊕ ρ))} {K : Unit → Option ρ} {Q : ρ → Prop} (hl : xs.length < 4611686018427387904)
  (step : ∀ (i : Nat) x, xs[i]? = some x → Wp (body (i : Int)) (wU (fun s' => s' = IntKind.wrap IntKind.i64 ((i : Int) + 1) ∧ P x) (wU (fun _ => False) Q))) (fin : (∀ x, x ∈ xs → P x) → Wp (K ()) Q) :
  Wp (qQ (zO (fun s : Int => bif decide (s < (xs.length : Int)) then body s else some (Sum.inr (Sum.inl ()))) (0 : Int)) K) Q := by
 refine zBi hl (fun i => ∀ j y, j < i → xs[j]? = some y → P y) (fun j y hj => by omega) ?_ (fun h => fin (zXE h))
 intro i x hx hj
 refine (step i x hx).mono ?_
 intro o ho
 cases o with
 | inl s' =>
  refine ⟨ho.1, ?_⟩
  intro j y hj' hy
  rcases Nat.lt_or_ge j i with h' | h'
  ·exact hj j y h' hy
  ·have : j = i := by omega
   subst this
   rw [hx] at hy
   cases hy
   exact ho.2
 | inr o => exact ho
theorem zLq (a1 : Ty.El zH) : Wp (zEb (a1, ())) (fun b => b = true → SmR a1) := by
 unfold zEb
 dsimp only
 refine zC ((show Wp _ (fun b : Bool => b = false → List.length a1.2.2.1 ≤ 12 ∧ List.length a1.2.2.2.1 ≤ 12 ∧ List.length a1.2.2.2.2.1 ≤ 12 ∧ List.length a1.2.2.2.2.2.1 ≤ 12 ∧ List.length a1.2.2.2.2.2.2.1 ≤ 12 ∧
  List.length a1.2.2.2.2.2.2.2.1 ≤ 20 ∧ List.length a1.2.2.2.2.2.2.2.2.1.2.2.1 ≤ 8 ∧ List.length a1.2.2.2.2.2.2.2.2.1.2.2.2.1 ≤ 8 ∧ List.length a1.2.2.2.2.2.2.2.2.2.1.2.2.2.2.1 ≤ 8 ∧
  List.length a1.2.2.2.2.2.2.2.2.2.2.1.2.2.2.2.2.2.2.1 ≤ 8 ∧ List.length a1.2.2.2.2.2.2.2.2.2.2.1.2.2.2.1 ≤ 12 ∧ List.length a1.2.2.2.2.2.2.2.2.2.2.1.2.2.2.2.1 ≤ 12 ∧
  List.length a1.2.2.2.2.2.2.2.2.2.2.1.2.2.2.2.2.1 ≤ 12 ∧ List.length a1.2.2.2.2.2.2.2.2.2.2.1.2.2.2.2.2.2.1 ≤ 12) from ?_).mono ?_)
 ·iterate 13 (refine zI (fun _ => zB (fun h => by cases h)) (fun _ => ?_))
  refine zB (fun h => ?_)
  have h := of_decide_eq_false h
  refine ⟨?_, ?_, ?_, ?_, ?_, ?_, ?_, ?_, ?_, ?_, ?_, ?_, ?_, ?_⟩ <;> omega
 intro b hb
 refine zF (fun _ => zB (fun h => by cases h)) (fun h => ?_)
 obtain ⟨i1, i2, i3, i4, i5, i6, i7, i8, i9, i10, i11, i12, i13, i14⟩ := hb h
 refine zDN (P := fun y => List.length y.2.1 ≤ 20) (by omega) ?_ (fun n1 => ?_)
 ·intro i x hx
  simp only [zM hx, Option.bind_some]
  exact zI (fun _ => zB (e2r (e2r (fun h => by cases h)))) (fun _ => zB (e2l ⟨rfl, by omega⟩))
 refine zDN (P := fun y => List.length y.2.1 ≤ 20) (by omega) ?_ (fun n2 => ?_)
 ·intro i x hx
  simp only [zM hx, Option.bind_some]
  exact zI (fun _ => zB (e2r (e2r (fun h => by cases h)))) (fun _ => zB (e2l ⟨rfl, by omega⟩))
 refine zDN (P := fun y => List.length y.2.1 ≤ 20) (by omega) ?_ (fun n3 => ?_)
 ·intro i x hx
  simp only [zM hx, Option.bind_some]
  exact zI (fun _ => zB (e2r (e2r (fun h => by cases h)))) (fun _ => zB (e2l ⟨rfl, by omega⟩))
 refine zB (fun _ => ?_)
 constructor <;> first | assumption | omega
theorem zKx (a1 : Ty.El zQ) : Wp (zC2 (a1, ())) (fun b => b = true → a1.1.length ≤ 9 ∧ ∀ y, y ∈ a1.1 → SmR y) := by
 unfold zC2
 dsimp only
 refine zI (fun _ => zB (fun h => by cases h)) (fun hn => ?_)
 refine zDN (P := SmR) (by omega) ?_ (fun h => zB (fun _ => ⟨by omega, h⟩))
 intro i x hx
 simp only [zM hx, Option.bind_some]
 refine zC ((zLq x).mono (fun b hb => ?_))
 refine zF (fun _ => zB (e2r (e2r (fun h => by cases h)))) (fun h => zB (e2l ⟨rfl, hb (by simpa using h)⟩))
structure uY (n : Ty.El zQ) (d : List Int) (v : Ty.El zW) : Prop where
 net : v.1 = n
 rs : n.1.length ≤ 9
 sm : ∀ y, y ∈ n.1 → SmR y
 chk : v2 (n, ()) = some 0
 topo : zVI n v.2.1
 dn : v.2.2.1 = d
 down : zVL d v.2.1.2.1.length
theorem zLp (n : Ty.El zQ) (d : List Int) (hn : n.1.length ≤ 9) (hs : ∀ y, y ∈ n.1 → SmR y) :
  Wp (zD1 (n, d, ())) (fun r => r.2.1 = 0 → uY n d r.1) := by
 unfold zD1
 dsimp only
 refine zC ((zKw n hn hs).mono (fun y0 hy => ?_))
 refine zF (fun h => zB (fun h' => ?_)) (fun h => ?_)
 ·simp only at h'
  rw [h'] at h
  cases h
 have he : y0.2.1 = 0 := by simpa using h
 obtain ⟨ht, hc⟩ := hy he
 refine zC ((zGb _ _).mono (fun b hb => ?_))
 refine zF (fun _ => zB (fun h' => by cases h')) (fun hb' => ?_)
 have hd := hb (by simpa using hb')
 refine zC (zAz (by have := hd.len; simp only [List.length_nil]; omega) ?_)
 refine zB (fun _ => ⟨rfl, hn, hs, hc, ht, rfl, ?_⟩)
 exact hd
theorem zLr (n : Ty.El zQ) (d : List Int) : Wp (zEc (n, d, ())) (fun r => r.2.1 = true → uY n d r.1) := by
 unfold zEc
 dsimp only
 refine zC (zC ((zKx n).mono (fun b hb => ?_)))
 refine zF (fun _ => zB ?_) (fun h => zB ?_)
 ·exact zB (fun h => by cases h)
 ·obtain ⟨hn, hs⟩ := hb (by simpa using h)
  refine zF (fun _ => zB (fun h => by cases h)) (fun _ => ?_)
  refine zC ((zLp n d hn hs).mono (fun r hr => zB (fun h => hr ?_)))
  simpa using h
end Go.Ve

namespace Go.Ve
open Go
set_option maxRecDepth 1000000
set_option maxHeartbeats 4000000
structure RtS (x : Ty.El zA) : Prop where
 path : List.length x.2.2.2.2.2.2.2.2.1 ≤ 1048576
 hops : List.length x.2.2.2.2.2.2.2.2.2.2.2.1 ≤ 1048576
theorem kM (a1 : Ty.El (tI)) (a2 : Ty.El (tI)) (a3 : Ty.El (tI))  : Wp (qM (a1, a2, a3, ())) (fun _ => True) := by
 unfold qM
 try dsimp only
 repeat' (first
  | with_reducible exact trivial
  | assumption
  | contradiction
  | with_reducible refine zB ?_
  | with_reducible refine uV ?_ ?_ (fun y _ _ => ?_)
  | with_reducible refine j1 ?_ ?_ (fun y _ _ => ?_)
  | with_reducible refine jM (fun _ => ?_) (fun _ => ?_)
  | with_reducible refine zI (fun _ => ?_) (fun _ => ?_)
  | with_reducible refine zF (fun _ => ?_) (fun _ => ?_)
  | with_reducible refine z8 ?_
  | with_reducible refine j6 (fun s _ _ => ?_) (fun s _ _ => ?_)
  | simp only [jD ‹_[_]? = some _›, Option.bind_some]
  | with_reducible refine xO ?_
  | with_reducible refine zC ?_
  | with_reducible refine e2l ?_
  | with_reducible refine e2r ?_
  | exact zD (by omega) (by omega)
  | omega
  | (rw [zD (by omega) (by omega)]; omega)
  | (simp only [beq_iff_eq] at *; omega)
  | (simp only [List.length_cons, List.length_nil] at *; exact zD (by omega) (by omega)))
theorem uQ (a1 : Ty.El (zA)) (a2 : Ty.El (.bool)) (a3 : Ty.El (.bool)) (a4 : Ty.El (.bool)) (h0 : RtS a1) : Wp (wW (a1, a2, a3, a4, ())) (fun _ => True) := by
 have hh0 := h0
 obtain ⟨p01, p02⟩ := hh0
 unfold wW
 try dsimp only
 repeat' (first
  | with_reducible exact trivial
  | assumption
  | contradiction
  | with_reducible refine zB ?_
  | with_reducible refine uV ?_ ?_ (fun y _ _ => ?_)
  | with_reducible refine j1 ?_ ?_ (fun y _ _ => ?_)
  | with_reducible refine jM (fun _ => ?_) (fun _ => ?_)
  | with_reducible refine zI (fun _ => ?_) (fun _ => ?_)
  | with_reducible refine zF (fun _ => ?_) (fun _ => ?_)
  | with_reducible refine z8 ?_
  | with_reducible refine j6 (fun s _ _ => ?_) (fun s _ _ => ?_)
  | simp only [jD ‹_[_]? = some _›, Option.bind_some]
  | with_reducible refine xO ?_
  | with_reducible refine zC ?_
  | with_reducible refine e2l ?_
  | with_reducible refine e2r ?_
  | exact zD (by omega) (by omega)
  | omega
  | (rw [zD (by omega) (by omega)]; omega)
  | (simp only [beq_iff_eq] at *; omega)
  | (simp only [List.length_cons, List.length_nil] at *; exact zD (by omega) (by omega)))
theorem zHL (a1 : Ty.El (qY)) (a2 : Ty.El (qY))  : Wp (zBl (a1, a2, ())) (fun _ => True) := by
 unfold zBl
 try dsimp only
 repeat' (first
  | with_reducible exact trivial
  | assumption
  | contradiction
  | with_reducible refine zB ?_
  | with_reducible refine uV ?_ ?_ (fun y _ _ => ?_)
  | with_reducible refine j1 ?_ ?_ (fun y _ _ => ?_)
  | with_reducible refine jM (fun _ => ?_) (fun _ => ?_)
  | with_reducible refine zI (fun _ => ?_) (fun _ => ?_)
  | with_reducible refine zF (fun _ => ?_) (fun _ => ?_)
  | with_reducible refine z8 ?_
  | with_reducible refine j6 (fun s _ _ => ?_) (fun s _ _ => ?_)
  | simp only [jD ‹_[_]? = some _›, Option.bind_some]
  | with_reducible refine xO ?_
  | with_reducible refine zC ?_
  | with_reducible refine e2l ?_
  | with_reducible refine e2r ?_
  | exact zD (by omega) (by omega)
  | omega
  | (rw [zD (by omega) (by omega)]; omega)
  | (simp only [beq_iff_eq] at *; omega)
  | (simp only [List.length_cons, List.length_nil] at *; exact zD (by omega) (by omega)))
theorem kN (a1 : Ty.El (.sl qY)) (a2 : Ty.El (.bool)) (h0 : List.length a1 ≤ 1048576) : Wp (vA (a1, a2, ())) (fun _ => True) := by
 unfold vA
 try dsimp only
 repeat' (first
  | with_reducible exact trivial
  | assumption
  | contradiction
  | with_reducible refine zB ?_
  | with_reducible refine (zHL _ _).mono (fun r _ => ?_)
  | with_reducible refine uV ?_ ?_ (fun y _ _ => ?_)
  | with_reducible refine j1 ?_ ?_ (fun y _ _ => ?_)
  | with_reducible refine jM (fun _ => ?_) (fun _ => ?_)
  | with_reducible refine zI (fun _ => ?_) (fun _ => ?_)
  | with_reducible refine zF (fun _ => ?_) (fun _ => ?_)
  | with_reducible refine z8 ?_
  | with_reducible refine j6 (fun s _ _ => ?_) (fun s _ _ => ?_)
  | simp only [jD ‹_[_]? = some _›, Option.bind_some]
  | with_reducible refine xO ?_
  | with_reducible refine zC ?_
  | with_reducible refine e2l ?_
  | with_reducible refine e2r ?_
  | exact zD (by omega) (by omega)
  | omega
  | (rw [zD (by omega) (by omega)]; omega)
  | (simp only [beq_iff_eq] at *; omega)
  | (simp only [List.length_cons, List.length_nil] at *; exact zD (by omega) (by omega)))
theorem zEM (a1 : Ty.El (zA)) (h0 : RtS a1) : Wp (yA (a1, ())) (fun _ => True) := by
 have hh0 := h0
 obtain ⟨p01, p02⟩ := hh0
 unfold yA
 try dsimp only
 repeat' (first
  | with_reducible exact trivial
  | assumption
  | contradiction
  | with_reducible refine zB ?_
  | with_reducible refine (kM _ _ _).mono (fun r _ => ?_)
  | with_reducible refine (uQ _ _ _ _ ?_).mono (fun r _ => ?_)
  | with_reducible refine (kN _ _ ?_).mono (fun r _ => ?_)
  | with_reducible refine uV ?_ ?_ (fun y _ _ => ?_)
  | with_reducible refine j1 ?_ ?_ (fun y _ _ => ?_)
  | with_reducible refine jM (fun _ => ?_) (fun _ => ?_)
  | with_reducible refine zI (fun _ => ?_) (fun _ => ?_)
  | with_reducible refine zF (fun _ => ?_) (fun _ => ?_)
  | with_reducible refine z8 ?_
  | with_reducible refine j6 (fun s _ _ => ?_) (fun s _ _ => ?_)
  | simp only [jD ‹_[_]? = some _›, Option.bind_some]
  | with_reducible refine xO ?_
  | with_reducible refine zC ?_
  | with_reducible refine e2l ?_
  | with_reducible refine e2r ?_
  | exact zD (by omega) (by omega)
  | omega
  | (rw [zD (by omega) (by omega)]; omega)
  | (simp only [beq_iff_eq] at *; omega)
  | (simp only [List.length_cons, List.length_nil] at *; exact zD (by omega) (by omega)))
theorem zDa (a1 : Ty.El (zA)) (h0 : RtS a1) : Wp (vT (a1, ())) (fun _ => True) := by
 have hh0 := h0
 obtain ⟨p01, p02⟩ := hh0
 unfold vT
 try dsimp only
 repeat' (first
  | with_reducible exact trivial
  | assumption
  | contradiction
  | with_reducible refine zB ?_
  | with_reducible refine (kM _ _ _).mono (fun r _ => ?_)
  | with_reducible refine (uQ _ _ _ _ ?_).mono (fun r _ => ?_)
  | with_reducible refine (kN _ _ ?_).mono (fun r _ => ?_)
  | with_reducible refine uV ?_ ?_ (fun y _ _ => ?_)
  | with_reducible refine j1 ?_ ?_ (fun y _ _ => ?_)
  | with_reducible refine jM (fun _ => ?_) (fun _ => ?_)
  | with_reducible refine zI (fun _ => ?_) (fun _ => ?_)
  | with_reducible refine zF (fun _ => ?_) (fun _ => ?_)
  | with_reducible refine z8 ?_
  | with_reducible refine j6 (fun s _ _ => ?_) (fun s _ _ => ?_)
  | simp only [jD ‹_[_]? = some _›, Option.bind_some]
  | with_reducible refine xO ?_
  | with_reducible refine zC ?_
  | with_reducible refine e2l ?_
  | with_reducible refine e2r ?_
  | exact zD (by omega) (by omega)
  | omega
  | (rw [zD (by omega) (by omega)]; omega)
  | (simp only [beq_iff_eq] at *; omega)
  | (simp only [List.length_cons, List.length_nil] at *; exact zD (by omega) (by omega)))
theorem zDl (a1 : Ty.El (zA)) (h0 : RtS a1) : Wp (wO (a1, ())) (fun _ => True) := by
 have hh0 := h0
 obtain ⟨p01, p02⟩ := hh0
 unfold wO
 try dsimp only
 repeat' (first
  | with_reducible exact trivial
  | assumption
  | contradiction
  | with_reducible refine zB ?_
  | with_reducible refine (kM _ _ _).mono (fun r _ => ?_)
  | with_reducible refine (uQ _ _ _ _ ?_).mono (fun r _ => ?_)
  | with_reducible refine (kN _ _ ?_).mono (fun r _ => ?_)
  | with_reducible refine uV ?_ ?_ (fun y _ _ => ?_)
  | with_reducible refine j1 ?_ ?_ (fun y _ _ => ?_)
  | with_reducible refine jM (fun _ => ?_) (fun _ => ?_)
  | with_reducible refine zI (fun _ => ?_) (fun _ => ?_)
  | with_reducible refine zF (fun _ => ?_) (fun _ => ?_)
  | with_reducible refine z8 ?_
  | with_reducible refine j6 (fun s _ _ => ?_) (fun s _ _ => ?_)
  | simp only [jD ‹_[_]? = some _›, Option.bind_some]
  | with_reducible refine xO ?_
  | with_reducible refine zC ?_
  | with_reducible refine e2l ?_
  | with_reducible refine e2r ?_
  | exact zD (by omega) (by omega)
  | omega
  | (rw [zD (by omega) (by omega)]; omega)
  | (simp only [beq_iff_eq] at *; omega)
  | (simp only [List.length_cons, List.length_nil] at *; exact zD (by omega) (by omega)))
theorem zGa (a1 : Ty.El (zA)) (h0 : RtS a1) : Wp (zAc (a1, ())) (fun _ => True) := by
 have hh0 := h0
 obtain ⟨p01, p02⟩ := hh0
 unfold zAc
 try dsimp only
 repeat' (first
  | with_reducible exact trivial
  | assumption
  | contradiction
  | with_reducible refine zB ?_
  | with_reducible refine (kM _ _ _).mono (fun r _ => ?_)
  | with_reducible refine (uQ _ _ _ _ ?_).mono (fun r _ => ?_)
  | with_reducible refine (kN _ _ ?_).mono (fun r _ => ?_)
  | with_reducible refine uV ?_ ?_ (fun y _ _ => ?_)
  | with_reducible refine j1 ?_ ?_ (fun y _ _ => ?_)
  | with_reducible refine jM (fun _ => ?_) (fun _ => ?_)
  | with_reducible refine zI (fun _ => ?_) (fun _ => ?_)
  | with_reducible refine zF (fun _ => ?_) (fun _ => ?_)
  | with_reducible refine z8 ?_
  | with_reducible refine j6 (fun s _ _ => ?_) (fun s _ _ => ?_)
  | simp only [jD ‹_[_]? = some _›, Option.bind_some]
  | with_reducible refine xO ?_
  | with_reducible refine zC ?_
  | with_reducible refine e2l ?_
  | with_reducible refine e2r ?_
  | exact zD (by omega) (by omega)
  | omega
  | (rw [zD (by omega) (by omega)]; omega)
  | (simp only [beq_iff_eq] at *; omega)
  | (simp only [List.length_cons, List.length_nil] at *; exact zD (by omega) (by omega)))
theorem zKv (a1 : Ty.El (zA)) (h0 : RtS a1) : Wp (wY (a1, ())) (fun _ => True) := by
 have hh0 := h0
 obtain ⟨p01, p02⟩ := hh0
 unfold wY
 try dsimp only
 repeat' (first
  | with_reducible exact trivial
  | assumption
  | contradiction
  | with_reducible refine zB ?_
  | with_reducible refine (yF _).mono (fun r _ => ?_)
  | with_reducible refine (kM _ _ _).mono (fun r _ => ?_)
  | with_reducible refine (uQ _ _ _ _ ?_).mono (fun r _ => ?_)
  | with_reducible refine (kN _ _ ?_).mono (fun r _ => ?_)
  | with_reducible refine (zEM _ ?_).mono (fun r _ => ?_)
  | with_reducible refine (zDa _ ?_).mono (fun r _ => ?_)
  | with_reducible refine (zDl _ ?_).mono (fun r _ => ?_)
  | with_reducible refine (zGa _ ?_).mono (fun r _ => ?_)
  | with_reducible refine uV ?_ ?_ (fun y _ _ => ?_)
  | with_reducible refine j1 ?_ ?_ (fun y _ _ => ?_)
  | with_reducible refine jM (fun _ => ?_) (fun _ => ?_)
  | with_reducible refine zI (fun _ => ?_) (fun _ => ?_)
  | with_reducible refine zF (fun _ => ?_) (fun _ => ?_)
  | with_reducible refine z8 ?_
  | with_reducible refine j6 (fun s _ _ => ?_) (fun s _ _ => ?_)
  | simp only [jD ‹_[_]? = some _›, Option.bind_some]
  | with_reducible refine xO ?_
  | with_reducible refine zC ?_
  | with_reducible refine e2l ?_
  | with_reducible refine e2r ?_
  | exact zD (by omega) (by omega)
  | omega
  | (rw [zD (by omega) (by omega)]; omega)
  | (simp only [beq_iff_eq] at *; omega)
  | (simp only [List.length_cons, List.length_nil] at *; exact zD (by omega) (by omega)))
end Go.Ve

namespace Go.Ve
open Go
set_option maxRecDepth 1000000
set_option maxHeartbeats 4000000
structure RtB (x : Ty.El zA) : Prop where
 path : x.2.2.2.2.2.2.2.2.1.length ≤ 1152921504606846976
 hops : x.2.2.2.2.2.2.2.2.2.2.2.1.length ≤ 1152921504606846976
def zG7 (p q : Ty.El zG) : Bool := p.1 == q.1 && (p.2.1 == q.2.1 && true)
theorem zCm {p q : Ty.El zG} : zG7 p q = true ↔ p = q := ⟨fun h => zD4 h, fun h => by subst h; simp [zG7]⟩
end Go.Ve
