/-
  Plain laws: preference of routes; insertion into ordered lists; the prefixes of routes; hops added.
  Plain laws: static routes that are active.
  Plain laws: the prefixes of routes; hops added; routes merged.
  Plain laws: routes merged.
  Plain laws: connected routes: sorted, and valid; static routes are valid.
  Plain laws: merging where prefixes differ; the reference's connected and active routes.
  Plain laws: ranges swapped and rotated, stated place by place.
  Functions out of code: sorting, for any elements and any comparison.
  Plain laws: ranges swapped and rotated: the walks.
  Plain laws: stable merging in place: what the steps keep.
  Plain laws: stable merging in place: the walk.
-/
import Derived.Test.YtcnlcmbchljpgaaGreatQt13
import Derived.Test.YtcnlcmbchljpgaaGreatQt12
import Derived.Test.YtcnlcmbchljpgaaGreatQt10
set_option linter.unusedVariables false
namespace Go.Ve
open Go
set_option maxRecDepth 1000000
set_option maxHeartbeats 4000000
def vO (x : Ty.El zA) : Int × Int × Int × Int × Int × Int × Int :=
 bif x.2.1 == (3 : Int) then (x.2.2.1, x.2.2.2.2.1, x.2.2.2.2.2.1, x.2.2.2.2.2.2.1, (0 : Int), (0 : Int), (0 : Int))
 else bif x.2.1 == (4 : Int) then (x.2.2.2.2.1, x.2.2.1, x.2.2.2.2.2.2.1, (0 : Int), (0 : Int), (0 : Int), (0 : Int))
 else bif x.2.1 == (5 : Int) then (if (3 : Int) < x.2.2.1 then (3 : Int) else x.2.2.1, IntKind.wrap IntKind.i64 ((1000000 : Int) - x.2.2.2.2.2.2.2.1), (x.2.2.2.2.2.2.2.2.1.length : Int), x.2.2.2.2.1, x.2.2.1, IntKind.wrap IntKind.i64 x.2.2.2.2.2.2.2.2.2.1, (0 : Int))
 else (x.2.2.2.1, (0 : Int), (0 : Int), (0 : Int), (0 : Int), (0 : Int), (0 : Int))
def zGp : List (Int × Int) → Int
 | [] => 0
 | (a, b) :: r => if a < b then -1 else if b < a then 1 else zGp r
def uS (x y : Ty.El zA) : Int :=
 zGp [((vO x).1, (vO y).1), ((vO x).2.1, (vO y).2.1), ((vO x).2.2.1, (vO y).2.2.1), ((vO x).2.2.2.1, (vO y).2.2.2.1), ((vO x).2.2.2.2.1, (vO y).2.2.2.2.1), ((vO x).2.2.2.2.2.1, (vO y).2.2.2.2.2.1), ((vO x).2.2.2.2.2.2, (vO y).2.2.2.2.2.2)]
theorem zE1 (x : Ty.El zA) : zCI (x, ()) = some ((vO x).1, (vO x).2.1, (vO x).2.2.1, (vO x).2.2.2.1, (vO x).2.2.2.2.1, (vO x).2.2.2.2.2.1, (vO x).2.2.2.2.2.2, ()) := by
 unfold zCI vO
 dsimp only
 cases x.2.1 == (3 : Int) <;> cases x.2.1 == (4 : Int) <;> cases x.2.1 == (5 : Int) <;> rfl
theorem zEe {a b : Int} {r : List (Int × Int)} {m : Option (Unit ⊕ Int)} (h : Wp m (j7 (fun _ => zGp r = 0) (fun k => k = zGp r ∧ k ≠ 0))) :
  Wp (bif decide (a < b) then some (Sum.inr (-1 : Int)) else bif decide (a > b) then some (Sum.inr (1 : Int)) else m) (j7 (fun _ => zGp ((a, b) :: r) = 0) (fun k => k = zGp ((a, b) :: r) ∧ k ≠ 0)) := by
 refine zI (fun h1 => zB (e2r ⟨?_, by omega⟩)) (fun h1 => zI (fun h2 => zB (e2r ⟨?_, by omega⟩)) (fun h2 => ?_))
 ·simp only [zGp, if_pos h1]
 ·simp only [zGp, if_neg h1, if_pos h2]
 ·have : zGp ((a, b) :: r) = zGp r := by
   simp only [zGp]
   rw [if_neg h1, if_neg h2]
  rw [this]
  exact h
theorem zDe (x y : Ty.El zA) : zA7 (x, y, ()) = some (uS x y) := by
 refine wD ?_
 unfold zA7
 dsimp only
 refine zC (qD (zE1 x) (zC (qD (zE1 y) ?_)))
 refine qJ (Wp.mono (Q := j7 (fun _ => uS x y = 0) (fun k => k = uS x y ∧ k ≠ 0)) ?_ ?_)
 ·unfold uS
  exact zEe (zEe (zEe (zEe (zEe (zEe (zEe (zB rfl)))))))
 ·intro o ho
  cases o with
  | inl u => exact zB ho.symm
  | inr k => exact ho.1
theorem zVg (l : List Int) : zGp (l.map (fun a => (a, a))) = 0 := by
 induction l with
 | nil => rfl
 | cons a l ih =>
  simp only [List.map_cons, zGp]
  rw [if_neg (by omega), if_neg (by omega)]
  exact ih
theorem zSR (x : Ty.El zA) : uS x x = 0 := zVg [(vO x).1, (vO x).2.1, (vO x).2.2.1, (vO x).2.2.2.1, (vO x).2.2.2.2.1, (vO x).2.2.2.2.2.1, (vO x).2.2.2.2.2.2]
section
variable {α : Type} {lt eq : α → α → Bool}
def zCm (lt eq : α → α → Bool) (h : α) : List α → List α
 | [] => [h]
 | x :: r => bif lt x h then x :: zCm lt eq h r else bif eq x h then x :: r else h :: x :: r
theorem zQc {h : α} : ∀ {l : List α} {k : Nat}, k ≤ l.length → (∀ j x, j < k → l[j]? = some x → lt x h = true) → (∀ x, l[k]? = some x → lt x h = false) →
  zCm lt eq h l = if (∃ x, l[k]? = some x ∧ eq x h = true) then l else l.take k ++ [h] ++ l.drop k
 | [], k, hk, _, _ => by
  have : k = 0 := by simpa using hk
  subst this
  simp [zCm]
 | x :: r, 0, _, _, h2 => by
  have hx := h2 x rfl
  simp only [zCm, hx, cond_false]
  cases he : eq x h with
  | true => simp [he]
  | false => simp [he]
 | x :: r, k + 1, hk, h1, h2 => by
  have hx := h1 0 x (by omega) rfl
  have ih := zQc (l := r) (k := k) (by simpa using hk) (fun j y hj hy => h1 (j + 1) y (by omega) (by simpa using hy)) (fun y hy => h2 y (by simpa using hy))
  simp only [zCm, hx, cond_true, ih, List.getElem?_cons_succ, List.take_succ_cons, List.drop_succ_cons, List.cons_append]
  split <;> rfl
theorem zJx (heq : ∀ x y, eq x y = true ↔ x = y) {h z : α} : ∀ {l : List α}, z ∈ zCm lt eq h l ↔ z ∈ l ∨ z = h
 | [] => by simp [zCm]
 | x :: r => by
  simp only [zCm]
  cases lt x h with
  | true => simp only [cond_true, List.mem_cons, zJx heq (l := r)]; exact or_assoc.symm
  | false =>
   simp only [cond_false]
   cases he : eq x h with
   | true =>
    have := (heq x h).1 he
    subst this
    simp only [cond_true, List.mem_cons]
    exact ⟨fun h => .inl h, fun h => h.elim id .inl⟩
   | false => simp only [cond_false, List.mem_cons]; exact ⟨fun h => h.elim .inr .inl, fun h => h.elim .inr .inl⟩
theorem zGb {R : α → α → Prop} (ho : Ord R) (hlt : ∀ x y, lt x y = true ↔ R x y) (heq : ∀ x y, eq x y = true ↔ x = y) (htot : ∀ x y, ¬ R x y → x ≠ y → R y x) {h : α} : ∀ {l : List α}, l.Pairwise R → (zCm lt eq h l).Pairwise R
 | [], _ => by simp [zCm]
 | x :: r, hp => by
  rw [List.pairwise_cons] at hp
  simp only [zCm]
  cases hx : lt x h with
  | true =>
   simp only [cond_true]
   rw [List.pairwise_cons]
   refine ⟨fun z hz => ?_, zGb ho hlt heq htot hp.2⟩
   rcases (zJx heq).1 hz with hz | rfl
   ·exact hp.1 z hz
   ·exact (hlt _ _).1 hx
  | false =>
   simp only [cond_false]
   have hn : ¬ R x h := fun hh => by rw [(hlt _ _).2 hh] at hx; cases hx
   cases he : eq x h with
   | true => simp only [cond_true]; rw [List.pairwise_cons]; exact hp
   | false =>
    simp only [cond_false]
    have hne : x ≠ h := fun e => by rw [(heq _ _).2 e] at he; cases he
    have hr := htot _ _ hn hne
    have tr : ∀ z, R x z → R h z := by
     intro z hz
     exact Classical.byContradiction (fun hnz => ho.tr x z h (ho.asym _ _ hz) hnz hr)
    rw [List.pairwise_cons, List.pairwise_cons]
    refine ⟨fun z hz => ?_, hp⟩
    rcases List.mem_cons.1 hz with rfl | hz
    ·exact hr
    ·exact tr z (hp.1 z hz)
end
end Go.Ve

namespace Go.Ve
open Go
set_option maxRecDepth 1000000
set_option maxHeartbeats 4000000
theorem zCS {α β : Type} {f : α → Option β} {xs : List α} {i : Nat} {x : α} (h : xs[i]? = some x) : (xs.take (i + 1)).filterMap f = (xs.take i).filterMap f ++ (f x).toList := by
 rw [List.take_add_one, h, Option.toList_some, List.filterMap_append, List.filterMap_cons, List.filterMap_nil]
 cases f x <;> rfl
end Go.Ve

namespace Go.Ve
open Go
set_option maxRecDepth 1000000
set_option maxHeartbeats 4000000
theorem zQ0 {α : Type} {xs : List α} {k : Nat} (h : k ≤ xs.length) : sub xs 0 (k : Int) = some (xs.take k) := by
 unfold sub
 rw [if_pos (by omega), Int.toNat_natCast]
 rfl
theorem zMA {α : Type} {xs : List α} {k : Nat} (h : k ≤ xs.length) : sub xs (k : Int) (xs.length : Int) = some (xs.drop k) := by
 unfold sub
 rw [if_pos (by omega), Int.toNat_natCast, Int.toNat_natCast, List.take_length]
def zFp (p q : Ty.El zF) : Bool := decide (zXQ p q < 0)
theorem zV6 {p q : Ty.El zF} : zFp p q = true ↔ plt p q := by
 unfold zFp; rw [decide_eq_true_eq]; exact zJV
theorem zJy {α : Type} {lt eq : α → α → Bool} {h : α} : ∀ {l : List α}, (zCm lt eq h l).length ≤ l.length + 1
 | [] => by simp [zCm]
 | x :: r => by
  have := zJy (lt := lt) (eq := eq) (h := h) (l := r)
  simp only [zCm]
  cases lt x h <;> cases eq x h <;> simp <;> omega
def zI9 (l : List (Ty.El zA)) : List (Ty.El zF) := l.foldl (fun acc x => zCm zFp zAg x.1 acc) []
theorem zI8 : ∀ (l : List (Ty.El zA)) (acc : List (Ty.El zF)), (l.foldl (fun acc x => zCm zFp zAg x.1 acc) acc).length ≤ acc.length + l.length
 | [], acc => by simp
 | x :: l, acc => by
  have h1 := zI8 l (zCm zFp zAg x.1 acc)
  have h2 := zJy (lt := zFp) (eq := zAg) (h := x.1) (l := acc)
  simp only [List.foldl_cons, List.length_cons]
  omega
theorem zRn (l : List (Ty.El zA)) : (zI9 l).length ≤ l.length := by
 have := zI8 l []
 simpa [zI9] using this
theorem zMU : ∀ (l : List (Ty.El zA)) (acc : List (Ty.El zF)), acc.Pairwise plt →
  (l.foldl (fun acc x => zCm zFp zAg x.1 acc) acc).Pairwise plt ∧ ∀ p, p ∈ l.foldl (fun acc x => zCm zFp zAg x.1 acc) acc ↔ p ∈ acc ∨ ∃ x, x ∈ l ∧ x.1 = p
 | [], acc, h => ⟨h, fun p => by simp⟩
 | x :: l, acc, h => by
  have h2 := zMU l (zCm zFp zAg x.1 acc) (zGb zGG (fun _ _ => zV6) (fun _ _ => uF) (fun p q h1 h2 => zPY h1 (fun e => h2 e.symm)) h)
  refine ⟨h2.1, fun p => ?_⟩
  rw [List.foldl_cons, h2.2 p, zJx (fun _ _ => uF)]
  constructor
  ·rintro ((h | rfl) | ⟨y, hy, rfl⟩)
   ·exact .inl h
   ·exact .inr ⟨x, by simp, rfl⟩
   ·exact .inr ⟨y, by simp [hy], rfl⟩
  ·rintro (h | ⟨y, hy, rfl⟩)
   ·exact .inl (.inl h)
   ·rcases List.mem_cons.1 hy with rfl | hy
    ·exact .inl (.inr rfl)
    ·exact .inr ⟨y, hy, rfl⟩
theorem zF0 (l : List (Ty.El zA)) : (zI9 l).Pairwise plt := (zMU l [] List.Pairwise.nil).1
theorem zCM (l : List (Ty.El zA)) (p : Ty.El zF) : p ∈ zI9 l ↔ ∃ x, x ∈ l ∧ x.1 = p := by
 have := (zMU l [] List.Pairwise.nil).2 p
 rw [show zI9 l = l.foldl (fun acc x => zCm zFp zAg x.1 acc) [] from rfl, this]
 simp
theorem zG1 (l : List (Ty.El zA)) (hl : l.length ≤ 1048576) : Wp (zA5 (l, ())) (fun r => r = zI9 l) := by
 unfold zA5
 dsimp only
 refine zC ((vM (xs := l) (by omega) (fun i (acc : List (Ty.El zF)) => acc.length ≤ i ∧ acc = zI9 (l.take i)) ⟨Nat.le_refl _, rfl⟩ ?_ (Q := fun r => r = zI9 l) (fun g hg => by have := hg.2; rw [List.take_length] at this; exact this)).mono (fun r hr => zB hr))
 rintro i x acc hx ⟨hal, hacc⟩
 have hi := (List.getElem?_eq_some_iff.1 hx).1
 have jD : zI9 (l.take (i + 1)) = zCm zFp zAg x.1 acc := by
  unfold zI9
  rw [zEK hx, hacc]
  rfl
 rw [jD]
 refine Wp.mono (Q := fun r => r = zCm zFp zAg x.1 acc) ?_ (fun r hr => ⟨by rw [hr]; have := zJy (lt := zFp) (eq := zAg) (h := x.1) (l := acc); omega, hr⟩)
 refine zC ((show Wp _ (fun s : Int × List (Ty.El zF) => s.2 = acc ∧ ∃ k : Nat, s.1 = (k : Int) ∧ k ≤ acc.length ∧ (∀ j p, j < k → acc[j]? = some p → zFp p x.1 = true) ∧ ∀ p, acc[k]? = some p → zFp p x.1 = false) from ?_).mono ?_)
 ·refine j2 (fun s : Int × List (Ty.El zF) => s.2 = acc ∧ ∃ k : Nat, s.1 = (k : Int) ∧ k ≤ acc.length ∧ (∀ j p, j < k → acc[j]? = some p → zFp p x.1 = true)) (fun s => ((acc.length : Int) - s.1).toNat)
   ⟨rfl, 0, rfl, Nat.zero_le _, fun j p hj => by omega⟩ ?_
  rintro ⟨s, g⟩ ⟨hg, k, hk, hkl, hj⟩
  simp only at hg hk
  subst hg hk
  refine zC ((show Wp _ (fun c : Bool × List (Ty.El zF) => c.2 = g ∧ (c.1 = true → k < g.length ∧ ∀ p, g[k]? = some p → zFp p x.1 = true) ∧ (c.1 = false → ∀ p, g[k]? = some p → zFp p x.1 = false)) from ?_).mono ?_)
  ·refine zI (fun h => ?_) (fun h => zB ⟨rfl, (fun h => by cases h), fun _ p hp => ?_⟩)
   ·have h : (k : Int) < (g.length : Int) := h
    have hk : g[k]? = some (g[k]'(by omega)) := by simp
    simp only [zJ hk, Int.toNat_natCast, wO hk, zJ hx, Option.bind_some]
    refine zC (qD (zAV _ _) (zB ⟨rfl, (fun h => ⟨by omega, fun p hp => ?_⟩), fun h p hp => ?_⟩))
    ·rw [hk] at hp; cases hp; exact h
    ·rw [hk] at hp; cases hp; exact h
   ·have h : ¬ (k : Int) < (g.length : Int) := h
    have := (List.getElem?_eq_some_iff.1 hp).1
    omega
  ·rintro ⟨c, g'⟩ ⟨hg, ht, hf⟩
   simp only at hg ht hf
   subst hg
   refine zG (fun h => ?_) (fun h => zB (e2r ⟨rfl, k, rfl, hkl, hj, hf h⟩))
   obtain ⟨h1, h2⟩ := ht h
   refine zB (e2l ⟨⟨rfl, k + 1, ?_, h1, ?_⟩, ?_⟩)
   ·simp only; rw [zD (by omega) (by omega)]; omega
   ·intro j p hj' hp
    rcases Nat.lt_or_ge j k with h' | h'
    ·exact hj j p h' hp
    ·have : j = k := by omega
     subst this
     exact h2 p hp
   ·simp only; rw [zD (by omega) (by omega)]; omega
 ·rintro ⟨s, g⟩ ⟨hg, k, hk, hkl, h1, h2⟩
  simp only at hg hk
  subst hg hk
  rw [zQc (eq := zAg) hkl h1 h2]
  refine zC ((show Wp _ (fun c : Bool × List (Ty.El zF) => c.2 = g ∧ (c.1 = true ↔ ¬ ∃ y, g[k]? = some y ∧ zAg y x.1 = true)) from ?_).mono ?_)
  ·refine zG (fun h => zB ⟨rfl, fun _ => ?_, fun _ => rfl⟩) (fun h => ?_)
   ·have h : (k : Int) = (g.length : Int) := by simpa using h
    rintro ⟨y, hy, _⟩
    have := (List.getElem?_eq_some_iff.1 hy).1
    omega
   ·have h : ¬ (k : Int) = (g.length : Int) := by simpa using h
    have hk : g[k]? = some (g[k]'(by omega)) := by simp
    simp only [zJ hk, Int.toNat_natCast, wO hk, zJ hx, Option.bind_some]
    refine zB ⟨rfl, ?_⟩
    have hb : (!((g[k]'(by omega)).fst == x.1.1 && ((g[k]'(by omega)).snd.fst == x.1.2.1 && true))) = !zAg (g[k]'(by omega)) x.1 := rfl
    rw [hb]
    constructor
    ·rintro h3 ⟨y, hy, h4⟩
     rw [hk] at hy
     cases hy
     rw [h4] at h3
     cases h3
    ·intro h3
     cases h4 : zAg (g[k]'(by omega)) x.1 with
     | false => rfl
     | true => exact absurd ⟨_, hk, h4⟩ h3
  ·rintro ⟨c, g'⟩ ⟨hg, hc⟩
   simp only at hg hc
   subst hg
   refine zG (fun h => ?_) (fun h => zB ?_)
   ·rw [if_neg (hc.1 h)]
    refine zC (qD (zQ0 hkl) ?_)
    simp only [zJ hx, Option.bind_some]
    refine zC (qD (zMA hkl) ?_)
    refine zC (wL (by simp only [List.length_nil, List.length_take]; omega) ?_)
    refine zC (wL (by simp only [List.length_append, List.length_nil, List.length_take, List.length_singleton]; omega) ?_)
    refine zC (wL (by simp only [List.length_append, List.length_nil, List.length_take, List.length_drop, List.length_singleton]; omega) ?_)
    exact zB rfl
   ·have h : c = false := h
    rw [if_pos]
    exact Classical.byContradiction (fun hn => by rw [hc.2 hn] at h; cases h)
def hlt (a b : Ty.El z1) : Prop := zDV a.1 a.2.1 b.1 b.2.1
theorem zJB : Ord hlt where
 asym := fun x y h => by unfold hlt zDV at *; omega
 tr := fun x y z h1 h2 => by unfold hlt zDV at *; omega
theorem zWp {p q : Ty.El z1} (h : ¬ hlt q p) (hne : p ≠ q) : hlt p q := by
 refine zT7 h (fun e => hne ?_)
 obtain ⟨a, b, ⟨⟩⟩ := p
 obtain ⟨c, d, ⟨⟩⟩ := q
 obtain ⟨rfl, rfl⟩ := e
 rfl
def zOB (a b : Ty.El z1) : Bool := decide (zJW a.1 a.2.1 b.1 b.2.1 < 0)
theorem zRG {a b : Ty.El z1} : zOB a b = true ↔ hlt a b := by
 unfold zOB; rw [decide_eq_true_eq]; exact zQx
def zLY (a b : Ty.El z1) : Bool := a.1 == b.1 && (a.2.1 == b.2.1 && true)
theorem zHW (a b : Ty.El z1) : kF (a, b, ()) = some (zOB a b) := by
 refine wD ?_
 unfold kF
 dsimp only
 have hd : ∀ s : Bool, (s = true ↔ hlt a b) → s = zOB a b := by
  intro s hs
  rw [Bool.eq_iff_iff, zRG]
  exact hs
 refine zC (zI (fun h => zB (zB (hd _ ⟨fun _ => .inl h, fun _ => rfl⟩))) (fun h => zG (fun h' => zB (zB (hd _ ?_))) (fun h' => zB (zB (hd _ ?_)))))
 ·have h' : a.1 = b.1 := by simpa using h'
  rw [decide_eq_true_eq]
  exact ⟨fun h2 => .inr ⟨h', h2⟩, fun h2 => h2.elim (fun h3 => absurd h3 h) (fun h3 => h3.2)⟩
 ·have h' : ¬ a.1 = b.1 := by simpa using h'
  exact ⟨(fun h2 => by cases h2), fun h2 => (h2.elim (fun h3 => h h3) (fun h3 => h' h3.1)).elim⟩
def w4 (l : List (Ty.El z1)) (h : Ty.El z1) : List (Ty.El z1) := zCm zOB zLY h l
theorem zIR (l : List (Ty.El z1)) (h : Ty.El z1) (hl : l.length ≤ 1099511627776) : Wp (zA6 (l, h, ())) (fun r => r = w4 l h) := by
 unfold zA6
 dsimp only
 refine zC ((show Wp _ (fun s : Int => ∃ k : Nat, s = (k : Int) ∧ k ≤ l.length ∧ (∀ j p, j < k → l[j]? = some p → zOB p h = true) ∧ ∀ p, l[k]? = some p → zOB p h = false) from ?_).mono ?_)
 ·refine j2 (fun s : Int => ∃ k : Nat, s = (k : Int) ∧ k ≤ l.length ∧ (∀ j p, j < k → l[j]? = some p → zOB p h = true)) (fun s => ((l.length : Int) - s).toNat) ⟨0, rfl, Nat.zero_le _, fun j p hj => by omega⟩ ?_
  rintro s ⟨k, rfl, hkl, hj⟩
  refine zC ((show Wp _ (fun c : Bool => (c = true → k < l.length ∧ ∀ p, l[k]? = some p → zOB p h = true) ∧ (c = false → ∀ p, l[k]? = some p → zOB p h = false)) from ?_).mono ?_)
  ·refine zI (fun hlt' => ?_) (fun hge => zB ⟨(fun h => by cases h), fun _ p hp => ?_⟩)
   ·have hk : l[k]? = some (l[k]'(by omega)) := by simp
    simp only [zJ hk, Option.bind_some]
    refine zC (qD (zHW _ _) (zB ⟨(fun h' => ⟨by omega, fun p hp => ?_⟩), fun h' p hp => ?_⟩))
    ·rw [hk] at hp; cases hp; exact h'
    ·rw [hk] at hp; cases hp; exact h'
   ·have := (List.getElem?_eq_some_iff.1 hp).1
    omega
  ·rintro c ⟨ht, hf⟩
   refine zG (fun h' => ?_) (fun h' => zB (e2r ⟨k, rfl, hkl, hj, hf h'⟩))
   obtain ⟨h1, h2⟩ := ht h'
   refine zB (e2l ⟨⟨k + 1, ?_, h1, ?_⟩, ?_⟩)
   ·rw [zD (by omega) (by omega)]; omega
   ·intro j p hj' hp
    rcases Nat.lt_or_ge j k with h' | h'
    ·exact hj j p h' hp
    ·have : j = k := by omega
     subst this
     exact h2 p hp
   ·rw [zD (by omega) (by omega)]; omega
 ·rintro s ⟨k, rfl, hkl, h1, h2⟩
  unfold w4
  rw [zQc (eq := zLY) hkl h1 h2]
  refine zC ((show Wp _ (fun c : Bool => (c = true ↔ ∃ y, l[k]? = some y ∧ zLY y h = true)) from ?_).mono (fun c hc => ?_))
  ·refine zI (fun hlt' => ?_) (fun hge => zB ⟨(fun h => by cases h), ?_⟩)
   ·have hk : l[k]? = some (l[k]'(by omega)) := by simp
    simp only [zJ hk, Option.bind_some]
    refine zB ⟨fun h3 => ⟨_, hk, h3⟩, ?_⟩
    rintro ⟨y, hy, h4⟩
    rw [hk] at hy
    cases hy
    exact h4
   ·rintro ⟨y, hy, _⟩
    have := (List.getElem?_eq_some_iff.1 hy).1
    omega
  ·refine zG (fun h' => zB ?_) (fun h' => ?_)
   ·rw [if_pos (hc.1 h')]
   ·have h' : c = false := h'
    rw [if_neg (fun h3 => by rw [hc.2 h3] at h'; cases h')]
    refine zC (qD (zQ0 hkl) (zC (qD (zMA hkl) ?_)))
    refine zC (wL (by simp only [List.length_nil, List.length_take]; omega) ?_)
    refine zC (wL (by simp only [List.length_append, List.length_nil, List.length_take, List.length_singleton]; omega) ?_)
    refine zC (wL (by simp only [List.length_append, List.length_nil, List.length_take, List.length_drop, List.length_singleton]; omega) ?_)
    exact zB rfl
theorem zGv : ∀ (more l : List (Ty.El z1)), (more.foldl w4 l).length ≤ l.length + more.length
 | [], l => by simp
 | h :: more, l => by
  have h1 := zGv more (w4 l h)
  have h2 : (w4 l h).length ≤ l.length + 1 := zJy
  simp only [List.foldl_cons, List.length_cons]
  omega
theorem zHX (l more : List (Ty.El z1)) (hl : l.length + more.length ≤ 1099511627776) : Wp (zBK (l, more, ())) (fun r => r = more.foldl w4 l) := by
 unfold zBK
 dsimp only
 refine zC ((Wp.mono (Q := fun r => r = more.foldl w4 l) ?_ (fun r hr => zB hr)))
 have h := vM (xs := more) (g0 := l) (body := fun s => Option.bind (idx more s.1) fun y7 => zA6 (s.2, y7, ())) (by omega) (fun i (g : List (Ty.El z1)) => g = (more.take i).foldl w4 l) rfl ?_ (Q := fun r => r = more.foldl w4 l) (fun g hg => by rw [hg, List.take_length])
 ·simp only [Option.bind_assoc] at h
  exact h
 ·intro i x g hx hg
  have hi := (List.getElem?_eq_some_iff.1 hx).1
  have hgl : g.length ≤ l.length + i := by
   rw [hg]
   have := zGv (more.take i) l
   rw [List.length_take] at this
   omega
  simp only [zJ hx, Option.bind_some]
  rw [zEK hx, ← hg]
  exact zIR g x (by omega)
end Go.Ve

namespace Go.Ve
open Go
set_option maxRecDepth 1000000
set_option maxHeartbeats 4000000
def zQB (x : Ty.El zA) (b : Option (Ty.El zA)) : Bool :=
 match b with
 | none => true
 | some y => decide (uS x y < 0)
def yM (p : Ty.El zF) (b : Option (Ty.El zA)) (x : Ty.El zA) : Option (Ty.El zA) :=
 bif zAg x.1 p && zQB x b then some x else b
def zAz (l : List (Ty.El zA)) (p : Ty.El zF) : Option (Ty.El zA) := l.foldl (yM p) none
def jD (p : Ty.El zF) (b : Ty.El zA) (hs : List (Ty.El z1)) (x : Ty.El zA) : List (Ty.El z1) :=
 bif zAg x.1 p && (uS x b == 0) then x.2.2.2.2.2.2.2.2.2.2.2.1.foldl w4 hs else hs
def yX (l : List (Ty.El zA)) (p : Ty.El zF) (b : Ty.El zA) : List (Ty.El z1) := l.foldl (jD p b) []
def zPP (b : Ty.El zA) (hs : List (Ty.El z1)) : Ty.El zA :=
 ((b.1.1, b.1.2.1, ()), b.2.1, b.2.2.1, b.2.2.2.1, b.2.2.2.2.1, b.2.2.2.2.2.1, b.2.2.2.2.2.2.1, b.2.2.2.2.2.2.2.1, b.2.2.2.2.2.2.2.2.1, b.2.2.2.2.2.2.2.2.2.1, b.2.2.2.2.2.2.2.2.2.2.1, hs, b.2.2.2.2.2.2.2.2.2.2.2.2.1, ())
def mrg (l : List (Ty.El zA)) (p : Ty.El zF) : Option (Ty.El zA) := (zAz l p).map (fun b => zPP b (yX l p b))
def wY (l : List (Ty.El zA)) : List (Ty.El zA) := (zI9 l).filterMap (mrg l)
theorem zN4 {p : Ty.El zF} {b : Option (Ty.El zA)} {x : Ty.El zA} (h : b.isSome = true ∨ x.1 = p) : (yM p b x).isSome = true := by
 unfold yM
 cases b with
 | none =>
  rcases h with h | h
  ·cases h
  ·rw [uF.2 h]; rfl
 | some y => cases zAg x.1 p && zQB x (some y) <;> rfl
theorem zHA {p : Ty.El zF} : ∀ (l : List (Ty.El zA)) (b : Option (Ty.El zA)), (b.isSome = true ∨ ∃ x, x ∈ l ∧ x.1 = p) → (l.foldl (yM p) b).isSome = true
 | [], b, h => by
  rcases h with h | ⟨x, hx, _⟩
  ·exact h
  ·cases hx
 | x :: l, b, h => by
  rw [List.foldl_cons]
  refine zHA l _ ?_
  rcases h with h | ⟨y, hy, hp⟩
  ·exact .inl (zN4 (.inl h))
  ·rcases List.mem_cons.1 hy with rfl | hy
   ·exact .inl (zN4 (.inr hp))
   ·exact .inr ⟨y, hy, hp⟩
theorem zVp {l : List (Ty.El zA)} {p : Ty.El zF} (h : p ∈ zI9 l) : ∃ b, zAz l p = some b :=
 Option.isSome_iff_exists.1 (zHA l none (.inr ((zCM l p).1 h)))
theorem zPe {p : Ty.El zF} {b : Ty.El zA} {hs : List (Ty.El z1)} {x : Ty.El zA} : (jD p b hs x).length ≤ hs.length + x.2.2.2.2.2.2.2.2.2.2.2.1.length := by
 unfold jD
 cases zAg x.1 p && (uS x b == 0) with
 | true => exact zGv _ _
 | false => exact Nat.le_add_right _ _
theorem zDP (l : List (Ty.El zA)) (hl : l.length ≤ 524288) (hs : ∀ y, y ∈ l → RtS y) : Wp (zBR (l, ())) (fun r => r = wY l) := by
 unfold zBR
 dsimp only
 refine zC ((zG1 l (by omega)).mono (fun P hP => ?_))
 have hPl := zRn l
 rw [← hP] at hPl
 refine zC ((vM (xs := P) (by omega) (fun i (g : List (Ty.El zA)) => g = (P.take i).filterMap (mrg l)) rfl ?_ (Q := fun r => r = wY l) (fun g hg => by rw [hg, List.take_length, hP]; rfl)).mono (fun r hr => zB hr))
 intro k p out hp hout
 have hk := (List.getElem?_eq_some_iff.1 hp).1
 have hol : out.length ≤ k := by
  rw [hout]
  refine Nat.le_trans (List.length_filterMap_le _ _) ?_
  rw [List.length_take]
  omega
 rw [zCS hp, ← hout]
 obtain ⟨b, hb⟩ := zVp (l := l) (p := p) (by rw [← hP]; exact List.mem_of_getElem? hp)
 refine zC ((vM (xs := l) (by omega) (fun i (g : Int × List (Ty.El zA)) => g.2 = out ∧ ((g.1 < 0 ∧ (l.take i).foldl (yM p) none = none) ∨ ∃ (m : Nat) (y : Ty.El zA), g.1 = (m : Int) ∧ l[m]? = some y ∧ (l.take i).foldl (yM p) none = some y)) ⟨rfl, .inl ⟨by simp only; omega, rfl⟩⟩ ?_
  (Q := fun g => g.2 = out ∧ ∃ (m : Nat), g.1 = (m : Int) ∧ l[m]? = some b) ?_).mono ?_)
 ·rintro i x ⟨kb, g⟩ hx ⟨hg, hj⟩
  simp only at hg hj
  subst hg
  rw [zEK hx]
  generalize (l.take i).foldl (yM p) none = c at hj
  simp only [zJ hx, zJ hp, Option.bind_some]
  refine zC ((show Wp _ (fun s : Bool × List (Ty.El zA) => s.2 = g ∧ s.1 = (zAg x.1 p && zQB x c)) from ?_).mono ?_)
  ·refine zG (fun h => ?_) (fun h => zB ⟨rfl, ?_⟩)
   ·have h : zAg x.1 p = true := h
    rw [h]
    rcases hj with ⟨h1, rfl⟩ | ⟨m, y, rfl, h2, rfl⟩
    ·exact zI (fun _ => zB ⟨rfl, rfl⟩) (fun h' => absurd h1 h')
    ·refine zI (fun h' => absurd h' (by omega)) (fun _ => ?_)
     simp only [zJ h2, Option.bind_some]
     exact zC (qD (zDe _ _) (zB ⟨rfl, rfl⟩))
   ·have h : zAg x.1 p = false := h
    rw [h]; rfl
  ·rintro ⟨s, g'⟩ ⟨hg, hs'⟩
   simp only at hg hs'
   subst hg
   refine zG (fun h => zB ⟨rfl, .inr ⟨i, x, rfl, hx, ?_⟩⟩) (fun h => zB ⟨rfl, ?_⟩)
   ·have h : s = true := h
    unfold yM
    rw [← hs', h]; rfl
   ·have h : s = false := h
    have hbs : yM p c x = c := by
     unfold yM
     rw [← hs', h]; rfl
    rw [hbs]
    exact hj
 ·rintro ⟨kb, g⟩ ⟨hg, hj⟩
  rw [List.take_length] at hj
  refine ⟨hg, ?_⟩
  have hb' : l.foldl (yM p) none = some b := hb
  rcases hj with ⟨_, h⟩ | ⟨m, y, h1, h2, h3⟩
  ·rw [hb'] at h; cases h
  ·rw [hb'] at h3; cases h3; exact ⟨m, h1, h2⟩
 ·rintro ⟨kb, g⟩ ⟨hg, m, hm, hbm⟩
  simp only at hg hm
  subst hg hm
  have hbS := hs b (List.mem_of_getElem? hbm)
  simp only [zJ hbm, Option.bind_some]
  refine zC (wL (by have := hbS.path; simp only [List.length_nil]; omega) ?_)
  rw [List.nil_append]
  refine zC ((vM (xs := l) (by omega) (fun i (s : List (Ty.El zA) × Int × Int × Int × Int × Int × Int × Int × Int × Int × List Int × Int × Int × List (Ty.El z1) × Bool) =>
   s = (g, b.1.1, b.1.2.1, b.2.1, b.2.2.1, b.2.2.2.1, b.2.2.2.2.1, b.2.2.2.2.2.1, b.2.2.2.2.2.2.1, b.2.2.2.2.2.2.2.1, b.2.2.2.2.2.2.2.2.1, b.2.2.2.2.2.2.2.2.2.1, b.2.2.2.2.2.2.2.2.2.2.1, (l.take i).foldl (jD p b) [], b.2.2.2.2.2.2.2.2.2.2.2.2.1) ∧ ((l.take i).foldl (jD p b) []).length ≤ i * 1048576) ⟨rfl, by simp⟩ ?_
   (Q := fun s => s = (g, b.1.1, b.1.2.1, b.2.1, b.2.2.1, b.2.2.2.1, b.2.2.2.2.1, b.2.2.2.2.2.1, b.2.2.2.2.2.2.1, b.2.2.2.2.2.2.2.1, b.2.2.2.2.2.2.2.2.1, b.2.2.2.2.2.2.2.2.2.1, b.2.2.2.2.2.2.2.2.2.2.1, yX l p b, b.2.2.2.2.2.2.2.2.2.2.2.2.1)) (fun s hs => by have := hs.1; rw [List.take_length] at this; exact this)).mono ?_)
  ·rintro i x s hx ⟨rfl, hlen⟩
   have hi := (List.getElem?_eq_some_iff.1 hx).1
   have hxS := hs x (List.mem_of_getElem? hx)
   rw [zEK hx]
   have hl2 := zPe (p := p) (b := b) (hs := (l.take i).foldl (jD p b) []) (x := x)
   have hxh := hxS.hops
   generalize hH : (l.take i).foldl (jD p b) [] = H at hlen hl2
   simp only [zJ hx, zJ hp, zJ hbm, Option.bind_some]
   have hfin : (jD p b H x).length ≤ (i + 1) * 1048576 := by omega
   refine zC (zG (fun h => zC (qD (zDe _ _) (zB ?_))) (fun h => zB ?_))
   ·have h : zAg x.1 p = true := h
    refine zG (fun h' => ?_) (fun h' => zB ⟨?_, hfin⟩)
    ·have h' : (uS x b == 0) = true := h'
     refine zC ((zHX H x.2.2.2.2.2.2.2.2.2.2.2.1 (by omega)).mono (fun r hr => zB ⟨?_, hfin⟩))
     have he : jD p b H x = r := by
      unfold jD
      rw [h, h', hr]; rfl
     rw [he]
    ·have h' : (uS x b == 0) = false := h'
     have he : jD p b H x = H := by
      unfold jD
      rw [h, h']; rfl
     rw [he]
   ·have h : zAg x.1 p = false := h
    have he : jD p b H x = H := by
     unfold jD
     rw [h]; rfl
    refine zG (fun h' => by cases h') (fun _ => zB ⟨?_, hfin⟩)
    rw [he]
  ·rintro s rfl
   refine zC (wL (by simp only [List.length_singleton]; omega) (zB ?_))
   have hm : mrg l p = some (zPP b (yX l p b)) := by unfold mrg; rw [hb]; rfl
   rw [hm]
   rfl
end Go.Ve

namespace Go.Ve
open Go
set_option maxRecDepth 1000000
set_option maxHeartbeats 4000000
theorem zE9 {β : Type} {f : Nat → Option β} (i : Nat) : (List.range (i + 1)).filterMap f = (List.range i).filterMap f ++ (f i).toList := by
 rw [List.range_succ, List.filterMap_append, List.filterMap_cons, List.filterMap_nil]
 cases f i <;> rfl
theorem zXf {n : Ty.El zT} {d : List Int} {v : Ty.El zS} (hv : x8 n d v) {r i : Nat} (h : upB v r i = true) : ∃ rt x, n.1[r]? = some rt ∧ rt.2.2.1[i]? = some x ∧ x.2.2.1 ≠ 0 ∧ x.2.2.2.2.1 = false := by
 unfold upB at h
 simp only [Bool.and_eq_true, decide_eq_true_eq] at h
 obtain ⟨dm, h1, h2⟩ := zDt (p := fun d : Ty.El kM => d.2.2.1.any (zFx ((r : Int), (i : Int), ()))) (xs := v.2.1.1) h.1
 obtain ⟨e, he, h3⟩ := List.any_eq_true.1 h2
 have h4 := zRY.1 h3
 subst h4
 obtain ⟨_, _, rt, x, g1, g2, g3, g4, _⟩ := (hv.topo.ends dm (List.mem_of_getElem? h1)).2 _ he
 exact ⟨rt, x, by simpa using g1, by simpa using g2, g3, g4⟩
theorem zLg {xs ys : List (Ty.El zA)} (hp : xs.Perm ys) (hs : xs.Pairwise (fun x y => ¬ rlt y x)) (ha : ys.Pairwise (fun x y => x.1 ≠ y.1)) : xs.Pairwise rlt := by
 have h2 : xs.Pairwise (fun x y => x.1 ≠ y.1) := hp.symm.pairwise ha (fun h => h.symm)
 exact (hs.and h2).imp (fun h => zPY h.1 h.2)
end Go.Ve

namespace Go.Ve
open Go
set_option maxRecDepth 1000000
set_option maxHeartbeats 4000000
theorem zSi {p : Ty.El zF} {b : Ty.El zA} : ∀ (l : List (Ty.El zA)) (c : Option (Ty.El zA)), l.foldl (yM p) c = some b → c = some b ∨ (b ∈ l ∧ b.1 = p)
 | [], c, h => .inl h
 | x :: l, c, h => by
  rw [List.foldl_cons] at h
  rcases zSi l _ h with h | ⟨h1, h2⟩
  ·unfold yM at h
   cases hc : zAg x.1 p && zQB x c with
   | true =>
    rw [hc, cond_true] at h
    cases h
    simp only [Bool.and_eq_true] at hc
    exact .inr ⟨by simp, uF.1 hc.1⟩
   | false => rw [hc, cond_false] at h; exact .inl h
  ·exact .inr ⟨List.mem_cons_of_mem _ h1, h2⟩
theorem zSh {l : List (Ty.El zA)} {p : Ty.El zF} {b : Ty.El zA} (h : zAz l p = some b) : b ∈ l ∧ b.1 = p := by
 rcases zSi l none h with h | h
 ·cases h
 ·exact h
theorem zMk {l : List (Ty.El zA)} {p : Ty.El zF} {z : Ty.El zA} (h : mrg l p = some z) : z.1 = p := by
 unfold mrg at h
 cases hb : zAz l p with
 | none => rw [hb] at h; cases h
 | some b => rw [hb] at h; cases h; exact (zSh hb).2
theorem zDE (l : List (Ty.El zA)) : (wY l).Pairwise rlt := by
 unfold wY
 refine List.Pairwise.filterMap _ ?_ (zF0 l)
 intro p q hpq y hy z hz
 unfold rlt
 rw [zMk hy, zMk hz]
 exact hpq
theorem zN5 {p : Ty.El zF} {c : Option (Ty.El zA)} : ∀ (l : List (Ty.El zA)), (∀ x, x ∈ l → x.1 ≠ p) → l.foldl (yM p) c = c
 | [], _ => rfl
 | x :: l, h => by
  have hx : zAg x.1 p = false := by
   rw [Bool.eq_false_iff]
   exact fun hh => h x (by simp) (uF.1 hh)
  rw [List.foldl_cons]
  unfold yM
  rw [hx]
  exact zN5 l (fun y hy => h y (List.mem_cons_of_mem _ hy))
theorem zNq {p : Ty.El zF} {b : Ty.El zA} {hs : List (Ty.El z1)} : ∀ (l : List (Ty.El zA)), (∀ x, x ∈ l → x.1 ≠ p) → l.foldl (jD p b) hs = hs
 | [], _ => rfl
 | x :: l, h => by
  have hx : zAg x.1 p = false := by
   rw [Bool.eq_false_iff]
   exact fun hh => h x (by simp) (uF.1 hh)
  rw [List.foldl_cons]
  unfold jD
  rw [hx]
  exact zNq l (fun y hy => h y (List.mem_cons_of_mem _ hy))
theorem zN8 : ∀ (l : List (Ty.El zA)) (x : Ty.El zA), l.Pairwise (fun x y => x.1 ≠ y.1) → x ∈ l → zAz l x.1 = some x ∧ yX l x.1 x = x.2.2.2.2.2.2.2.2.2.2.2.1.foldl w4 []
 | [], x, _, h => by cases h
 | y :: l, x, hp, h => by
  rw [List.pairwise_cons] at hp
  unfold zAz yX
  rw [List.foldl_cons, List.foldl_cons]
  rcases List.mem_cons.1 h with rfl | h
  ·have h1 : yM x.1 none x = some x := by unfold yM; rw [uF.2 rfl]; rfl
   have h2 : jD x.1 x [] x = x.2.2.2.2.2.2.2.2.2.2.2.1.foldl w4 [] := by unfold jD; rw [uF.2 rfl, zSR]; rfl
   rw [h1, h2, zN5 l (fun z hz => (hp.1 z hz).symm), zNq l (fun z hz => (hp.1 z hz).symm)]
   exact ⟨rfl, rfl⟩
  ·have hne : zAg y.1 x.1 = false := by
    rw [Bool.eq_false_iff]
    exact fun hh => hp.1 x h (uF.1 hh)
   have h1 : yM x.1 none y = none := by unfold yM; rw [hne]; rfl
   have h2 : jD x.1 x [] y = [] := by unfold jD; rw [hne]; rfl
   rw [h1, h2]
   exact zN8 l x hp.2 h
theorem zPO (b : Ty.El zA) : zPP b b.2.2.2.2.2.2.2.2.2.2.2.1 = b := rfl
theorem zRx {l : List (Ty.El zA)} (hp : l.Pairwise (fun x y => x.1 ≠ y.1)) (hh : ∀ x, x ∈ l → x.2.2.2.2.2.2.2.2.2.2.2.1.foldl w4 [] = x.2.2.2.2.2.2.2.2.2.2.2.1) (z : Ty.El zA) : z ∈ wY l ↔ z ∈ l := by
 have hm : ∀ x, x ∈ l → mrg l x.1 = some x := by
  intro x hx
  obtain ⟨h1, h2⟩ := zN8 l x hp hx
  unfold mrg
  rw [h1, Option.map_some, h2, hh x hx, zPO]
 unfold wY
 rw [List.mem_filterMap]
 constructor
 ·rintro ⟨p, hpm, hz⟩
  obtain ⟨x, hx, rfl⟩ := (zCM l p).1 hpm
  rw [hm x hx] at hz
  cases hz
  exact hx
 ·intro hz
  exact ⟨z.1, (zCM l z.1).2 ⟨z, hz, rfl⟩, hm z hz⟩
theorem zAW (v : Ty.El zS) (r : Nat) (h : r < v.1.1.length) : xO (v, (r : Int), ()) = some true := by
 refine wD ?_
 unfold xO
 dsimp only
 refine zC (zI (fun _ => zB (zB ?_)) (fun h' => absurd (Int.natCast_nonneg r) h'))
 exact decide_eq_true (Int.ofNat_lt.2 h)
theorem zHV (v : Ty.El zS) (r k : Nat) (rt : Ty.El zH) (x : Ty.El qA) (hr : v.1.1[r]? = some rt) (hx : rt.2.2.1[k]? = some x) : zBI (v, (r : Int), (k : Int), ()) = some (zCN x.2.1 x.2.2.1) := by
 refine wD ?_
 unfold zBI
 dsimp only
 refine zC (qD (zJ hr) (zC (qD (zJ hx) (zC (qD (vU _ _) (zB rfl))))))
end Go.Ve

namespace Go.Ve
open Go
set_option maxHeartbeats 4000000
section
variable {α : Type}
def swF (a b n : Nat) (xs : List α) (k : Nat) : Option α :=
 if a ≤ k ∧ k < a + n then xs[b + (k - a)]? else if b ≤ k ∧ k < b + n then xs[a + (k - b)]? else xs[k]?
def uQ (lo m hi : Nat) (xs : List α) (k : Nat) : Option α :=
 if lo ≤ k ∧ k < lo + (hi - m) then xs[k + (m - lo)]? else if lo + (hi - m) ≤ k ∧ k < hi then xs[k - (hi - m)]? else xs[k]?
theorem zVF {a b : Nat} {xs : List α} {k : Nat} : swF a b 0 xs k = xs[k]? := by
 unfold swF
 rw [if_neg (by omega), if_neg (by omega)]
theorem zVG {a b n : Nat} {xs zs : List α} (hab : a + n < b) (hb : b + n < xs.length) (hl : zs.length = xs.length) (h : ∀ k, zs[k]? = swF a b n xs k) {x y : α} (hx : zs[a + n]? = some x) (hy : zs[b + n]? = some y) :
  ∀ k, ((zs.set (a + n) y).set (b + n) x)[k]? = swF a b (n + 1) xs k := by
 intro k
 have h1 := h (a + n)
 have h2 := h (b + n)
 unfold swF at h1 h2
 rw [if_neg (by omega), if_neg (by omega), hx] at h1
 rw [if_neg (by omega), if_neg (by omega), hy] at h2
 unfold swF
 by_cases e1 : k = b + n
 ·subst e1
  rw [List.getElem?_set_self (by rw [List.length_set]; omega), if_neg (by omega), if_pos (by omega), h1]
  congr 1; omega
 ·rw [List.getElem?_set_ne (by omega)]
  by_cases e2 : k = a + n
  ·subst e2
   rw [List.getElem?_set_self (by omega), if_pos (by omega), h2]
   congr 1; omega
  ·rw [List.getElem?_set_ne (by omega), h k]
   unfold swF
   by_cases c1 : a ≤ k ∧ k < a + n
   ·rw [if_pos c1, if_pos (by omega)]
   ·rw [if_neg c1]
    by_cases c2 : b ≤ k ∧ k < b + n
    ·rw [if_pos c2, if_neg (by omega), if_pos (by omega)]
    ·rw [if_neg c2, if_neg (by omega), if_neg (by omega)]
theorem x6 {xs : List α} {i j : Nat} (h : i = j) : xs[i]? = xs[j]? := by rw [h]
theorem zVT {lo m hi : Nat} {xs zs : List α} (h1 : lo < m) (h2 : m < hi) (hij : hi - m < m - lo) (h : ∀ k, zs[k]? = swF lo m (hi - m) xs k) (k : Nat) : uQ (lo + (hi - m)) m hi zs k = uQ lo m hi xs k := by
 unfold uQ
 rw [h, h, h]
 unfold swF
 repeat' split
 all_goals first
  | rfl
  | exact x6 (by omega)
  | (exfalso; omega)
theorem zUF {lo m hi : Nat} {xs zs : List α} (h1 : lo < m) (h2 : m < hi) (hij : m - lo < hi - m) (h : ∀ k, zs[k]? = swF lo (hi - (m - lo)) (m - lo) xs k) (k : Nat) : uQ lo m (hi - (m - lo)) zs k = uQ lo m hi xs k := by
 unfold uQ
 rw [h, h, h]
 unfold swF
 repeat' split
 all_goals first
  | rfl
  | exact x6 (by omega)
  | (exfalso; omega)
theorem zVU {lo m hi : Nat} {xs zs : List α} (h1 : lo ≤ m) (h2 : m ≤ hi) (hij : m - lo = hi - m) (h : ∀ k, zs[k]? = swF lo m (m - lo) xs k) (k : Nat) : zs[k]? = uQ lo m hi xs k := by
 rw [h]
 unfold uQ swF
 repeat' split
 all_goals first
  | rfl
  | exact x6 (by omega)
  | (exfalso; omega)
end
end Go.Ve

namespace Go.Ve
open Go
set_option maxRecDepth 1000000
set_option linter.unusedVariables false
noncomputable def yW {α : Type} (cmp : α × α × Unit → Option Int) : List α → (Int × Int × Unit × Unit) → Option (List α × Unit) := fun a0 x => match x with
 | (a1, a2, (), ()) =>
  zN
   (fun (s157 : Int × List (α)) =>
    bif decide (s157.1 < a2) then
     Option.bind
      (zN
       (fun (s158 : Int × List (α)) =>
        Option.bind
         (bif decide (s158.1 > a1) then
          Option.bind (idx s158.2 s158.1) fun (y159 : α) =>
           Option.bind (atN s158.2 (Int.toNat s158.1)) fun (y160 : α) =>
            Option.bind (idx s158.2 (IntKind.wrap IntKind.i64 (s158.1 - (1 : Int)))) fun (y161 : α) =>
             Option.bind (atN s158.2 (Int.toNat (IntKind.wrap IntKind.i64 (s158.1 - (1 : Int))))) fun (y162 : α) =>
              Option.bind (cmp (y160, y162, ())) fun (y163 : Int) => some (decide (y163 < (0 : Int)), s158.2)
         else some (false, s158.2))
         fun (s164 : Bool × List (α)) =>
         bif s164.1 then
          Option.bind (idx s164.2 (IntKind.wrap IntKind.i64 (s158.1 - (1 : Int)))) fun (y165 : α) =>
           Option.bind (atN s164.2 (Int.toNat (IntKind.wrap IntKind.i64 (s158.1 - (1 : Int))))) fun (y166 : α) =>
            Option.bind (idx s164.2 s158.1) fun (y167 : α) =>
             Option.bind (atN s164.2 (Int.toNat s158.1)) fun (y168 : α) =>
              Option.bind (idx s164.2 s158.1) fun (y169 : α) =>
               Option.bind (atN s164.2 (Int.toNat s158.1)) fun (y170 : α) =>
                Option.bind (idx (List.set s164.2 (Int.toNat s158.1) y166) (IntKind.wrap IntKind.i64 (s158.1 - (1 : Int)))) fun (y171 : α) =>
                 Option.bind (atN (List.set s164.2 (Int.toNat s158.1) y166) (Int.toNat (IntKind.wrap IntKind.i64 (s158.1 - (1 : Int)))))
                  fun (y172 : α) =>
                  some
                   (Sum.inl
                    (IntKind.wrap IntKind.i64 (s158.1 - (1 : Int)),
                     List.set (List.set s164.2 (Int.toNat s158.1) y166) (Int.toNat (IntKind.wrap IntKind.i64 (s158.1 - (1 : Int)))) y168))
         else some (Sum.inr s164.2))
       s157)
      fun (s173 : List (α)) => some (Sum.inl (IntKind.wrap IntKind.i64 (s157.1 + (1 : Int)), s173))
    else Option.map (fun (r : List (α) × Unit) => Sum.inr r) (bif Nat.beq (List.length s157.2) (List.length a0) then some (s157.2, ()) else none))
   (IntKind.wrap IntKind.i64 (a1 + (1 : Int)), a0)
noncomputable def zCz {α : Type} (cmp : α × α × Unit → Option Int) : List α → (Int × Int × Int × Unit × Unit) → Option (List α × Unit) := fun a0 x => match x with
 | (a1, a2, a3, (), ()) =>
  zN
   (fun (s17 : Int × List (α)) =>
    bif decide (s17.1 < a3) then
     Option.bind (idx s17.2 (IntKind.wrap IntKind.i64 (a2 + s17.1))) fun (y18 : α) =>
      Option.bind (atN s17.2 (Int.toNat (IntKind.wrap IntKind.i64 (a2 + s17.1)))) fun (y19 : α) =>
       Option.bind (idx s17.2 (IntKind.wrap IntKind.i64 (a1 + s17.1))) fun (y20 : α) =>
        Option.bind (atN s17.2 (Int.toNat (IntKind.wrap IntKind.i64 (a1 + s17.1)))) fun (y21 : α) =>
         Option.bind (idx s17.2 (IntKind.wrap IntKind.i64 (a1 + s17.1))) fun (y22 : α) =>
          Option.bind (atN s17.2 (Int.toNat (IntKind.wrap IntKind.i64 (a1 + s17.1)))) fun (y23 : α) =>
           Option.bind (idx (List.set s17.2 (Int.toNat (IntKind.wrap IntKind.i64 (a1 + s17.1))) y19) (IntKind.wrap IntKind.i64 (a2 + s17.1)))
            fun (y24 : α) =>
            Option.bind (atN (List.set s17.2 (Int.toNat (IntKind.wrap IntKind.i64 (a1 + s17.1))) y19) (Int.toNat (IntKind.wrap IntKind.i64 (a2 + s17.1))))
             fun (y25 : α) =>
             some
              (Sum.inl
               (IntKind.wrap IntKind.i64 (s17.1 + (1 : Int)),
                List.set (List.set s17.2 (Int.toNat (IntKind.wrap IntKind.i64 (a1 + s17.1))) y19) (Int.toNat (IntKind.wrap IntKind.i64 (a2 + s17.1))) y21))
    else Option.map (fun (r : List (α) × Unit) => Sum.inr r) (bif Nat.beq (List.length s17.2) (List.length a0) then some (s17.2, ()) else none))
   ((0 : Int), a0)
noncomputable def zPU {α : Type} (cmp : α × α × Unit → Option Int) : List α → (Int × Int × Int × Unit × Unit) → Option (List α × Unit) := fun a0 x => match x with
 | (a1, a2, a3, (), ()) =>
  Option.bind
   (zN
    (fun (s6 : Int × Int × List (α)) =>
     bif s6.1 != s6.2.1 then
      bif decide (s6.1 > s6.2.1) then
       bif Nat.beq (List.length s6.2.2) (List.length s6.2.2) then
        Option.bind (zCz cmp s6.2.2 (IntKind.wrap IntKind.i64 (a2 - s6.1), a2, s6.2.1, (), ())) fun (y7 : List (α) × Unit) =>
         some (Sum.inl (IntKind.wrap IntKind.i64 (s6.1 - s6.2.1), s6.2.1, y7.1))
       else none
      else
       bif Nat.beq (List.length s6.2.2) (List.length s6.2.2) then
        Option.bind
         (zCz cmp s6.2.2
          (IntKind.wrap IntKind.i64 (a2 - s6.1), IntKind.wrap IntKind.i64 (IntKind.wrap IntKind.i64 (a2 + s6.2.1) - s6.1), s6.1, (), ()))
         fun (y8 : List (α) × Unit) => some (Sum.inl (s6.1, IntKind.wrap IntKind.i64 (s6.2.1 - s6.1), y8.1))
       else none
     else some (Sum.inr (s6.2.2, s6.1)))
    (IntKind.wrap IntKind.i64 (a2 - a1), IntKind.wrap IntKind.i64 (a3 - a2), a0))
   fun (s9 : List (α) × Int) =>
   bif Nat.beq (List.length s9.1) (List.length s9.1) then
    Option.bind (zCz cmp s9.1 (IntKind.wrap IntKind.i64 (a2 - s9.2), a2, s9.2, (), ())) fun (y10 : List (α) × Unit) =>
     bif Nat.beq (List.length y10.1) (List.length a0) then some (y10.1, ()) else none
   else none
noncomputable def zFL {α : Type} (cmp : α × α × Unit → Option Int) (self : List α → (Int × Int × Int × Unit × Unit) → Option (List α × Unit)) : List α → (Int × Int × Int × Unit × Unit) → Option (List α × Unit) := fun a0 x => match x with
 | (a1, a2, a3, (), ()) =>
  qV
   (bif IntKind.wrap IntKind.i64 (a2 - a1) == (1 : Int) then
    Option.bind
     (zN
      (fun (s50 : Int × Int × List (α)) =>
       bif decide (s50.1 < s50.2.1) then
        Option.bind
         (idx s50.2.2
          (IntKind.wrap IntKind.i64
           (Int.fdiv (IntKind.wrap IntKind.u64 (IntKind.wrap IntKind.i64 (s50.1 + s50.2.1))) ((2 : Int) ^ min (Int.toNat (1 : Int)) (IntKind.bits IntKind.u64)))))
         fun (y51 : α) =>
         Option.bind
          (atN s50.2.2
           (Int.toNat
            (IntKind.wrap IntKind.i64
             (Int.fdiv (IntKind.wrap IntKind.u64 (IntKind.wrap IntKind.i64 (s50.1 + s50.2.1))) ((2 : Int) ^ min (Int.toNat (1 : Int)) (IntKind.bits IntKind.u64))))))
          fun (y52 : α) =>
          Option.bind (idx s50.2.2 a1) fun (y53 : α) =>
           Option.bind (atN s50.2.2 (Int.toNat a1)) fun (y54 : α) =>
            Option.bind (cmp (y52, y54, ())) fun (y55 : Int) =>
             bif decide (y55 < (0 : Int)) then
              some
               (Sum.inl
                (IntKind.wrap IntKind.i64
                  (IntKind.wrap IntKind.i64
                    (Int.fdiv (IntKind.wrap IntKind.u64 (IntKind.wrap IntKind.i64 (s50.1 + s50.2.1)))
                     ((2 : Int) ^ min (Int.toNat (1 : Int)) (IntKind.bits IntKind.u64))) +
                   (1 : Int)),
                 s50.2))
             else
              some
               (Sum.inl
                (s50.1,
                 IntKind.wrap IntKind.i64
                  (Int.fdiv (IntKind.wrap IntKind.u64 (IntKind.wrap IntKind.i64 (s50.1 + s50.2.1)))
                   ((2 : Int) ^ min (Int.toNat (1 : Int)) (IntKind.bits IntKind.u64))),
                 s50.2.2))
       else some (Sum.inr (s50.1, s50.2.2)))
      (a2, a3, a0))
     fun (s56 : Int × List (α)) =>
     zN
      (fun (s57 : Int × List (α)) =>
       bif decide (s57.1 < IntKind.wrap IntKind.i64 (s56.1 - (1 : Int))) then
        Option.bind (idx s57.2 (IntKind.wrap IntKind.i64 (s57.1 + (1 : Int)))) fun (y58 : α) =>
         Option.bind (atN s57.2 (Int.toNat (IntKind.wrap IntKind.i64 (s57.1 + (1 : Int))))) fun (y59 : α) =>
          Option.bind (idx s57.2 s57.1) fun (y60 : α) =>
           Option.bind (atN s57.2 (Int.toNat s57.1)) fun (y61 : α) =>
            Option.bind (idx s57.2 s57.1) fun (y62 : α) =>
             Option.bind (atN s57.2 (Int.toNat s57.1)) fun (y63 : α) =>
              Option.bind (idx (List.set s57.2 (Int.toNat s57.1) y59) (IntKind.wrap IntKind.i64 (s57.1 + (1 : Int)))) fun (y64 : α) =>
               Option.bind (atN (List.set s57.2 (Int.toNat s57.1) y59) (Int.toNat (IntKind.wrap IntKind.i64 (s57.1 + (1 : Int))))) fun (y65 : α) =>
                some
                 (Sum.inl
                  (IntKind.wrap IntKind.i64 (s57.1 + (1 : Int)),
                   List.set (List.set s57.2 (Int.toNat s57.1) y59) (Int.toNat (IntKind.wrap IntKind.i64 (s57.1 + (1 : Int)))) y61))
       else
        Option.map (fun (r : List (α) ⊕ List (α) × Unit) => Sum.inr r)
         (Option.map (fun (r : List (α) × Unit) => Sum.inr r) (bif Nat.beq (List.length s57.2) (List.length a0) then some (s57.2, ()) else none)))
      (a1, s56.2)
   else some (Sum.inl a0))
   fun (s66 : List (α)) =>
   qV
    (bif IntKind.wrap IntKind.i64 (a3 - a2) == (1 : Int) then
     Option.bind
      (zN
       (fun (s117 : Int × Int × List (α)) =>
        bif decide (s117.1 < s117.2.1) then
         Option.bind (idx s117.2.2 a2) fun (y118 : α) =>
          Option.bind (atN s117.2.2 (Int.toNat a2)) fun (y119 : α) =>
           Option.bind
            (idx s117.2.2
             (IntKind.wrap IntKind.i64
              (Int.fdiv (IntKind.wrap IntKind.u64 (IntKind.wrap IntKind.i64 (s117.1 + s117.2.1)))
               ((2 : Int) ^ min (Int.toNat (1 : Int)) (IntKind.bits IntKind.u64)))))
            fun (y120 : α) =>
            Option.bind
             (atN s117.2.2
              (Int.toNat
               (IntKind.wrap IntKind.i64
                (Int.fdiv (IntKind.wrap IntKind.u64 (IntKind.wrap IntKind.i64 (s117.1 + s117.2.1)))
                 ((2 : Int) ^ min (Int.toNat (1 : Int)) (IntKind.bits IntKind.u64))))))
             fun (y121 : α) =>
             Option.bind (cmp (y119, y121, ())) fun (y122 : Int) =>
              bif !decide (y122 < (0 : Int)) then
               some
                (Sum.inl
                 (IntKind.wrap IntKind.i64
                   (IntKind.wrap IntKind.i64
                     (Int.fdiv (IntKind.wrap IntKind.u64 (IntKind.wrap IntKind.i64 (s117.1 + s117.2.1)))
                      ((2 : Int) ^ min (Int.toNat (1 : Int)) (IntKind.bits IntKind.u64))) +
                    (1 : Int)),
                  s117.2))
              else
               some
                (Sum.inl
                 (s117.1,
                  IntKind.wrap IntKind.i64
                   (Int.fdiv (IntKind.wrap IntKind.u64 (IntKind.wrap IntKind.i64 (s117.1 + s117.2.1)))
                    ((2 : Int) ^ min (Int.toNat (1 : Int)) (IntKind.bits IntKind.u64))),
                  s117.2.2))
        else some (Sum.inr (s117.1, s117.2.2)))
       (a1, a2, s66))
      fun (s123 : Int × List (α)) =>
      zN
       (fun (s124 : Int × List (α)) =>
        bif decide (s124.1 > s123.1) then
         Option.bind (idx s124.2 (IntKind.wrap IntKind.i64 (s124.1 - (1 : Int)))) fun (y125 : α) =>
          Option.bind (atN s124.2 (Int.toNat (IntKind.wrap IntKind.i64 (s124.1 - (1 : Int))))) fun (y126 : α) =>
           Option.bind (idx s124.2 s124.1) fun (y127 : α) =>
            Option.bind (atN s124.2 (Int.toNat s124.1)) fun (y128 : α) =>
             Option.bind (idx s124.2 s124.1) fun (y129 : α) =>
              Option.bind (atN s124.2 (Int.toNat s124.1)) fun (y130 : α) =>
               Option.bind (idx (List.set s124.2 (Int.toNat s124.1) y126) (IntKind.wrap IntKind.i64 (s124.1 - (1 : Int)))) fun (y131 : α) =>
                Option.bind (atN (List.set s124.2 (Int.toNat s124.1) y126) (Int.toNat (IntKind.wrap IntKind.i64 (s124.1 - (1 : Int)))))
                 fun (y132 : α) =>
                 some
                  (Sum.inl
                   (IntKind.wrap IntKind.i64 (s124.1 - (1 : Int)),
                    List.set (List.set s124.2 (Int.toNat s124.1) y126) (Int.toNat (IntKind.wrap IntKind.i64 (s124.1 - (1 : Int)))) y128))
        else
         Option.map (fun (r : List (α) ⊕ List (α) × Unit) => Sum.inr r)
          (Option.map (fun (r : List (α) × Unit) => Sum.inr r) (bif Nat.beq (List.length s124.2) (List.length a0) then some (s124.2, ()) else none)))
       (a2, s123.2)
    else some (Sum.inl s66))
    fun (s133 : List (α)) =>
    Option.bind
     (bif
       decide
        (a2 >
         IntKind.wrap IntKind.i64
          (Int.fdiv (IntKind.wrap IntKind.u64 (IntKind.wrap IntKind.i64 (a1 + a3))) ((2 : Int) ^ min (Int.toNat (1 : Int)) (IntKind.bits IntKind.u64)))) then
      some
       (IntKind.wrap IntKind.i64
         (IntKind.wrap IntKind.i64
           (IntKind.wrap IntKind.i64
             (Int.fdiv (IntKind.wrap IntKind.u64 (IntKind.wrap IntKind.i64 (a1 + a3))) ((2 : Int) ^ min (Int.toNat (1 : Int)) (IntKind.bits IntKind.u64))) +
            a2) -
          a3),
        IntKind.wrap IntKind.i64 (Int.fdiv (IntKind.wrap IntKind.u64 (IntKind.wrap IntKind.i64 (a1 + a3))) ((2 : Int) ^ min (Int.toNat (1 : Int)) (IntKind.bits IntKind.u64))),
        s133)
     else some (a1, a2, s133))
     fun (s134 : Int × Int × List (α)) =>
     Option.bind
      (zN
       (fun (s152 : Int × Int × List (α)) =>
        bif decide (s152.1 < s152.2.1) then
         Option.bind
          (idx s152.2.2
           (IntKind.wrap IntKind.i64
            (IntKind.wrap IntKind.i64
              (IntKind.wrap IntKind.i64
                (IntKind.wrap IntKind.i64
                  (Int.fdiv (IntKind.wrap IntKind.u64 (IntKind.wrap IntKind.i64 (a1 + a3))) ((2 : Int) ^ min (Int.toNat (1 : Int)) (IntKind.bits IntKind.u64))) +
                 a2) -
               (1 : Int)) -
             IntKind.wrap IntKind.i64
              (Int.fdiv (IntKind.wrap IntKind.u64 (IntKind.wrap IntKind.i64 (s152.1 + s152.2.1)))
               ((2 : Int) ^ min (Int.toNat (1 : Int)) (IntKind.bits IntKind.u64))))))
          fun (y153 : α) =>
          Option.bind
           (atN s152.2.2
            (Int.toNat
             (IntKind.wrap IntKind.i64
              (IntKind.wrap IntKind.i64
                (IntKind.wrap IntKind.i64
                  (IntKind.wrap IntKind.i64
                    (Int.fdiv (IntKind.wrap IntKind.u64 (IntKind.wrap IntKind.i64 (a1 + a3))) ((2 : Int) ^ min (Int.toNat (1 : Int)) (IntKind.bits IntKind.u64))) +
                   a2) -
                 (1 : Int)) -
               IntKind.wrap IntKind.i64
                (Int.fdiv (IntKind.wrap IntKind.u64 (IntKind.wrap IntKind.i64 (s152.1 + s152.2.1)))
                 ((2 : Int) ^ min (Int.toNat (1 : Int)) (IntKind.bits IntKind.u64)))))))
           fun (y154 : α) =>
           Option.bind
            (idx s152.2.2
             (IntKind.wrap IntKind.i64
              (Int.fdiv (IntKind.wrap IntKind.u64 (IntKind.wrap IntKind.i64 (s152.1 + s152.2.1)))
               ((2 : Int) ^ min (Int.toNat (1 : Int)) (IntKind.bits IntKind.u64)))))
            fun (y155 : α) =>
            Option.bind
             (atN s152.2.2
              (Int.toNat
               (IntKind.wrap IntKind.i64
                (Int.fdiv (IntKind.wrap IntKind.u64 (IntKind.wrap IntKind.i64 (s152.1 + s152.2.1)))
                 ((2 : Int) ^ min (Int.toNat (1 : Int)) (IntKind.bits IntKind.u64))))))
             fun (y156 : α) =>
             Option.bind (cmp (y154, y156, ())) fun (y157 : Int) =>
              bif !decide (y157 < (0 : Int)) then
               some
                (Sum.inl
                 (IntKind.wrap IntKind.i64
                   (IntKind.wrap IntKind.i64
                     (Int.fdiv (IntKind.wrap IntKind.u64 (IntKind.wrap IntKind.i64 (s152.1 + s152.2.1)))
                      ((2 : Int) ^ min (Int.toNat (1 : Int)) (IntKind.bits IntKind.u64))) +
                    (1 : Int)),
                  s152.2))
              else
               some
                (Sum.inl
                 (s152.1,
                  IntKind.wrap IntKind.i64
                   (Int.fdiv (IntKind.wrap IntKind.u64 (IntKind.wrap IntKind.i64 (s152.1 + s152.2.1)))
                    ((2 : Int) ^ min (Int.toNat (1 : Int)) (IntKind.bits IntKind.u64))),
                  s152.2.2))
        else some (Sum.inr (s152.1, s152.2.2)))
       s134)
      fun (s158 : Int × List (α)) =>
      Option.bind
       (Option.bind
        (bif decide (s158.1 < a2) then
         some
          (decide
            (a2 <
             IntKind.wrap IntKind.i64
              (IntKind.wrap IntKind.i64
                (IntKind.wrap IntKind.i64
                  (Int.fdiv (IntKind.wrap IntKind.u64 (IntKind.wrap IntKind.i64 (a1 + a3))) ((2 : Int) ^ min (Int.toNat (1 : Int)) (IntKind.bits IntKind.u64))) +
                 a2) -
               s158.1)),
           s158.2)
        else some (false, s158.2))
        fun (s161 : Bool × List (α)) =>
        bif s161.1 then
         bif Nat.beq (List.length s161.2) (List.length s161.2) then
          Option.bind
           (zPU cmp s161.2
            (s158.1, a2,
             IntKind.wrap IntKind.i64
              (IntKind.wrap IntKind.i64
                (IntKind.wrap IntKind.i64
                  (Int.fdiv (IntKind.wrap IntKind.u64 (IntKind.wrap IntKind.i64 (a1 + a3))) ((2 : Int) ^ min (Int.toNat (1 : Int)) (IntKind.bits IntKind.u64))) +
                 a2) -
               s158.1),
             (), ()))
           fun (y162 : List (α) × Unit) => some y162.1
         else none
        else some s161.2)
       fun (s163 : List (α)) =>
       Option.bind
        (Option.bind
         (bif decide (a1 < s158.1) then
          some
           (decide
             (s158.1 <
              IntKind.wrap IntKind.i64
               (Int.fdiv (IntKind.wrap IntKind.u64 (IntKind.wrap IntKind.i64 (a1 + a3))) ((2 : Int) ^ min (Int.toNat (1 : Int)) (IntKind.bits IntKind.u64)))),
            s163)
         else some (false, s163))
         fun (s166 : Bool × List (α)) =>
         bif s166.1 then
          bif Nat.beq (List.length s166.2) (List.length s166.2) then
           Option.bind
            (self s166.2
             (a1, s158.1,
              IntKind.wrap IntKind.i64
               (Int.fdiv (IntKind.wrap IntKind.u64 (IntKind.wrap IntKind.i64 (a1 + a3))) ((2 : Int) ^ min (Int.toNat (1 : Int)) (IntKind.bits IntKind.u64))),
              (), ()))
            fun (y167 : List (α) × Unit) => some y167.1
          else none
         else some s166.2)
        fun (s168 : List (α)) =>
        Option.bind
         (bif
           decide
            (IntKind.wrap IntKind.i64
              (Int.fdiv (IntKind.wrap IntKind.u64 (IntKind.wrap IntKind.i64 (a1 + a3))) ((2 : Int) ^ min (Int.toNat (1 : Int)) (IntKind.bits IntKind.u64))) <
             IntKind.wrap IntKind.i64
              (IntKind.wrap IntKind.i64
                (IntKind.wrap IntKind.i64
                  (Int.fdiv (IntKind.wrap IntKind.u64 (IntKind.wrap IntKind.i64 (a1 + a3))) ((2 : Int) ^ min (Int.toNat (1 : Int)) (IntKind.bits IntKind.u64))) +
                 a2) -
               s158.1)) then
          some
           (decide
             (IntKind.wrap IntKind.i64
               (IntKind.wrap IntKind.i64
                 (IntKind.wrap IntKind.i64
                   (Int.fdiv (IntKind.wrap IntKind.u64 (IntKind.wrap IntKind.i64 (a1 + a3))) ((2 : Int) ^ min (Int.toNat (1 : Int)) (IntKind.bits IntKind.u64))) +
                  a2) -
                s158.1) <
              a3),
            s168)
         else some (false, s168))
         fun (s169 : Bool × List (α)) =>
         bif s169.1 then
          bif Nat.beq (List.length s169.2) (List.length s169.2) then
           Option.bind
            (self s169.2
             (IntKind.wrap IntKind.i64
               (Int.fdiv (IntKind.wrap IntKind.u64 (IntKind.wrap IntKind.i64 (a1 + a3))) ((2 : Int) ^ min (Int.toNat (1 : Int)) (IntKind.bits IntKind.u64))),
              IntKind.wrap IntKind.i64
               (IntKind.wrap IntKind.i64
                 (IntKind.wrap IntKind.i64
                   (Int.fdiv (IntKind.wrap IntKind.u64 (IntKind.wrap IntKind.i64 (a1 + a3))) ((2 : Int) ^ min (Int.toNat (1 : Int)) (IntKind.bits IntKind.u64))) +
                  a2) -
                s158.1),
              a3, (), ()))
            fun (y170 : List (α) × Unit) => bif Nat.beq (List.length y170.1) (List.length a0) then some (y170.1, ()) else none
          else none
         else bif Nat.beq (List.length s169.2) (List.length a0) then some (s169.2, ()) else none
noncomputable def zAB {α : Type} (cmp : α × α × Unit → Option Int) : Nat → (List α → (Int × Int × Int × Unit × Unit) → Option (List α × Unit))
 | 0 => fun _ _ => none
 | n + 1 => zFL cmp (zAB cmp n)
noncomputable def zDM {α : Type} (cmp : α × α × Unit → Option Int) : List α → (Int × Int × Int × Unit × Unit) → Option (List α × Unit) := zAB cmp 1048576
noncomputable def zIM {α : Type} (cmp : α × α × Unit → Option Int) : List α → (Int × Unit × Unit) → Option (List α × Unit) := fun a0 x => match x with
 | (a1, (), ()) =>
  Option.bind
   (zN
    (fun (s4 : Int × List (α) × Int) =>
     bif decide (s4.1 ≤ a1) then
      bif Nat.beq (List.length s4.2.1) (List.length s4.2.1) then
       Option.bind (yW cmp s4.2.1 (s4.2.2, s4.1, (), ())) fun (y5 : List (α) × Unit) =>
        some (Sum.inl (IntKind.wrap IntKind.i64 (s4.1 + (20 : Int)), y5.1, s4.1))
      else none
     else some (Sum.inr s4.2))
    ((20 : Int), a0, (0 : Int)))
   fun (s6 : List (α) × Int) =>
   bif Nat.beq (List.length s6.1) (List.length s6.1) then
    Option.bind (yW cmp s6.1 (s6.2, a1, (), ())) fun (y7 : List (α) × Unit) =>
     zN
      (fun (s30 : Int × List (α)) =>
       bif decide (s30.1 < a1) then
        Option.bind
         (zN
          (fun (s31 : Int × List (α) × Int) =>
           bif decide (s31.1 ≤ a1) then
            bif Nat.beq (List.length s31.2.1) (List.length s31.2.1) then
             Option.bind (zDM cmp s31.2.1 (s31.2.2, IntKind.wrap IntKind.i64 (s31.2.2 + s30.1), s31.1, (), ()))
              fun (y32 : List (α) × Unit) =>
              some (Sum.inl (IntKind.wrap IntKind.i64 (s31.1 + IntKind.wrap IntKind.i64 ((2 : Int) * s30.1)), y32.1, s31.1))
            else none
           else some (Sum.inr (s31.2.2, s31.2.1)))
          (IntKind.wrap IntKind.i64 ((2 : Int) * s30.1), s30.2, (0 : Int)))
         fun (s33 : Int × List (α)) =>
         Option.bind
          (bif decide (IntKind.wrap IntKind.i64 (s33.1 + s30.1) < a1) then
           bif Nat.beq (List.length s33.2) (List.length s33.2) then
            Option.bind (zDM cmp s33.2 (s33.1, IntKind.wrap IntKind.i64 (s33.1 + s30.1), a1, (), ())) fun (y34 : List (α) × Unit) =>
             some y34.1
           else none
          else some s33.2)
          fun (s35 : List (α)) => some (Sum.inl (IntKind.wrap IntKind.i64 (s30.1 * (2 : Int)), s35))
       else Option.map (fun (r : List (α) × Unit) => Sum.inr r) (bif Nat.beq (List.length s30.2) (List.length a0) then some (s30.2, ()) else none))
      ((20 : Int), y7.1)
   else none
noncomputable def zDg {α : Type} (cmp : α × α × Unit → Option Int) : List α → (Unit × Unit) → Option (List α × Unit) := fun a0 x => match x with
 | ((), ()) =>
  bif Nat.beq (List.length a0) (List.length a0) && Nat.beq (List.length a0) (List.length a0) then
   Option.bind (zIM cmp a0 ((↑(List.length a0) : Int), (), ())) fun (y0 : List (α) × Unit) =>
    bif Nat.beq (List.length y0.1) (List.length a0) then some (y0.1, ()) else none
  else none
end Go.Ve

namespace Go.Ve
open Go
set_option maxRecDepth 1000000
set_option maxHeartbeats 4000000
section
variable {α : Type} {cmp : α × α × Unit → Option Int}
theorem zB3 (xs : List α) (a b n : Nat) (hab : a + n ≤ b) (hb : b + n ≤ xs.length) (hl : xs.length < 4611686018427387904) :
  Wp (zCz cmp xs ((a : Int), (b : Int), (n : Int), (), ())) (fun r => r.1.length = xs.length ∧ ∀ k, r.1[k]? = swF a b n xs k) := by
 unfold zCz
 dsimp only
 refine j2 (fun s : Int × List α => ∃ i : Nat, s.1 = (i : Int) ∧ i ≤ n ∧ s.2.length = xs.length ∧ ∀ k, s.2[k]? = swF a b i xs k) (fun s => ((n : Int) - s.1).toNat) ⟨0, rfl, Nat.zero_le _, rfl, fun k => zVF.symm⟩ ?_
 rintro ⟨s, zs⟩ ⟨i, hi, hin, hzl, hz⟩
 simp only at hi hzl hz
 subst hi
 refine zI (fun h => ?_) (fun h => ?_)
 ·have h : (i : Int) < (n : Int) := h
  have hx : zs[a + i]? = some (zs[a + i]'(by omega)) := by simp
  have hy : zs[b + i]? = some (zs[b + i]'(by omega)) := by simp
  have hy2 : (zs.set (a + i) (zs[b + i]'(by omega)))[b + i]? = some (zs[b + i]'(by omega)) := by rw [List.getElem?_set_ne (by omega)]; exact hy
  dsimp only
  rw [zD (x := (b : Int) + (i : Int)) (by omega) (by omega), zD (x := (a : Int) + (i : Int)) (by omega) (by omega), show ((b : Int) + (i : Int)) = ((b + i : Nat) : Int) by omega, show ((a : Int) + (i : Int)) = ((a + i : Nat) : Int) by omega]
  simp only [zJ hx, zJ hy, Int.toNat_natCast, wO hx, wO hy, Option.bind_some, zJ hy2, wO hy2]
  refine zB (e2l ⟨⟨i + 1, ?_, by omega, by simp only [List.length_set]; exact hzl, zVG (by omega) (by omega) hzl hz hx hy⟩, ?_⟩)
  ·simp only; rw [zD (by omega) (by omega)]; omega
  ·simp only; rw [zD (by omega) (by omega)]; omega
 ·have h : ¬ (i : Int) < (n : Int) := h
  have : i = n := by omega
  subst this
  exact x3 (zG (fun _ => zB (e2r ⟨hzl, hz⟩)) (fun h => absurd h (by simp only; rw [hzl, Nat.beq_refl]; decide)))
theorem zET {xs ys : List α} (h : xs.length = ys.length) : Nat.beq xs.length ys.length = true := by rw [h]; exact Nat.beq_refl _
theorem zPL (xs : List α) (a m b : Nat) (ham : a < m) (hmb : m < b) (hb : b ≤ xs.length) (hl : xs.length < 4611686018427387904) :
  Wp (zPU cmp xs ((a : Int), (m : Int), (b : Int), (), ())) (fun r => r.1.length = xs.length ∧ ∀ k, r.1[k]? = uQ a m b xs k) := by
 unfold zPU
 dsimp only
 rw [zD (x := (m : Int) - (a : Int)) (by omega) (by omega), zD (x := (b : Int) - (m : Int)) (by omega) (by omega)]
 refine zC ((show Wp _ (fun s : List α × Int => s.1.length = xs.length ∧ ∃ i : Nat, s.2 = (i : Int) ∧ 0 < i ∧ i ≤ m ∧ m + i ≤ b ∧ ∀ k, uQ (m - i) m (m + i) s.1 k = uQ a m b xs k) from ?_).mono ?_)
 ·refine j2 (fun s : Int × Int × List α => s.2.2.length = xs.length ∧ ∃ i j : Nat, s.1 = (i : Int) ∧ s.2.1 = (j : Int) ∧ 0 < i ∧ 0 < j ∧ i ≤ m - a ∧ m + j ≤ b ∧ ∀ k, uQ (m - i) m (m + j) s.2.2 k = uQ a m b xs k) (fun s => (s.1 + s.2.1).toNat)
   ⟨rfl, m - a, b - m, by simp only; omega, by simp only; omega, by omega, by omega, by omega, by omega, fun k => by rw [show m - (m - a) = a by omega, show m + (b - m) = b by omega]⟩ ?_
  rintro ⟨si, sj, zs⟩ ⟨hzl, i, j, hi, hj, hi0, hj0, hia, hjb, hz⟩
  simp only at hi hj hzl hz
  subst hi hj
  refine zG (fun hne => ?_) (fun he => zB (e2r ⟨hzl, i, rfl, hi0, by omega, ?_, ?_⟩))
  ·have hne : ¬ (i : Int) = (j : Int) := by simpa using hne
   refine zI (fun hgt => ?_) (fun hgt => ?_)
   ·have hgt : (i : Int) > (j : Int) := hgt
    refine zG (fun _ => ?_) (fun h => absurd h (by rw [Nat.beq_refl]; decide))
    dsimp only
    rw [zD (x := (m : Int) - (i : Int)) (by omega) (by omega), zD (x := (i : Int) - (j : Int)) (by omega) (by omega), show ((m : Int) - (i : Int)) = ((m - i : Nat) : Int) by omega]
    refine zC ((zB3 zs (m - i) m j (by omega) (by omega) (by omega)).mono (fun y hy => zB (e2l ⟨⟨hy.1.trans hzl, i - j, j, ?_, rfl, by omega, hj0, by omega, hjb, fun k => ?_⟩, ?_⟩)))
    ·simp only; omega
    ·rw [← hz k, ← zVT (lo := m - i) (m := m) (hi := m + j) (xs := zs) (zs := y.1) (by omega) (by omega) (by omega) (fun k => by rw [hy.2, show m + j - m = j by omega]) k, show m - (i - j) = m - i + (m + j - m) by omega]
    ·simp only; omega
   ·have hgt : ¬ (i : Int) > (j : Int) := hgt
    refine zG (fun _ => ?_) (fun h => absurd h (by rw [Nat.beq_refl]; decide))
    dsimp only
    rw [zD (x := (m : Int) - (i : Int)) (by omega) (by omega), zD (x := (m : Int) + (j : Int)) (by omega) (by omega), zD (x := (m : Int) + (j : Int) - (i : Int)) (by omega) (by omega), zD (x := (j : Int) - (i : Int)) (by omega) (by omega), show ((m : Int) - (i : Int)) = ((m - i : Nat) : Int) by omega, show ((m : Int) + (j : Int) - (i : Int)) = ((m + j - i : Nat) : Int) by omega]
    refine zC ((zB3 zs (m - i) (m + j - i) i (by omega) (by omega) (by omega)).mono (fun y hy => zB (e2l ⟨⟨hy.1.trans hzl, i, j - i, rfl, ?_, hi0, by omega, hia, by omega, fun k => ?_⟩, ?_⟩)))
    ·simp only; omega
    ·rw [← hz k, ← zUF (lo := m - i) (m := m) (hi := m + j) (xs := zs) (zs := y.1) (by omega) (by omega) (by omega) (fun k => by rw [hy.2, show m - (m - i) = i by omega]) k, show m + (j - i) = m + j - (m - (m - i)) by omega]
    ·simp only; omega
  ·have he : (i : Int) = (j : Int) := by simpa using he
   omega
  ·have he : (i : Int) = (j : Int) := by simpa using he
   have : i = j := by omega
   subst this
   exact hz
 ·rintro ⟨zs, s⟩ ⟨hzl, i, hi, hi0, him, hmi, hz⟩
  simp only at hi hzl hz
  subst hi
  refine zG (fun _ => ?_) (fun h => absurd h (by rw [Nat.beq_refl]; decide))
  dsimp only
  rw [zD (x := (m : Int) - (i : Int)) (by omega) (by omega), show ((m : Int) - (i : Int)) = ((m - i : Nat) : Int) by omega]
  refine zC ((zB3 zs (m - i) m i (by omega) (by omega) (by omega)).mono (fun y hy => ?_))
  refine zG (fun _ => zB ⟨hy.1.trans hzl, fun k => ?_⟩) (fun h => absurd h (by rw [zET (hy.1.trans hzl)]; decide))
  rw [← hz k]
  exact zVU (lo := m - i) (m := m) (hi := m + i) (by omega) (by omega) (by omega) (fun k => by rw [hy.2, show m - (m - i) = i by omega]) k
end
end Go.Ve

namespace Go.Ve
open Go
set_option maxHeartbeats 4000000
section
variable {α κ : Type} {lt : α → α → Prop} {key : α → κ}
structure zLy (lt : α → α → Prop) (key : α → κ) : Prop where
 ord : Ord lt
 ne : ∀ x y, lt x y → key x ≠ key y
open Classical in
noncomputable def zJE (key : α → κ) (p : κ) (xs : List α) : List α := xs.filter (fun x => decide (key x = p))
def zBn (key : α → κ) (xs ys : List α) : Prop := ∀ p, zJE key p xs = zJE key p ys
theorem zBn.refl (xs : List α) : zBn key xs xs := fun _ => rfl
theorem zBn.trans {xs ys zs : List α} (h1 : zBn key xs ys) (h2 : zBn key ys zs) : zBn key xs zs := fun p => (h1 p).trans (h2 p)
theorem zRQ (p : κ) (xs ys : List α) : zJE key p (xs ++ ys) = zJE key p xs ++ zJE key p ys := List.filter_append ..
theorem zRP {p : κ} {xs : List α} (h : ∀ x, x ∈ xs → key x ≠ p) : zJE key p xs = [] := by
 unfold zJE
 rw [List.filter_eq_nil_iff]
 intro x hx
 simpa using h x hx
theorem zUB (hk : zLy lt key) {P U V S : List α} (h : ∀ x y, x ∈ U → y ∈ V → lt y x) : zBn key (P ++ U ++ V ++ S) (P ++ V ++ U ++ S) := by
 intro p
 simp only [zRQ]
 congr 1
 rw [List.append_assoc, List.append_assoc]
 congr 1
 by_cases hu : ∃ x, x ∈ U ∧ key x = p
 ·obtain ⟨x, hx, rfl⟩ := hu
  rw [zRP (xs := V) (fun y hy => hk.ne _ _ (h x y hx hy))]
  simp
 ·rw [zRP (xs := U) (fun x hx e => hu ⟨x, hx, e⟩)]
  simp
structure u6 (key : α → κ) (a b : Nat) (xs ys : List α) : Prop where
 len : ys.length = xs.length
 out : ∀ k, k < a ∨ b ≤ k → ys[k]? = xs[k]?
 ins : ∀ q y, a ≤ q → q < b → ys[q]? = some y → ∃ q', a ≤ q' ∧ q' < b ∧ xs[q']? = some y
 same : zBn key xs ys
theorem u6.refl (a b : Nat) (xs : List α) : u6 key a b xs xs := ⟨rfl, fun _ _ => rfl, fun q y h1 h2 h3 => ⟨q, h1, h2, h3⟩, zBn.refl xs⟩
theorem u6.trans {a b : Nat} {xs ys zs : List α} (h1 : u6 key a b xs ys) (h2 : u6 key a b ys zs) : u6 key a b xs zs := by
 refine ⟨h2.len.trans h1.len, fun k hk => (h2.out k hk).trans (h1.out k hk), ?_, h1.same.trans h2.same⟩
 intro q y hq1 hq2 hy
 obtain ⟨q', g1, g2, g3⟩ := h2.ins q y hq1 hq2 hy
 exact h1.ins q' y g1 g2 g3
theorem u6.mono {a b a' b' : Nat} {xs ys : List α} (h : u6 key a b xs ys) (ha : a' ≤ a) (hb : b ≤ b') : u6 key a' b' xs ys := by
 refine ⟨h.len, fun k hk => h.out k (by omega), ?_, h.same⟩
 intro q y hq1 hq2 hy
 by_cases hq : a ≤ q ∧ q < b
 ·obtain ⟨q', g1, g2, g3⟩ := h.ins q y hq.1 hq.2 hy
  exact ⟨q', by omega, by omega, g3⟩
 ·exact ⟨q, hq1, hq2, by rw [← h.out q (by omega)]; exact hy⟩
def wJ (lt : α → α → Prop) (lo hi : Nat) (xs : List α) : Prop := ∀ p q x y, lo ≤ p → p < q → q < hi → xs[p]? = some x → xs[q]? = some y → ¬ lt y x
theorem wJ.out {lo hi a b : Nat} {xs ys : List α} (h : wJ lt lo hi xs) (hs : u6 key a b xs ys) (hd : hi ≤ a ∨ b ≤ lo) : wJ lt lo hi ys := by
 intro p q x y h1 h2 h3 hx hy
 rw [hs.out p (by omega)] at hx
 rw [hs.out q (by omega)] at hy
 exact h p q x y h1 h2 h3 hx hy
theorem zHZ {a c b : Nat} {xs : List α} (h1 : wJ lt a c xs) (h2 : wJ lt c b xs) (h3 : ∀ q r x y, a ≤ q → q < c → c ≤ r → r < b → xs[q]? = some x → xs[r]? = some y → ¬ lt y x) : wJ lt a b xs := by
 intro p q x y hp hpq hq hx hy
 by_cases g1 : q < c
 ·exact h1 p q x y hp hpq g1 hx hy
 ·by_cases g2 : p < c
  ·exact h3 p q x y hp g2 (by omega) hq hx hy
  ·exact h2 p q x y (by omega) hpq hq hx hy
theorem zUA {a : Nat} {xs : List α} : wJ lt a (a + 1) xs := fun p q x y h1 h2 h3 _ _ => by omega
theorem wJ.sub {a b a' b' : Nat} {xs : List α} (h : wJ lt a b xs) (ha : a ≤ a') (hb : b' ≤ b) : wJ lt a' b' xs := fun p q x y h1 h2 h3 hx hy => h p q x y (by omega) h2 (by omega) hx hy
theorem zI1 (hk : zLy lt key) {lo m hi : Nat} {xs zs : List α} (h1 : lo ≤ m) (h2 : m ≤ hi) (h3 : hi ≤ xs.length) (hl : zs.length = xs.length) (h : ∀ k, zs[k]? = uQ lo m hi xs k)
  (hlt : ∀ q r x y, lo ≤ q → q < m → m ≤ r → r < hi → xs[q]? = some x → xs[r]? = some y → lt y x) : u6 key lo hi xs zs := by
 have hsplit : xs = xs.take lo ++ (xs.drop lo).take (m - lo) ++ (xs.drop m).take (hi - m) ++ xs.drop hi := by
  refine List.ext_getElem? (fun k => ?_)
  simp only [List.getElem?_append, List.length_append, List.length_take, List.length_drop, List.getElem?_take, List.getElem?_drop]
  repeat' split
  all_goals first
   | rfl
   | exact x6 (by omega)
   | (exfalso; omega)
 have hz : zs = xs.take lo ++ (xs.drop m).take (hi - m) ++ (xs.drop lo).take (m - lo) ++ xs.drop hi := by
  refine List.ext_getElem? (fun k => ?_)
  rw [h]
  unfold uQ
  simp only [List.getElem?_append, List.length_append, List.length_take, List.length_drop, List.getElem?_take, List.getElem?_drop]
  repeat' split
  all_goals first
   | rfl
   | exact x6 (by omega)
   | (exfalso; omega)
 refine ⟨hl, ?_, ?_, ?_⟩
 ·intro k hk'
  rw [h]
  unfold uQ
  rw [if_neg (by omega), if_neg (by omega)]
 ·intro q y hq1 hq2 hy
  rw [h] at hy
  unfold uQ at hy
  split at hy
  ·exact ⟨q + (m - lo), by omega, by omega, hy⟩
  ·split at hy
   ·exact ⟨q - (hi - m), by omega, by omega, hy⟩
   ·exact ⟨q, hq1, hq2, hy⟩
 ·have hs := zUB hk (P := xs.take lo) (U := (xs.drop lo).take (m - lo)) (V := (xs.drop m).take (hi - m)) (S := xs.drop hi) ?_
  ·rw [← hsplit, ← hz] at hs
   exact hs
  ·intro x y hx hy
   obtain ⟨i, hi', hx'⟩ := List.getElem_of_mem hx
   obtain ⟨j, hj', hy'⟩ := List.getElem_of_mem hy
   have e1 : xs[lo + i]? = some x := by
    have : ((xs.drop lo).take (m - lo))[i]? = some x := by rw [List.getElem?_eq_getElem hi', hx']
    rw [List.getElem?_take, List.getElem?_drop] at this
    split at this
    ·exact this
    ·cases this
   have e2 : xs[m + j]? = some y := by
    have : ((xs.drop m).take (hi - m))[j]? = some y := by rw [List.getElem?_eq_getElem hj', hy']
    rw [List.getElem?_take, List.getElem?_drop] at this
    split at this
    ·exact this
    ·cases this
   simp only [List.length_take, List.length_drop] at hi' hj'
   exact hlt (lo + i) (m + j) x y (by omega) (by omega) (by omega) (by omega) e1 e2
theorem zXq {a k : Nat} {xs zs : List α} (hak : a ≤ k) (hk : k + 1 < xs.length) (hl : zs.length = xs.length) (h : ∀ j, zs[j]? = uQ a (a + 1) (k + 1) xs j) {x y : α} (hx : zs[k]? = some x) (hy : zs[k + 1]? = some y) :
  ∀ j, ((zs.set k y).set (k + 1) x)[j]? = uQ a (a + 1) (k + 2) xs j := by
 intro j
 have h1 := h k
 have h2 := h (k + 1)
 unfold uQ at h1 h2
 rw [hx, if_neg (by omega), if_pos (by omega)] at h1
 rw [hy, if_neg (by omega), if_neg (by omega)] at h2
 unfold uQ
 by_cases e1 : j = k + 1
 ·subst e1
  rw [List.getElem?_set_self (by rw [List.length_set]; omega), if_neg (by omega), if_pos (by omega), h1]
  exact x6 (by omega)
 ·rw [List.getElem?_set_ne (by omega)]
  by_cases e2 : j = k
  ·subst e2
   rw [List.getElem?_set_self (by omega), if_pos (by omega), h2]
   exact x6 (by omega)
  ·rw [List.getElem?_set_ne (by omega), h j]
   unfold uQ
   repeat' split
   all_goals first
    | rfl
    | exact x6 (by omega)
    | (exfalso; omega)
theorem zOY {m k : Nat} {xs zs : List α} (hk0 : 0 < k) (hkm : k ≤ m) (hm : m < xs.length) (hl : zs.length = xs.length) (h : ∀ j, zs[j]? = uQ k m (m + 1) xs j) {x y : α} (hx : zs[k]? = some x) (hy : zs[k - 1]? = some y) :
  ∀ j, ((zs.set k y).set (k - 1) x)[j]? = uQ (k - 1) m (m + 1) xs j := by
 intro j
 have h1 := h k
 have h2 := h (k - 1)
 unfold uQ at h1 h2
 rw [hx, if_pos (by omega)] at h1
 rw [hy, if_neg (by omega), if_neg (by omega)] at h2
 unfold uQ
 by_cases e1 : j = k - 1
 ·subst e1
  rw [List.getElem?_set_self (by rw [List.length_set]; omega), if_pos (by omega), h1]
  exact x6 (by omega)
 ·rw [List.getElem?_set_ne (by omega)]
  by_cases e2 : j = k
  ·subst e2
   rw [List.getElem?_set_self (by omega), if_neg (by omega), if_pos (by omega), h2]
   exact x6 (by omega)
  ·rw [List.getElem?_set_ne (by omega), h j]
   unfold uQ
   repeat' split
   all_goals first
    | rfl
    | exact x6 (by omega)
    | (exfalso; omega)
theorem zVV {a : Nat} {xs : List α} (j : Nat) : uQ a (a + 1) (a + 1) xs j = xs[j]? := by
 unfold uQ
 repeat' split
 all_goals first
  | rfl
  | exact x6 (by omega)
  | (exfalso; omega)
theorem zRg {m : Nat} {xs : List α} (j : Nat) : uQ m m (m + 1) xs j = xs[j]? := by
 unfold uQ
 repeat' split
 all_goals first
  | rfl
  | exact x6 (by omega)
  | (exfalso; omega)
end
theorem zP5 (i j : Nat) (h : i + j < 4611686018427387904) : IntKind.wrap .i64 (Int.fdiv (IntKind.wrap .u64 (IntKind.wrap .i64 ((i : Int) + (j : Int)))) ((2 : Int) ^ min (Int.toNat (1 : Int)) (IntKind.bits .u64))) = (((i + j) / 2 : Nat) : Int) := by
 have e : ((2 : Int) ^ min (Int.toNat (1 : Int)) (IntKind.bits .u64)) = 2 := by decide
 rw [e, zD (x := (i : Int) + (j : Int)) (by omega) (by omega), zIA (x := (i : Int) + (j : Int)) (by omega) (by omega), Int.fdiv_eq_ediv_of_nonneg _ (by omega)]
 rw [zD (by omega) (by omega)]
 omega
end Go.Ve

namespace Go.Ve
open Go
set_option maxRecDepth 1000000
set_option maxHeartbeats 4000000
theorem zTV {σ ρ : Type} {m : Option (σ ⊕ ρ)} {K : σ → Option ρ} {Q : ρ → Prop} (P : σ → Prop) (h : Wp m (j7 P Q)) (hK : ∀ s, P s → Wp (K s) Q) : Wp (qV m K) Q := by
 refine qJ (h.mono ?_)
 intro o ho
 cases o with
 | inl s => exact hK s ho
 | inr r => exact ho
theorem zHD {β : Type} {z : β} {i0 j0 : Nat} {P : Nat → Prop} {T : Int × Int × β → Option ((Int × Int × β) ⊕ (Int × β))} (hij : i0 ≤ j0)
  (step : ∀ i j : Nat, i0 ≤ i → i < j → j ≤ j0 → Wp (T ((i : Int), (j : Int), z)) (fun o => (o = Sum.inl ((((i + j) / 2 + 1 : Nat) : Int), (j : Int), z) ∧ P ((i + j) / 2)) ∨ (o = Sum.inl ((i : Int), (((i + j) / 2 : Nat) : Int), z) ∧ ¬ P ((i + j) / 2)))) :
  Wp (zN (fun s : Int × Int × β => bif decide (s.1 < s.2.1) then T s else some (Sum.inr (s.1, s.2.2))) ((i0 : Int), (j0 : Int), z)) (fun s => s.2 = z ∧ ∃ i : Nat, s.1 = (i : Int) ∧ i0 ≤ i ∧ i ≤ j0 ∧ (i0 < i → P (i - 1)) ∧ (i < j0 → ¬ P i)) := by
 refine j2 (fun s : Int × Int × β => s.2.2 = z ∧ ∃ i j : Nat, s.1 = (i : Int) ∧ s.2.1 = (j : Int) ∧ i0 ≤ i ∧ i ≤ j ∧ j ≤ j0 ∧ (i0 < i → P (i - 1)) ∧ (j < j0 → ¬ P j)) (fun s => (s.2.1 - s.1).toNat)
  ⟨rfl, i0, j0, rfl, rfl, Nat.le_refl _, hij, Nat.le_refl _, fun h => by omega, fun h => by omega⟩ ?_
 rintro ⟨si, sj, y⟩ ⟨hy, i, j, hi, hj, h1, h2, h3, h4, h5⟩
 simp only at hi hj hy
 subst hi hj hy
 refine zI (fun h => ?_) (fun h => zB (e2r ⟨rfl, i, rfl, h1, by omega, h4, ?_⟩))
 ·have h : (i : Int) < (j : Int) := h
  refine (step i j h1 (by omega) h3).mono ?_
  rintro o (⟨rfl, hp⟩ | ⟨rfl, hp⟩)
  ·refine ⟨⟨rfl, (i + j) / 2 + 1, j, rfl, rfl, by omega, by omega, h3, fun _ => by rw [Nat.add_sub_cancel]; exact hp, h5⟩, ?_⟩
   simp only; omega
  ·refine ⟨⟨rfl, i, (i + j) / 2, rfl, rfl, h1, by omega, by omega, h4, fun _ => hp⟩, ?_⟩
   simp only; omega
 ·have h : ¬ (i : Int) < (j : Int) := h
  have : i = j := by omega
  subst this
  exact h5
section
variable {α κ : Type} {cmp : α × α × Unit → Option Int} {lt : α → α → Prop} {key : α → κ}
theorem wZ {xs : List α} {i : Nat} (h : i < xs.length) : xs[i]? = some xs[i] := by simp [h]
theorem zDN (hk : zLy lt key) (hcmp : ∀ x y, Wp (cmp (x, y, ())) (fun c => c < 0 ↔ lt x y)) : ∀ (n : Nat) (xs : List α) (a m b : Nat), a < m → m < b → b ≤ xs.length → xs.length < 1099511627776 → b - a ≤ n → wJ lt a m xs → wJ lt m b xs →
  Wp (zAB cmp n xs ((a : Int), (m : Int), (b : Int), (), ())) (fun r => u6 key a b xs r.1 ∧ wJ lt a b r.1) := by
 have ho := hk.ord
 have tr1 : ∀ x y z, ¬ lt y x → lt y z → lt x z := fun x y z h1 h2 => Classical.byContradiction (fun h3 => ho.tr z x y h3 h1 h2)
 have tr2 : ∀ x y z, lt x y → ¬ lt z y → lt x z := fun x y z h1 h2 => Classical.byContradiction (fun h3 => ho.tr y z x h2 h3 h1)
 intro n
 induction n with
 | zero => intro xs a m b h1 h2 _ _ h3; omega
 | succ n ih =>
  intro xs a m b ham hmb hb hl hn hs1 hs2
  have ha? := wZ (xs := xs) (i := a) (by omega)
  have hm? := wZ (xs := xs) (i := m) (by omega)
  simp only [zAB]
  unfold zFL
  dsimp only
  rw [zD (x := (m : Int) - (a : Int)) (by omega) (by omega), zD (x := (b : Int) - (m : Int)) (by omega) (by omega)]
  refine zTV (fun s : List α => s = xs ∧ m ≠ a + 1) ?_ ?_
  ·refine zG (fun h => ?_) (fun h => zB (e2l ⟨rfl, ?_⟩))
   ·have h : (m : Int) - (a : Int) = 1 := by simpa using h
    have hma : m = a + 1 := by omega
    subst hma
    refine zC ((zHD (z := xs) (i0 := a + 1) (j0 := b) (P := fun q => ∀ y, xs[q]? = some y → lt y xs[a]) (by omega) ?_).mono ?_)
    ·intro i j hi hij hj
     have hh := wZ (xs := xs) (i := (i + j) / 2) (by omega)
     dsimp only
     rw [zP5 i j (by omega)]
     simp only [zJ hh, Int.toNat_natCast, wO hh, zJ ha?, wO ha?, Option.bind_some]
     refine zC ((hcmp _ _).mono (fun c hc => zI (fun h1 => zB (.inl ⟨?_, fun y hy => ?_⟩)) (fun h1 => zB (.inr ⟨rfl, fun h2 => h1 (hc.2 (h2 _ hh))⟩))))
     ·rw [zD (by omega) (by omega)]; congr 1
     ·rw [hh] at hy; cases hy; exact hc.1 h1
    ·rintro ⟨s, zs⟩ ⟨hz, i, hi, hi1, hi2, hP, hN⟩
     simp only at hz hi
     subst hz hi
     have hall1 : ∀ q y, a + 1 ≤ q → q < i → zs[q]? = some y → lt y zs[a] := by
      intro q y hq1 hq2 hy
      have hp := hP (by omega) _ (wZ (by omega))
      by_cases e : q = i - 1
      ·subst e; rw [wZ (by omega)] at hy; cases hy; exact hp
      ·exact tr1 _ _ _ (hs2 q (i - 1) y _ hq1 (by omega) (by omega) hy (wZ (by omega))) hp
     have hall2 : ∀ q y, i ≤ q → q < b → zs[q]? = some y → ¬ lt y zs[a] := by
      intro q y hq1 hq2 hy hlt
      have hnp := hN (by omega)
      apply hnp
      intro w hw
      by_cases e : q = i
      ·subst e; rw [hw] at hy; cases hy; exact hlt
      ·exact tr1 _ _ _ (hs2 i q w y hi1 (by omega) hq2 hw hy) hlt
     dsimp only
     rw [zD (x := (i : Int) - 1) (by omega) (by omega)]
     refine j2 (fun s : Int × List α => ∃ k : Nat, s.1 = (k : Int) ∧ a ≤ k ∧ k + 1 ≤ i ∧ s.2.length = zs.length ∧ ∀ j, s.2[j]? = uQ a (a + 1) (k + 1) zs j) (fun s => ((i : Int) - s.1).toNat) ⟨a, rfl, Nat.le_refl _, hi1, rfl, fun j => (zVV j).symm⟩ ?_
     rintro ⟨s, ws⟩ ⟨k, hk', hka, hki, hwl, hw⟩
     simp only at hk' hwl hw
     subst hk'
     refine zI (fun hlt => ?_) (fun hge => ?_)
     ·have hlt : (k : Int) < (i : Int) - 1 := hlt
      have hx := wZ (xs := ws) (i := k) (by omega)
      have hy := wZ (xs := ws) (i := k + 1) (by omega)
      have hy2 : (ws.set k (ws[k + 1]'(by omega)))[k + 1]? = some (ws[k + 1]'(by omega)) := by rw [List.getElem?_set_ne (by omega)]; exact hy
      dsimp only
      rw [zD (x := (k : Int) + 1) (by omega) (by omega), show ((k : Int) + 1) = ((k + 1 : Nat) : Int) by omega]
      simp only [zJ hx, zJ hy, Int.toNat_natCast, wO hx, wO hy, Option.bind_some, zJ hy2, wO hy2]
      refine zB (e2l ⟨⟨k + 1, rfl, by omega, by omega, by simp only [List.length_set]; exact hwl, zXq hka (by omega) hwl hw hx hy⟩, ?_⟩)
      simp only; omega
     ·have hge : ¬ (k : Int) < (i : Int) - 1 := hge
      have hki' : k + 1 = i := by omega
      subst hki'
      refine x3 (x3 (zG (fun _ => zB (e2r (e2r ?_))) (fun h => absurd h (by rw [zET hwl]; decide))))
      have hst : u6 key a (k + 1) zs ws := zI1 hk (m := a + 1) (by omega) (by omega) (by omega) hwl hw (fun q r x y h1 h2 h3 h4 hx hy => by
       have : q = a := by omega
       subst this
       rw [ha?] at hx; cases hx
       exact hall1 r y h3 h4 hy)
      refine ⟨hst.mono (Nat.le_refl _) (by omega), ?_⟩
      have qR : ∀ q y, a ≤ q → q < b → ws[q]? = some y → (q < k ∧ zs[q + 1]? = some y) ∨ (q = k ∧ y = zs[a]) ∨ (k < q ∧ zs[q]? = some y) := by
       intro q y h1 h2 hy
       rw [hw] at hy
       unfold uQ at hy
       split at hy
       ·exact .inl ⟨by omega, by rw [← hy]; exact x6 (by omega)⟩
       ·split at hy
        ·refine .inr (.inl ⟨by omega, ?_⟩)
         rw [show q - (k + 1 - (a + 1)) = a by omega, ha?] at hy
         cases hy; rfl
        ·exact .inr (.inr ⟨by omega, hy⟩)
      intro p q x y h1 h2 h3 hx hy
      rcases qR p x h1 (by omega) hx with ⟨g1, hx'⟩ | ⟨g1, rfl⟩ | ⟨g1, hx'⟩
      ·rcases qR q y (by omega) h3 hy with ⟨g2, hy'⟩ | ⟨g2, rfl⟩ | ⟨g2, hy'⟩
       ·exact hs2 (p + 1) (q + 1) x y (by omega) (by omega) (by omega) hx' hy'
       ·exact ho.asym _ _ (hall1 (p + 1) x (by omega) (by omega) hx')
       ·exact hs2 (p + 1) q x y (by omega) (by omega) h3 hx' hy'
      ·rcases qR q y (by omega) h3 hy with ⟨g2, hy'⟩ | ⟨g2, rfl⟩ | ⟨g2, hy'⟩
       ·omega
       ·omega
       ·exact hall2 q y (by omega) h3 hy'
      ·rcases qR q y (by omega) h3 hy with ⟨g2, hy'⟩ | ⟨g2, rfl⟩ | ⟨g2, hy'⟩
       ·omega
       ·omega
       ·exact hs2 p q x y (by omega) h2 h3 hx' hy'
   ·have h : ¬ (m : Int) - (a : Int) = 1 := by simpa using h
    omega
  rintro s ⟨rfl, hma⟩
  refine zTV (fun s' : List α => s' = s ∧ b ≠ m + 1) ?_ ?_
  ·refine zG (fun h => ?_) (fun h => zB (e2l ⟨rfl, ?_⟩))
   ·have h : (b : Int) - (m : Int) = 1 := by simpa using h
    have hbm : b = m + 1 := by omega
    subst hbm
    refine zC ((zHD (z := s) (i0 := a) (j0 := m) (P := fun q => ∀ y, s[q]? = some y → ¬ lt s[m] y) (by omega) ?_).mono ?_)
    ·intro i j hi hij hj
     have hh := wZ (xs := s) (i := (i + j) / 2) (by omega)
     dsimp only
     rw [zP5 i j (by omega)]
     simp only [zJ hh, Int.toNat_natCast, wO hh, zJ hm?, wO hm?, Option.bind_some]
     refine zC ((hcmp _ _).mono (fun c hc => jN (fun h1 => zB (.inl ⟨?_, fun y hy => ?_⟩)) (fun h1 => zB (.inr ⟨rfl, fun h2 => h2 _ hh (hc.1 h1)⟩))))
     ·rw [zD (by omega) (by omega)]; congr 1
     ·rw [hh] at hy; cases hy; exact fun h2 => h1 (hc.2 h2)
    ·rintro ⟨s0, zs⟩ ⟨hz, i, hi, hi1, hi2, hP, hN⟩
     simp only at hz hi
     subst hz hi
     have hall1 : ∀ q y, a ≤ q → q < i → zs[q]? = some y → ¬ lt zs[m] y := by
      intro q y hq1 hq2 hy
      have hp := hP (by omega) _ (wZ (by omega))
      by_cases e : q = i - 1
      ·subst e; rw [wZ (by omega)] at hy; cases hy; exact hp
      ·exact ho.tr _ _ _ (hs1 q (i - 1) y _ hq1 (by omega) (by omega) hy (wZ (by omega))) hp
     have hall2 : ∀ q y, i ≤ q → q < m → zs[q]? = some y → lt zs[m] y := by
      intro q y hq1 hq2 hy
      refine Classical.byContradiction (fun hnlt => ?_)
      have hnp := hN (by omega)
      apply hnp
      intro w hw
      by_cases e : q = i
      ·subst e; rw [hw] at hy; cases hy; exact hnlt
      ·exact ho.tr _ _ _ (hs1 i q w y hi1 (by omega) hq2 hw hy) hnlt
     dsimp only
     refine j2 (fun s : Int × List α => ∃ k : Nat, s.1 = (k : Int) ∧ i ≤ k ∧ k ≤ m ∧ s.2.length = zs.length ∧ ∀ j, s.2[j]? = uQ k m (m + 1) zs j) (fun s => s.1.toNat) ⟨m, rfl, hi2, Nat.le_refl _, rfl, fun j => (zRg j).symm⟩ ?_
     rintro ⟨s0, ws⟩ ⟨k, hk', hki, hkm, hwl, hw⟩
     simp only at hk' hwl hw
     subst hk'
     refine zI (fun hgt => ?_) (fun hge => ?_)
     ·have hgt : (k : Int) > (i : Int) := hgt
      have hx := wZ (xs := ws) (i := k) (by omega)
      have hy := wZ (xs := ws) (i := k - 1) (by omega)
      have hy2 : (ws.set k (ws[k - 1]'(by omega)))[k - 1]? = some (ws[k - 1]'(by omega)) := by rw [List.getElem?_set_ne (by omega)]; exact hy
      dsimp only
      rw [zD (x := (k : Int) - 1) (by omega) (by omega), show ((k : Int) - 1) = ((k - 1 : Nat) : Int) by omega]
      simp only [zJ hx, zJ hy, Int.toNat_natCast, wO hx, wO hy, Option.bind_some, zJ hy2, wO hy2]
      refine zB (e2l ⟨⟨k - 1, rfl, by omega, by omega, by simp only [List.length_set]; exact hwl, zOY (by omega) hkm (by omega) hwl hw hx hy⟩, ?_⟩)
      simp only; omega
     ·have hge : ¬ (k : Int) > (i : Int) := hge
      have hki' : k = i := by omega
      subst hki'
      refine x3 (x3 (zG (fun _ => zB (e2r (e2r ?_))) (fun h => absurd h (by rw [zET hwl]; decide))))
      have hst : u6 key k (m + 1) zs ws := zI1 hk (m := m) (by omega) (by omega) (by omega) hwl hw (fun q r x y h1 h2 h3 h4 hx hy => by
       have : r = m := by omega
       subst this
       rw [hm?] at hy; cases hy
       exact hall2 q x h1 h2 hx)
      refine ⟨hst.mono hi1 (Nat.le_refl _), ?_⟩
      have qR : ∀ q y, a ≤ q → q < m + 1 → ws[q]? = some y → (q < k ∧ zs[q]? = some y) ∨ (q = k ∧ y = zs[m]) ∨ (k < q ∧ zs[q - 1]? = some y) := by
       intro q y h1 h2 hy
       rw [hw] at hy
       unfold uQ at hy
       split at hy
       ·refine .inr (.inl ⟨by omega, ?_⟩)
        rw [show q + (m - k) = m by omega, hm?] at hy
        cases hy; rfl
       ·split at hy
        ·exact .inr (.inr ⟨by omega, by rw [← hy]; exact x6 (by omega)⟩)
        ·exact .inl ⟨by omega, hy⟩
      intro p q x y h1 h2 h3 hx hy
      rcases qR p x h1 (by omega) hx with ⟨g1, hx'⟩ | ⟨g1, rfl⟩ | ⟨g1, hx'⟩
      ·rcases qR q y (by omega) h3 hy with ⟨g2, hy'⟩ | ⟨g2, rfl⟩ | ⟨g2, hy'⟩
       ·exact hs1 p q x y h1 h2 (by omega) hx' hy'
       ·exact hall1 p x h1 g1 hx'
       ·exact hs1 p (q - 1) x y h1 (by omega) (by omega) hx' hy'
      ·rcases qR q y (by omega) h3 hy with ⟨g2, hy'⟩ | ⟨g2, rfl⟩ | ⟨g2, hy'⟩
       ·omega
       ·omega
       ·exact ho.asym _ _ (hall2 (q - 1) y (by omega) (by omega) hy')
      ·rcases qR q y (by omega) h3 hy with ⟨g2, hy'⟩ | ⟨g2, rfl⟩ | ⟨g2, hy'⟩
       ·omega
       ·omega
       ·exact hs1 (p - 1) (q - 1) x y (by omega) (by omega) (by omega) hx' hy'
   ·have h : ¬ (b : Int) - (m : Int) = 1 := by simpa using h
    omega
  rintro s' ⟨rfl, hbm⟩
  clear ha? hm?
  rw [zP5 a b (by omega)]
  have hM1 : 2 * ((a + b) / 2) ≤ a + b := by omega
  have hM2 : a + b < 2 * ((a + b) / 2) + 2 := by omega
  generalize (a + b) / 2 = M at hM1 hM2
  rw [zD (x := (M : Int) + (m : Int)) (by omega) (by omega), zD (x := (M : Int) + (m : Int) - 1) (by omega) (by omega)]
  refine zC ((show Wp _ (fun s : Int × Int × List α => ∃ st r : Nat, s = ((st : Int), (r : Int), s') ∧ ((M < m ∧ st + b = M + m ∧ r = M) ∨ (m ≤ M ∧ st = a ∧ r = m))) from ?_).mono ?_)
  ·refine zI (fun h => zB ⟨M + m - b, M, ?_, .inl ⟨?_, ?_, rfl⟩⟩) (fun h => zB ⟨a, m, rfl, .inr ⟨?_, rfl, rfl⟩⟩)
   ·have h : (m : Int) > (M : Int) := h
    rw [zD (by omega) (by omega), show ((M : Int) + (m : Int) - (b : Int)) = ((M + m - b : Nat) : Int) by omega]
   ·have h : (m : Int) > (M : Int) := h
    omega
   ·have h : (m : Int) > (M : Int) := h
    omega
   ·have h : ¬ (m : Int) > (M : Int) := h
    omega
  rintro _ ⟨st, r, rfl, hst⟩
  refine zC ((zHD (z := s') (i0 := st) (j0 := r) (P := fun c => ∀ x y, s'[M + m - 1 - c]? = some x → s'[c]? = some y → ¬ lt x y) (by omega) ?_).mono ?_)
  ·intro i j hi hij hj
   have hh := wZ (xs := s') (i := (i + j) / 2) (by omega)
   have hh2 := wZ (xs := s') (i := M + m - 1 - (i + j) / 2) (by omega)
   dsimp only
   rw [zP5 i j (by omega), zD (x := (M : Int) + (m : Int) - 1 - (((i + j) / 2 : Nat) : Int)) (by omega) (by omega), show ((M : Int) + (m : Int) - 1 - (((i + j) / 2 : Nat) : Int)) = ((M + m - 1 - (i + j) / 2 : Nat) : Int) by omega]
   simp only [zJ hh, zJ hh2, Int.toNat_natCast, wO hh, wO hh2, Option.bind_some]
   refine zC ((hcmp _ _).mono (fun c hc => jN (fun h1 => zB (.inl ⟨?_, fun x y hx hy => ?_⟩)) (fun h1 => zB (.inr ⟨rfl, fun h2 => h2 _ _ hh2 hh (hc.1 h1)⟩))))
   ·rw [zD (by omega) (by omega)]; congr 1
   ·rw [hh2] at hx; rw [hh] at hy; cases hx; cases hy; exact fun h2 => h1 (hc.2 h2)
  rintro ⟨s0, zs0⟩ ⟨hz0, start, hs0, hst1, hst2, hP, hN⟩
  simp only at hz0 hs0
  subst hz0 hs0
  dsimp only
  rw [zD (x := (M : Int) + (m : Int) - (start : Int)) (by omega) (by omega), show ((M : Int) + (m : Int) - (start : Int)) = ((M + m - start : Nat) : Int) by omega]
  have he1 : m ≤ M + m - start := by omega
  have he2 : M + m - start ≤ b := by omega
  have he3 : start + (M + m - start - m) = M := by omega
  have hst3 : a ≤ start := by omega
  have hst4 : start ≤ m := by omega
  have hl2 : ∀ q r' x y, start ≤ q → q < m → m ≤ r' → r' < M + m - start → zs0[q]? = some x → zs0[r']? = some y → lt y x := by
   intro q r' x y h1 h2 h3 h4 hx hy
   have hlt : start < r := by omega
   refine Classical.byContradiction (fun hnl => hN hlt ?_)
   intro u w hu hw hlt2
   apply hnl
   have k1 : lt y w := by
    by_cases e : r' = M + m - 1 - start
    ·subst e; rw [hu] at hy; cases hy; exact hlt2
    ·exact tr1 _ _ _ (hs2 r' (M + m - 1 - start) y u h3 (by omega) (by omega) hy hu) hlt2
   by_cases e : q = start
   ·subst e; rw [hw] at hx; cases hx; exact k1
   ·exact tr2 _ _ _ k1 (hs1 start q w x hst3 (by omega) (by omega) hw hx)
  have hl1 : ∀ q r' x y, a ≤ q → q < start → M + m - start ≤ r' → r' < b → zs0[q]? = some x → zs0[r']? = some y → ¬ lt y x := by
   intro q r' x y h1 h2 h3 h4 hx hy
   have hlt : st < start := by omega
   have g1 := wZ (xs := zs0) (i := start - 1) (by omega)
   have g2 := wZ (xs := zs0) (i := M + m - 1 - (start - 1)) (by omega)
   have hp := hP hlt _ _ g2 g1
   have k1 : ¬ lt (zs0[M + m - 1 - (start - 1)]'(by omega)) x := by
    by_cases e : q = start - 1
    ·subst e; rw [g1] at hx; cases hx; exact hp
    ·exact ho.tr _ _ _ (hs1 q (start - 1) x _ h1 (by omega) (by omega) hx g1) hp
   by_cases e : r' = M + m - 1 - (start - 1)
   ·subst e; rw [g2] at hy; cases hy; exact k1
   ·exact ho.tr _ _ _ k1 (hs2 (M + m - 1 - (start - 1)) r' _ y (by omega) (by omega) h4 g2 hy)
  generalize he : M + m - start = e at he1 he2 he3 hl1 hl2
  refine zC ((show Wp _ (fun zs : List α => zs.length = zs0.length ∧ ∀ k, zs[k]? = uQ start m e zs0 k) from ?_).mono ?_)
  ·refine zC ((show Wp _ (fun c : Bool × List α => c.2 = zs0 ∧ (c.1 = true → start < m ∧ m < e) ∧ (c.1 = false → start = m ∨ m = e)) from ?_).mono ?_)
   ·refine zI (fun h => zB ⟨rfl, (fun h2 => ?_), fun h2 => ?_⟩) (fun h => zB ⟨rfl, (fun h2 => by cases h2), fun _ => ?_⟩)
    ·have h : (start : Int) < (m : Int) := h
     have h2 : (m : Int) < (e : Int) := of_decide_eq_true h2
     omega
    ·have h2 : ¬ (m : Int) < (e : Int) := of_decide_eq_false h2
     omega
    ·have h : ¬ (start : Int) < (m : Int) := h
     omega
   ·rintro ⟨c, zs⟩ ⟨hz, ht, hf⟩
    simp only at hz ht hf
    subst hz
    refine zG (fun h => ?_) (fun h => zB ⟨rfl, fun k => ?_⟩)
    ·obtain ⟨g1, g2⟩ := ht h
     refine zG (fun _ => zC ((zPL zs start m e g1 g2 (by omega) (by omega)).mono (fun y hy => zB hy))) (fun h => absurd h (by rw [Nat.beq_refl]; decide))
    ·have := hf h
     unfold uQ
     repeat' split
     all_goals first
      | rfl
      | exact x6 (by omega)
      | (exfalso; omega)
  intro zs hzz
  obtain ⟨hzl, hz⟩ := hzz
  have jD := zI1 hk hst4 he1 (by omega) hzl hz hl2
  have qR : ∀ q y, a ≤ q → q < b → zs[q]? = some y → (q < start ∧ zs0[q]? = some y) ∨ (start ≤ q ∧ q < M ∧ zs0[q + (m - start)]? = some y) ∨ (M ≤ q ∧ q < e ∧ zs0[q - (e - m)]? = some y) ∨ (e ≤ q ∧ zs0[q]? = some y) := by
   intro q y h1 h2 hy
   rw [hz] at hy
   unfold uQ at hy
   split at hy
   ·exact .inr (.inl ⟨by omega, by omega, hy⟩)
   ·split at hy
    ·exact .inr (.inr (.inl ⟨by omega, by omega, hy⟩))
    ·by_cases c : q < start
     ·exact .inl ⟨c, hy⟩
     ·exact .inr (.inr (.inr ⟨by omega, hy⟩))
  have r1 : wJ lt a start zs := by
   intro p q x y h1 h2 h3 hx hy
   rw [jD.out p (by omega)] at hx
   rw [jD.out q (by omega)] at hy
   exact hs1 p q x y h1 h2 (by omega) hx hy
  have r2 : wJ lt start M zs := by
   intro p q x y h1 h2 h3 hx hy
   rw [hz] at hx hy
   unfold uQ at hx hy
   rw [if_pos (by omega)] at hx hy
   exact hs2 _ _ x y (by omega) (by omega) (by omega) hx hy
  have r3 : wJ lt M e zs := by
   intro p q x y h1 h2 h3 hx hy
   rw [hz] at hx hy
   unfold uQ at hx hy
   rw [if_neg (by omega), if_pos (by omega)] at hx hy
   exact hs1 _ _ x y (by omega) (by omega) (by omega) hx hy
  have r4 : wJ lt e b zs := by
   intro p q x y h1 h2 h3 hx hy
   rw [jD.out p (by omega)] at hx
   rw [jD.out q (by omega)] at hy
   exact hs2 p q x y (by omega) h2 h3 hx hy
  have rc : ∀ q r' x y, a ≤ q → q < M → M ≤ r' → r' < b → zs[q]? = some x → zs[r']? = some y → ¬ lt y x := by
   intro q r' x y h1 h2 h3 h4 hx hy
   rcases qR q x h1 (by omega) hx with ⟨g1, hx'⟩ | ⟨g1, g2, hx'⟩ | ⟨g1, g2, hx'⟩ | ⟨g1, hx'⟩
   ·rcases qR r' y (by omega) h4 hy with ⟨g3, hy'⟩ | ⟨g3, g4, hy'⟩ | ⟨g3, g4, hy'⟩ | ⟨g3, hy'⟩
    ·omega
    ·omega
    ·exact hs1 q _ x y h1 (by omega) (by omega) hx' hy'
    ·exact hl1 q r' x y h1 g1 g3 h4 hx' hy'
   ·rcases qR r' y (by omega) h4 hy with ⟨g3, hy'⟩ | ⟨g3, g4, hy'⟩ | ⟨g3, g4, hy'⟩ | ⟨g3, hy'⟩
    ·omega
    ·omega
    ·exact ho.asym _ _ (hl2 _ _ y x (by omega) (by omega) (by omega) (by omega) hy' hx')
    ·exact hs2 _ r' x y (by omega) (by omega) h4 hx' hy'
   ·omega
   ·omega
  refine zC ((show Wp _ (fun ws : List α => u6 key a M zs ws ∧ wJ lt a M ws) from ?_).mono ?_)
  ·refine zC ((show Wp _ (fun c : Bool × List α => c.2 = zs ∧ (c.1 = true → a < start ∧ start < M) ∧ (c.1 = false → a = start ∨ start = M)) from ?_).mono ?_)
   ·refine zI (fun h => zB ⟨rfl, (fun h2 => ?_), fun h2 => ?_⟩) (fun h => zB ⟨rfl, (fun h2 => by cases h2), fun _ => ?_⟩)
    ·have h : (a : Int) < (start : Int) := h
     have h2 : (start : Int) < (M : Int) := of_decide_eq_true h2
     omega
    ·have h2 : ¬ (start : Int) < (M : Int) := of_decide_eq_false h2
     omega
    ·have h : ¬ (a : Int) < (start : Int) := h
     omega
   ·rintro ⟨c, vs⟩ ⟨hv, ht, hf⟩
    simp only at hv ht hf
    subst hv
    refine zG (fun h => ?_) (fun h => zB ⟨u6.refl _ _ _, ?_⟩)
    ·obtain ⟨g1, g2⟩ := ht h
     exact zG (fun _ => zC ((ih vs a start M g1 g2 (by omega) (by omega) (by omega) r1 r2).mono (fun y hy => zB hy))) (fun h => absurd h (by rw [Nat.beq_refl]; decide))
    ·exact zHZ r1 r2 (fun q r' x y h1 h2 h3 h4 hx hy => by have := hf h; omega)
  intro ws hws
  obtain ⟨hw1, hw2⟩ := hws
  have hwl : ws.length = zs0.length := hw1.len.trans hzl
  have fin : ∀ us, u6 key M b ws us → wJ lt M b us → u6 key a b zs0 us ∧ wJ lt a b us := by
   intro us hu1 hu2
   refine ⟨((jD.mono hst3 he2).trans (hw1.mono (Nat.le_refl _) (by omega))).trans (hu1.mono (by omega) (Nat.le_refl _)), zHZ (hw2.out hu1 (.inl (Nat.le_refl _))) hu2 ?_⟩
   intro q r' x y h1 h2 h3 h4 hx hy
   rw [hu1.out q (by omega)] at hx
   obtain ⟨q', k1, k2, hx'⟩ := hw1.ins q x h1 h2 hx
   obtain ⟨r2, k3, k4, hy'⟩ := hu1.ins r' y h3 h4 hy
   rw [hw1.out r2 (by omega)] at hy'
   exact rc q' r2 x y k1 k2 k3 k4 hx' hy'
  have q3 : wJ lt M e ws := r3.out hw1 (.inr (Nat.le_refl _))
  have q4 : wJ lt e b ws := r4.out hw1 (.inr (by omega))
  refine zC ((show Wp _ (fun c : Bool × List α => c.2 = ws ∧ (c.1 = true → M < e ∧ e < b) ∧ (c.1 = false → M = e ∨ e = b)) from ?_).mono ?_)
  ·refine zI (fun h => zB ⟨rfl, (fun h2 => ?_), fun h2 => ?_⟩) (fun h => zB ⟨rfl, (fun h2 => by cases h2), fun _ => ?_⟩)
   ·have h : (M : Int) < (e : Int) := h
    have h2 : (e : Int) < (b : Int) := of_decide_eq_true h2
    omega
   ·have h2 : ¬ (e : Int) < (b : Int) := of_decide_eq_false h2
    omega
   ·have h : ¬ (M : Int) < (e : Int) := h
    omega
  ·rintro ⟨c, vs⟩ ⟨hv, ht, hf⟩
   simp only at hv ht hf
   subst hv
   refine zG (fun h => ?_) (fun h => ?_)
   ·obtain ⟨g1, g2⟩ := ht h
    refine zG (fun _ => zC ((ih vs M e b g1 g2 (by omega) (by omega) (by omega) q3 q4).mono (fun y hy => ?_))) (fun h => absurd h (by rw [Nat.beq_refl]; decide))
    exact zG (fun _ => zB (fin _ hy.1 hy.2)) (fun h => absurd h (by rw [zET (hy.1.len.trans hwl)]; decide))
   ·refine zG (fun _ => zB (fin _ (u6.refl _ _ _) ?_)) (fun h => absurd h (by rw [zET hwl]; decide))
    exact zHZ q3 q4 (fun q r' x y h1 h2 h3 h4 hx hy => by have := hf h; omega)
end
end Go.Ve
