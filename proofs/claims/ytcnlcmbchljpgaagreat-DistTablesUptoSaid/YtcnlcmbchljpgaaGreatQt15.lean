/-
  Plain laws: stable sorting, for any elements and any comparison that goes by a key.
  Plain laws: merging by prefix, as the program does it: what merging depends on.
  Plain laws: a sorted list without its repetitions.
  The sorting of routes is the one that is proved for any elements.
  Plain laws of distance-vector routing: the neighbors of an interface.
  Plain laws of distance-vector routing: a router has one interface in a domain.
  Plain laws of distance-vector routing: what a prefix list permits.
  Plain laws of distance-vector routing: who takes part, what is made of a neighbor's table.
  Plain laws of distance-vector routing: what a router receives.
  Plain laws: what a table is.
  Plain laws of distance-vector routing: tables of neighbors, finding a prefix.
  Plain laws of distance-vector routing: the owner of an address.
  Plain laws of distance-vector routing: Owner finds the neighbor with an address.
  Plain laws of distance-vector routing: where a received route comes from.
  Plain laws of distance-vector routing: the index of a prefix in a table.
  Plain laws: valid routes.
  The law as a function: law17_DistFilters.
  Plain laws: the reference's active routes; tables compared.
  Functions out of code, part 10: typed data out of data without types, lists too.
  Contracts at one point: what a function answers at given data.
  slices.Clone: the contract over typed lists, out of three that tell nil, empty and the rest apart.
-/
import Derived.Test.YtcnlcmbchljpgaaGreatQt14
import Derived.Test.YtcnlcmbchljpgaaGreatQt12
import Derived.Test.YtcnlcmbchljpgaaGreatQt13
import Derived.Test.YtcnlcmbchljpgaaGreatQt11
set_option linter.unusedVariables false
namespace Go.Ve
open Go
set_option maxRecDepth 1000000
set_option maxHeartbeats 4000000
section
variable {α κ : Type} {cmp : α × α × Unit → Option Int} {lt : α → α → Prop} {key : α → κ}
def zJ3 (lt : α → α → Prop) (lo i j : Nat) (xs : List α) : Prop := ∀ p q x y, lo ≤ p → p < q → q ≤ i → q ≠ j → xs[p]? = some x → xs[q]? = some y → ¬ lt y x
theorem zQ8 {lo i : Nat} {xs : List α} (h : wJ lt lo i xs) : zJ3 lt lo i i xs := fun p q x y h0 h1 h2 h3 hx hy => h p q x y h0 h1 (by omega) hx hy
theorem zSK (ho : Ord lt) {lo i j : Nat} {xs : List α} (h : zJ3 lt lo i j xs) (hj : j ≤ i) (hlo : lo ≤ j) (he : j = lo ∨ ∀ x y, xs[j]? = some x → xs[j - 1]? = some y → ¬ lt x y) : wJ lt lo (i + 1) xs := by
 intro p q x y hp0 hpq hq hx hy
 by_cases hqj : q = j
 ·subst hqj
  rcases he with he | he
  ·omega
  ·by_cases hp : p = q - 1
   ·subst hp
    exact he y x hy hx
   ·have hl := (List.getElem?_eq_some_iff.1 hy).1
    have hz : xs[q - 1]? = some (xs[q - 1]'(by omega)) := by simp
    exact ho.tr _ _ _ (h p (q - 1) x _ hp0 (by omega) (by omega) (by omega) hx hz) (he y _ hy hz)
 ·exact h p q x y hp0 hpq (by omega) hqj hx hy
theorem zSJ (ho : Ord lt) {lo i j : Nat} {xs : List α} (h : zJ3 lt lo i j xs) (hj : lo < j) (hji : j ≤ i) (hi : i < xs.length) (hlt : lt (xs[j]'(by omega)) (xs[j - 1]'(by omega))) :
  zJ3 lt lo i (j - 1) ((xs.set j (xs[j - 1]'(by omega))).set (j - 1) (xs[j]'(by omega))) := by
 have hjl : j < xs.length := by omega
 have a1 : xs[j]? = some xs[j] := by simp
 have a2 : xs[j - 1]? = some (xs[j - 1]'(by omega)) := by simp
 have at' : ∀ m z, ((xs.set j (xs[j - 1]'(by omega))).set (j - 1) (xs[j]'(by omega)))[m]? = some z → (m = j - 1 ∧ z = xs[j]) ∨ (m = j ∧ z = xs[j - 1]'(by omega)) ∨ (m ≠ j ∧ m ≠ j - 1 ∧ xs[m]? = some z) := by
  intro m z hm
  by_cases e1 : m = j - 1
  ·subst e1
   rw [List.getElem?_set_self (by rw [List.length_set]; omega)] at hm
   cases hm
   exact .inl ⟨rfl, rfl⟩
  ·rw [List.getElem?_set_ne (by omega)] at hm
   by_cases e2 : m = j
   ·subst e2
    rw [List.getElem?_set_self (by omega)] at hm
    cases hm
    exact .inr (.inl ⟨rfl, rfl⟩)
   ·rw [List.getElem?_set_ne (by omega)] at hm
    exact .inr (.inr ⟨e2, e1, hm⟩)
 intro p q x y hp0 hpq hq hqj hx hy
 rcases at' q y hy with ⟨g, _⟩ | ⟨rfl, rfl⟩ | ⟨g1, g2, hy2⟩
 ·omega
 ·rcases at' p x hx with ⟨rfl, rfl⟩ | ⟨g, _⟩ | ⟨g3, g4, hx⟩
  ·exact ho.asym _ _ hlt
  ·omega
  ·exact h p (q - 1) x _ hp0 (by omega) (by omega) (by omega) hx a2
 ·rcases at' p x hx with ⟨rfl, rfl⟩ | ⟨rfl, rfl⟩ | ⟨g3, g4, hx⟩
  ·exact h j q _ y (by omega) (by omega) hq g1 a1 hy2
  ·exact h (p - 1) q _ y (by omega) (by omega) hq g1 a2 hy2
  ·exact h p q x y hp0 hpq hq g1 hx hy2
theorem zUw (hk : zLy lt key) {j : Nat} {xs : List α} (hj : 0 < j) (hjl : j < xs.length) (hlt : lt xs[j] (xs[j - 1]'(by omega))) :
  u6 key (j - 1) (j + 1) xs ((xs.set j (xs[j - 1]'(by omega))).set (j - 1) xs[j]) := by
 have h1 := wZ hjl
 have h2 := wZ (xs := xs) (i := j - 1) (by omega)
 refine zI1 hk (m := j) (by omega) (by omega) (by omega) (by simp) (zOY (m := j) (k := j) hj (Nat.le_refl _) hjl rfl (fun k => (zRg k).symm) h1 h2) ?_
 intro q r x y g1 g2 g3 g4 hx hy
 have e1 : q = j - 1 := by omega
 have e2 : r = j := by omega
 subst e1 e2
 rw [h2] at hx; rw [h1] at hy
 cases hx; cases hy
 exact hlt
theorem zB9 (hk : zLy lt key) (hcmp : ∀ x y, Wp (cmp (x, y, ())) (fun c => c < 0 ↔ lt x y)) (xs : List α) (a b : Nat) (hab : a ≤ b) (hb : b ≤ xs.length) (hl : xs.length < 1099511627776) :
  Wp (yW cmp xs ((a : Int), (b : Int), (), ())) (fun r => u6 key a b xs r.1 ∧ wJ lt a b r.1) := by
 have ho := hk.ord
 unfold yW
 dsimp only
 rw [zD (by omega) (by omega)]
 refine j2 (fun s : Int × List α => u6 key a b xs s.2 ∧ ∃ i : Nat, s.1 = (i : Int) ∧ a + 1 ≤ i ∧ (i ≤ b ∨ i = a + 1) ∧ wJ lt a i s.2) (fun s => ((b : Int) - s.1).toNat)
  ⟨u6.refl _ _ _, a + 1, by simp only; omega, Nat.le_refl _, .inr rfl, zUA⟩ ?_
 rintro ⟨s, zs⟩ ⟨hst, i, hi, hi1, hi2, hso⟩
 simp only at hi hst hso
 subst hi
 have hlen : zs.length = xs.length := hst.len
 refine zI (fun hlt => ?_) (fun hge => ?_)
 ·have hlt : (i : Int) < (b : Int) := hlt
  refine zC ((show Wp _ (fun ys : List α => u6 key a b zs ys ∧ wJ lt a (i + 1) ys) from ?_).mono (fun ys hys => zB (e2l ⟨⟨hst.trans hys.1, i + 1, ?_, by omega, .inl (by omega), hys.2⟩, ?_⟩)))
  ·refine j2 (fun s : Int × List α => u6 key a b zs s.2 ∧ ∃ j : Nat, s.1 = (j : Int) ∧ a ≤ j ∧ j ≤ i ∧ zJ3 lt a i j s.2) (fun s => s.1.toNat) ⟨u6.refl _ _ _, i, rfl, by omega, Nat.le_refl _, zQ8 hso⟩ ?_
   rintro ⟨s, ys⟩ ⟨hyst, j, hj, hja, hji, hex⟩
   simp only at hj hyst hex
   subst hj
   have hyl : ys.length = xs.length := hyst.len.trans hlen
   refine zC ((show Wp _ (fun c : Bool × List α => c.2 = ys ∧ (c.1 = true → a < j ∧ ∀ x y, ys[j]? = some x → ys[j - 1]? = some y → lt x y) ∧ (c.1 = false → j = a ∨ ∀ x y, ys[j]? = some x → ys[j - 1]? = some y → ¬ lt x y)) from ?_).mono ?_)
   ·refine zI (fun hj0 => ?_) (fun hj0 => zB ⟨rfl, (fun h => by cases h), fun _ => .inl ?_⟩)
    ·have hj0 : (j : Int) > (a : Int) := hj0
     have hy1 := wZ (xs := ys) (i := j) (by omega)
     have hy2 := wZ (xs := ys) (i := j - 1) (by omega)
     dsimp only
     rw [zD (by omega) (by omega), show ((j : Int) - 1) = ((j - 1 : Nat) : Int) by omega]
     simp only [zJ hy1, zJ hy2, Int.toNat_natCast, wO hy1, wO hy2, Option.bind_some]
     refine zC ((hcmp _ _).mono (fun c hc => zB ⟨rfl, (fun h => ⟨by omega, ?_⟩), fun h => .inr ?_⟩))
     ·intro x y hx hy
      rw [hy1] at hx; rw [hy2] at hy
      cases hx; cases hy
      exact hc.1 (of_decide_eq_true h)
     ·intro x y hx hy
      rw [hy1] at hx; rw [hy2] at hy
      cases hx; cases hy
      exact fun hh => (of_decide_eq_false h) (hc.2 hh)
    ·have hj0 : ¬ (j : Int) > (a : Int) := hj0
     omega
   ·rintro ⟨c, ws⟩ ⟨hw, ht, hf⟩
    simp only at hw ht hf
    subst hw
    refine zG (fun hb' => ?_) (fun hb' => zB (e2r ⟨hyst, zSK ho hex hji hja (hf hb')⟩))
    obtain ⟨hj0, hlt2⟩ := ht hb'
    have hy1 := wZ (xs := ws) (i := j) (by omega)
    have hy2 := wZ (xs := ws) (i := j - 1) (by omega)
    have hy3 : (ws.set j (ws[j - 1]'(by omega)))[j - 1]? = some (ws[j - 1]'(by omega)) := by
     rw [List.getElem?_set_ne (by omega)]; exact hy2
    dsimp only
    rw [zD (by omega) (by omega), show ((j : Int) - 1) = ((j - 1 : Nat) : Int) by omega]
    simp only [zJ hy1, zJ hy2, Int.toNat_natCast, wO hy1, wO hy2, Option.bind_some, zJ hy3, wO hy3]
    refine zB (e2l ⟨⟨hyst.trans ((zUw hk (by omega) (by omega) (hlt2 _ _ hy1 hy2)).mono (by omega) (by omega)), j - 1, rfl, by omega, by omega, zSJ ho hex hj0 hji (by omega) (hlt2 _ _ hy1 hy2)⟩, ?_⟩)
    simp only; omega
  ·simp only; rw [zD (by omega) (by omega)]; omega
  ·simp only; rw [zD (by omega) (by omega)]; omega
 ·have hge : ¬ (i : Int) < (b : Int) := hge
  exact x3 (zG (fun _ => zB (e2r ⟨hst, hso.sub (Nat.le_refl _) (by omega)⟩)) (fun h => absurd h (by rw [zET hlen]; decide)))
def zQI (lt : α → α → Prop) (bs n : Nat) (xs : List α) : Prop := ∀ j, wJ lt (j * bs) (min ((j + 1) * bs) n) xs
theorem zPK (hk : zLy lt key) (hcmp : ∀ x y, Wp (cmp (x, y, ())) (fun c => c < 0 ↔ lt x y)) (xs : List α) (hl : xs.length ≤ 1048576) :
  Wp (zIM cmp xs ((xs.length : Int), (), ())) (fun r => u6 key 0 xs.length xs r.1 ∧ wJ lt 0 xs.length r.1) := by
 unfold zIM
 dsimp only
 generalize hn : xs.length = n at hl
 refine zC ((show Wp _ (fun s : List α × Int => u6 key 0 n xs s.1 ∧ ∃ t : Nat, s.2 = ((20 * t : Nat) : Int) ∧ 20 * t ≤ n ∧ n < 20 * t + 20 ∧ ∀ j, j < t → wJ lt (j * 20) ((j + 1) * 20) s.1) from ?_).mono ?_)
 ·refine j2 (fun s : Int × List α × Int => u6 key 0 n xs s.2.1 ∧ ∃ t : Nat, s.1 = ((20 * t + 20 : Nat) : Int) ∧ s.2.2 = ((20 * t : Nat) : Int) ∧ 20 * t ≤ n ∧ ∀ j, j < t → wJ lt (j * 20) ((j + 1) * 20) s.2.1) (fun s => ((n : Int) + 20 - s.1).toNat)
   ⟨u6.refl _ _ _, 0, rfl, rfl, Nat.zero_le _, fun j hj => by omega⟩ ?_
  rintro ⟨sb, zs, sa⟩ ⟨hst, t, hsb, hsa, htn, hbl⟩
  simp only at hsb hsa hst hbl
  subst hsb hsa
  have hzl := hst.len
  refine zI (fun h => ?_) (fun h => zB (e2r ⟨hst, t, rfl, htn, ?_, hbl⟩))
  ·have h : ((20 * t + 20 : Nat) : Int) ≤ (n : Int) := h
   refine zG (fun _ => ?_) (fun h => absurd h (by rw [Nat.beq_refl]; decide))
   refine zC ((zB9 hk hcmp zs (20 * t) (20 * t + 20) (by omega) (by omega) (by omega)).mono (fun y hy => zB (e2l ⟨⟨hst.trans (hy.1.mono (by omega) (by omega)), t + 1, ?_, ?_, by omega, ?_⟩, ?_⟩)))
   ·simp only; rw [zD (by omega) (by omega)]; omega
   ·simp only; omega
   ·intro j hj
    by_cases e : j = t
    ·subst e
     rw [show j * 20 = 20 * j by omega, show (j + 1) * 20 = 20 * j + 20 by omega]
     exact hy.2
    ·exact (hbl j (by omega)).out hy.1 (.inl (by omega))
   ·simp only; rw [zD (by omega) (by omega)]; omega
  ·have h : ¬ ((20 * t + 20 : Nat) : Int) ≤ (n : Int) := h
   omega
 rintro ⟨zs, sa⟩ ⟨hst, t, hsa, htn, htn2, hbl⟩
 simp only at hsa hst hbl
 subst hsa
 have hzl := hst.len
 refine zG (fun _ => ?_) (fun h => absurd h (by rw [Nat.beq_refl]; decide))
 refine zC ((zB9 hk hcmp zs (20 * t) n htn (by omega) (by omega)).mono (fun y hy => ?_))
 have hB : zQI lt 20 n y.1 := by
  intro j
  by_cases e : j < t
  ·rw [Nat.min_eq_left (by omega)]
   exact (hbl j e).out hy.1 (.inl (by omega))
  ·by_cases e2 : j = t
   ·subst e2
    refine hy.2.sub (by omega) (Nat.min_le_right _ _)
   ·intro p q x y' h1 h2 h3
    omega
 have hst2 : u6 key 0 n xs y.1 := hst.trans (hy.1.mono (by omega) (Nat.le_refl _))
 refine j2 (fun s : Int × List α => u6 key 0 n xs s.2 ∧ ∃ bs : Nat, s.1 = (bs : Int) ∧ 20 ≤ bs ∧ bs ≤ 2097152 ∧ zQI lt bs n s.2) (fun s => ((n : Int) - s.1).toNat) ⟨hst2, 20, rfl, Nat.le_refl _, by omega, hB⟩ ?_
 rintro ⟨sbs, ws⟩ ⟨hw, bs, hbs, hbs1, hbs2, hbl2⟩
 simp only at hbs hw hbl2
 subst hbs
 have hwl := hw.len
 refine zI (fun h => ?_) (fun h => ?_)
 ·have h : (bs : Int) < (n : Int) := h
  dsimp only
  rw [zD (x := (2 : Int) * (bs : Int)) (by omega) (by omega)]
  refine zC ((show Wp _ (fun s : Int × List α => u6 key 0 n ws s.2 ∧ ∃ t : Nat, s.1 = ((t * (2 * bs) : Nat) : Int) ∧ t * (2 * bs) ≤ n ∧ n < (t + 1) * (2 * bs) ∧ (∀ j, j < t → wJ lt (j * (2 * bs)) ((j + 1) * (2 * bs)) s.2) ∧ ∀ j, 2 * t ≤ j → wJ lt (j * bs) (min ((j + 1) * bs) n) s.2) from ?_).mono ?_)
  ·refine j2 (fun s : Int × List α × Int => u6 key 0 n ws s.2.1 ∧ ∃ t : Nat, s.1 = (((t + 1) * (2 * bs) : Nat) : Int) ∧ s.2.2 = ((t * (2 * bs) : Nat) : Int) ∧ t * (2 * bs) ≤ n ∧ (∀ j, j < t → wJ lt (j * (2 * bs)) ((j + 1) * (2 * bs)) s.2.1) ∧ ∀ j, 2 * t ≤ j → wJ lt (j * bs) (min ((j + 1) * bs) n) s.2.1) (fun s => ((n : Int) + 2 * (bs : Int) - s.1).toNat)
    ⟨u6.refl _ _ _, 0, by simp only; omega, by simp, by omega, fun j hj => by omega, fun j _ => hbl2 j⟩ ?_
   rintro ⟨sb, vs, sa⟩ ⟨hv, t, hsb, hsa, htn', hb1, hb2⟩
   simp only at hsb hsa hv hb1 hb2
   subst hsb hsa
   have hvl : vs.length = n := by rw [hv.len, hwl, hn]
   have eT : (t + 1) * (2 * bs) = t * (2 * bs) + 2 * bs := Nat.succ_mul _ _
   have eA : 2 * t * bs = t * (2 * bs) := by rw [Nat.mul_comm 2 t, Nat.mul_assoc]
   have eB : (2 * t + 1) * bs = t * (2 * bs) + bs := by rw [Nat.succ_mul, eA]
   have eC : (2 * t + 2) * bs = t * (2 * bs) + 2 * bs := by rw [show 2 * t + 2 = (2 * t + 1) + 1 from rfl, Nat.succ_mul, eB]; omega
   generalize hA : t * (2 * bs) = A at *
   refine zI (fun h2 => ?_) (fun h2 => zB (e2r ⟨hv, t, by rw [hA], by rw [hA]; exact htn', ?_, hb1, hb2⟩))
   ·have h2 : (((t + 1) * (2 * bs) : Nat) : Int) ≤ (n : Int) := h2
    rw [eT] at h2 ⊢
    refine zG (fun _ => ?_) (fun h => absurd h (by rw [Nat.beq_refl]; decide))
    dsimp only
    rw [zD (x := (A : Int) + (bs : Int)) (by omega) (by omega), show ((A : Int) + (bs : Int)) = ((A + bs : Nat) : Int) by omega]
    have s1 := hb2 (2 * t) (Nat.le_refl _)
    have s2 := hb2 (2 * t + 1) (by omega)
    rw [show 2 * t + 1 + 1 = 2 * t + 2 from rfl, eC, eB, Nat.min_eq_left (by omega)] at s2
    rw [eB, eA, Nat.min_eq_left (by omega)] at s1
    unfold zDM
    refine zC ((zDN hk hcmp 1048576 vs A (A + bs) (A + 2 * bs) (by omega) (by omega) (by omega) (by omega) (by omega) s1 s2).mono (fun y hy => zB (e2l ⟨⟨hv.trans (hy.1.mono (by omega) (by omega)), t + 1, ?_, ?_, ?_, ?_, ?_⟩, ?_⟩)))
    ·simp only
     rw [zD (by omega) (by omega), show (t + 1 + 1) * (2 * bs) = A + 2 * bs + 2 * bs by rw [Nat.succ_mul, eT]]
     omega
    ·simp only; rw [eT]
    ·rw [eT]; omega
    ·intro j hj
     by_cases e : j = t
     ·subst e
      rw [hA, eT]
      exact hy.2
     ·refine (hb1 j (by omega)).out hy.1 (.inl ?_)
      have : (j + 1) * (2 * bs) ≤ t * (2 * bs) := Nat.mul_le_mul_right _ (by omega)
      omega
    ·intro j hj
     refine (hb2 j (by omega)).out hy.1 (.inr ?_)
     have : (2 * t + 2) * bs ≤ j * bs := Nat.mul_le_mul_right _ (by omega)
     omega
    ·simp only
     rw [zD (by omega) (by omega)]
     omega
   ·have h2 : ¬ (((t + 1) * (2 * bs) : Nat) : Int) ≤ (n : Int) := h2
    omega
  rintro ⟨sa, vs⟩ ⟨hv, t, hsa, ht1, ht2, hb1, hb2⟩
  simp only at hsa hv hb1 hb2
  subst hsa
  have hvl : vs.length = n := by rw [hv.len, hwl, hn]
  have eT : (t + 1) * (2 * bs) = t * (2 * bs) + 2 * bs := Nat.succ_mul _ _
  have eA : 2 * t * bs = t * (2 * bs) := by rw [Nat.mul_comm 2 t, Nat.mul_assoc]
  have eB : (2 * t + 1) * bs = t * (2 * bs) + bs := by rw [Nat.succ_mul, eA]
  have eC : (2 * t + 2) * bs = t * (2 * bs) + 2 * bs := by rw [show 2 * t + 2 = (2 * t + 1) + 1 from rfl, Nat.succ_mul, eB]; omega
  have s1 := hb2 (2 * t) (Nat.le_refl _)
  have s2 := hb2 (2 * t + 1) (by omega)
  rw [show 2 * t + 1 + 1 = 2 * t + 2 from rfl, eC, eB, Nat.min_eq_right (by omega)] at s2
  rw [eB, eA] at s1
  have hbelow : ∀ j, j < t → (j + 1) * (2 * bs) ≤ t * (2 * bs) := fun j hj => Nat.mul_le_mul_right _ (by omega)
  have habove : ∀ j, t < j → t * (2 * bs) + 2 * bs ≤ j * (2 * bs) := fun j hj => by rw [← eT]; exact Nat.mul_le_mul_right _ (by omega)
  generalize hA : t * (2 * bs) = A at *
  have fin : ∀ us, u6 key A n vs us → wJ lt A n us → u6 key 0 n xs us ∧ zQI lt (bs * 2) n us := by
   intro us hu1 hu2
   refine ⟨(hw.trans hv).trans (hu1.mono (by omega) (Nat.le_refl _)), ?_⟩
   intro j
   rw [show bs * 2 = 2 * bs by omega]
   by_cases e : j < t
   ·have := hbelow j e
    rw [Nat.min_eq_left (by omega)]
    exact (hb1 j e).out hu1 (.inl this)
   ·by_cases e2 : j = t
    ·subst e2
     rw [hA, eT, Nat.min_eq_right (by omega)]
     exact hu2
    ·have := habove j (by omega)
     intro p q x y' h1 h2 h3
     omega
  dsimp only
  rw [zD (x := (A : Int) + (bs : Int)) (by omega) (by omega), show ((A : Int) + (bs : Int)) = ((A + bs : Nat) : Int) by omega]
  refine zC ((show Wp _ (fun us : List α => u6 key 0 n xs us ∧ zQI lt (bs * 2) n us) from ?_).mono (fun us hus => zB (e2l ⟨⟨hus.1, bs * 2, ?_, by omega, by omega, hus.2⟩, ?_⟩)))
  ·refine zI (fun h2 => ?_) (fun h2 => zB (fin vs (u6.refl _ _ _) ?_))
   ·have h2 : ((A + bs : Nat) : Int) < (n : Int) := h2
    rw [Nat.min_eq_left (by omega)] at s1
    refine zG (fun _ => ?_) (fun h => absurd h (by rw [Nat.beq_refl]; decide))
    unfold zDM
    exact zC ((zDN hk hcmp 1048576 vs A (A + bs) n (by omega) (by omega) (by omega) (by omega) (by omega) s1 s2).mono (fun y hy => zB (fin _ hy.1 hy.2)))
   ·have h2 : ¬ ((A + bs : Nat) : Int) < (n : Int) := h2
    rw [Nat.min_eq_right (by omega)] at s1
    exact s1
  ·simp only; rw [zD (by omega) (by omega)]; omega
  ·simp only; rw [zD (by omega) (by omega)]; omega
 ·have h : ¬ (bs : Int) < (n : Int) := h
  refine x3 (zG (fun _ => zB (e2r ⟨hw, ?_⟩)) (fun h => absurd h (by simp only; rw [hwl, hn, Nat.beq_refl]; decide)))
  have := hbl2 0
  rw [Nat.zero_mul, Nat.zero_add, Nat.one_mul, Nat.min_eq_right (by omega)] at this
  exact this
theorem zKc (hk : zLy lt key) (hcmp : ∀ x y, Wp (cmp (x, y, ())) (fun c => c < 0 ↔ lt x y)) (xs : List α) (hl : xs.length ≤ 1048576) :
  Wp (zDg cmp xs ((), ())) (fun r => r.1.length = xs.length ∧ zBn key xs r.1 ∧ r.1.Pairwise (fun x y => ¬ lt y x)) := by
 unfold zDg
 dsimp only
 refine zG (fun _ => ?_) (fun h => absurd h (by rw [Nat.beq_refl]; decide))
 refine zC ((zPK hk hcmp xs hl).mono (fun y hy => ?_))
 refine zG (fun _ => zB ⟨hy.1.len, hy.1.same, ?_⟩) (fun h => absurd h (by rw [zET hy.1.len]; decide))
 rw [List.pairwise_iff_getElem]
 intro p q hp hq hpq
 have := hy.1.len
 have hq : q < y.1.length := hq
 exact hy.2 p q _ _ (Nat.zero_le _) hpq (by omega) (by simp) (by simp)
end
end Go.Ve

namespace Go.Ve
open Go
set_option maxRecDepth 1000000
set_option maxHeartbeats 4000000
theorem zGu : ∀ (more acc : List (Ty.El z1)), acc.Pairwise hlt → (more.foldl w4 acc).Pairwise hlt ∧ ∀ h, h ∈ more.foldl w4 acc ↔ h ∈ acc ∨ h ∈ more
 | [], acc, hp => ⟨hp, fun h => by simp⟩
 | x :: more, acc, hp => by
  have heq : ∀ a b : Ty.El z1, zLY a b = true ↔ a = b := fun a b => ⟨fun h => zEw h, fun h => by subst h; simp [zLY]⟩
  have h1 : (w4 acc x).Pairwise hlt := zGb zJB (fun _ _ => zRG) heq (fun a b h1 h2 => zWp h1 (fun e => h2 e.symm)) hp
  obtain ⟨h2, h3⟩ := zGu more (w4 acc x) h1
  refine ⟨h2, fun h => ?_⟩
  rw [List.foldl_cons, h3 h, show (h ∈ w4 acc x ↔ h ∈ acc ∨ h = x) from zJx heq, List.mem_cons, or_assoc]
theorem zJz {p : Ty.El zF} {b : Ty.El zA} : ∀ (l : List (Ty.El zA)) (acc : List (Ty.El z1)), acc.Pairwise hlt →
  (l.foldl (jD p b) acc).Pairwise hlt ∧ ∀ h, h ∈ l.foldl (jD p b) acc ↔ h ∈ acc ∨ ∃ x, x ∈ l ∧ x.1 = p ∧ uS x b = 0 ∧ h ∈ x.2.2.2.2.2.2.2.2.2.2.2.1
 | [], acc, hp => ⟨hp, fun h => by simp⟩
 | x :: l, acc, hp => by
  cases hc : zAg x.1 p && (uS x b == 0) with
  | true =>
   have hs : jD p b acc x = x.2.2.2.2.2.2.2.2.2.2.2.1.foldl w4 acc := by unfold jD; rw [hc]; rfl
   have hc2 : x.1 = p ∧ uS x b = 0 := by
    rw [Bool.and_eq_true] at hc
    exact ⟨uF.1 hc.1, by simpa using hc.2⟩
   obtain ⟨h1, h2⟩ := zGu x.2.2.2.2.2.2.2.2.2.2.2.1 acc hp
   rw [← hs] at h1 h2
   obtain ⟨h3, h4⟩ := zJz l (jD p b acc x) h1
   refine ⟨h3, fun h => ?_⟩
   rw [List.foldl_cons, h4 h, h2 h]
   constructor
   ·rintro ((h | h) | ⟨y, hy, g⟩)
    ·exact .inl h
    ·exact .inr ⟨x, by simp, hc2.1, hc2.2, h⟩
    ·exact .inr ⟨y, List.mem_cons_of_mem _ hy, g⟩
   ·rintro (h | ⟨y, hy, g⟩)
    ·exact .inl (.inl h)
    ·rcases List.mem_cons.1 hy with rfl | hy
     ·exact .inl (.inr g.2.2)
     ·exact .inr ⟨y, hy, g⟩
  | false =>
   have hs : jD p b acc x = acc := by unfold jD; rw [hc]; rfl
   have hc2 : ¬ (x.1 = p ∧ uS x b = 0) := by
    rintro ⟨h1, h2⟩
    rw [uF.2 h1, h2] at hc
    cases hc
   obtain ⟨h3, h4⟩ := zJz l acc hp
   rw [List.foldl_cons, hs]
   refine ⟨h3, fun h => ?_⟩
   rw [h4 h]
   constructor
   ·rintro (h | ⟨y, hy, g⟩)
    ·exact .inl h
    ·exact .inr ⟨y, List.mem_cons_of_mem _ hy, g⟩
   ·rintro (h | ⟨y, hy, g⟩)
    ·exact .inl h
    ·rcases List.mem_cons.1 hy with rfl | hy
     ·exact absurd ⟨g.1, g.2.1⟩ hc2
     ·exact .inr ⟨y, hy, g⟩
theorem zAl (l : List (Ty.El zA)) (p : Ty.El zF) (b : Ty.El zA) : (yX l p b).Pairwise hlt := (zJz l [] List.Pairwise.nil).1
theorem zCR (l : List (Ty.El zA)) (p : Ty.El zF) (b : Ty.El zA) (h : Ty.El z1) : h ∈ yX l p b ↔ ∃ x, x ∈ l ∧ x.1 = p ∧ uS x b = 0 ∧ h ∈ x.2.2.2.2.2.2.2.2.2.2.2.1 := by
 have := (zJz (p := p) (b := b) l [] List.Pairwise.nil).2 h
 rw [show yX l p b = l.foldl (jD p b) [] from rfl, this]
 simp
noncomputable def vH (p : Ty.El zF) (l : List (Ty.El zA)) : List (Ty.El zA) := zJE (fun x : Ty.El zA => x.1) p l
theorem zSX (p : Ty.El zF) (x : Ty.El zA) (l : List (Ty.El zA)) : vH p (x :: l) = if x.1 = p then x :: vH p l else vH p l := by
 unfold vH zJE
 rw [List.filter_cons]
 by_cases h : x.1 = p
 ·simp [h]
 ·simp [h]
theorem zAI {p : Ty.El zF} {x : Ty.El zA} {l : List (Ty.El zA)} : x ∈ vH p l ↔ x ∈ l ∧ x.1 = p := by
 unfold vH zJE
 rw [List.mem_filter]
 simp
def zJX (c : Option (Ty.El zA)) (l : List (Ty.El zA)) : Option (Ty.El zA) := l.foldl (fun c x => bif zQB x c then some x else c) c
theorem zC0 {p : Ty.El zF} : ∀ (l : List (Ty.El zA)) (c : Option (Ty.El zA)), l.foldl (yM p) c = zJX c (vH p l)
 | [], c => rfl
 | x :: l, c => by
  rw [List.foldl_cons, zSX]
  by_cases h : x.1 = p
  ·rw [if_pos h]
   have hb : yM p c x = bif zQB x c then some x else c := by unfold yM; rw [uF.2 h]; rfl
   rw [hb, zC0 l]
   rfl
  ·rw [if_neg h]
   have hp : zAg x.1 p = false := by
    rw [Bool.eq_false_iff]
    exact fun hh => h (uF.1 hh)
   have hb : yM p c x = c := by unfold yM; rw [hp]; rfl
   rw [hb, zC0 l]
theorem zC1 (l : List (Ty.El zA)) (p : Ty.El zF) : zAz l p = zJX none (vH p l) := zC0 l none
theorem zF6 {l l' : List (Ty.El zA)} (h : zBn (fun x : Ty.El zA => x.1) l l') : wY l = wY l' := by
 have hm : ∀ x, x ∈ l ↔ x ∈ l' := by
  intro x
  have h1 := @zAI x.1 x l
  have h2 := @zAI x.1 x l'
  have h3 : vH x.1 l = vH x.1 l' := h x.1
  rw [h3] at h1
  constructor
  ·intro hx; exact (h2.1 (h1.2 ⟨hx, rfl⟩)).1
  ·intro hx; exact (h1.1 (h2.2 ⟨hx, rfl⟩)).1
 have hP : zI9 l = zI9 l' := zAD zGG (zF0 l) (zF0 l') (fun p => by
  rw [zCM, zCM]
  exact ⟨fun ⟨x, hx, e⟩ => ⟨x, (hm x).1 hx, e⟩, fun ⟨x, hx, e⟩ => ⟨x, (hm x).2 hx, e⟩⟩)
 unfold wY
 rw [hP]
 congr 1
 funext p
 unfold mrg
 have hb : zAz l p = zAz l' p := by
  rw [zC1, zC1]
  exact congrArg (zJX none) (h p)
 rw [hb]
 cases zAz l' p with
 | none => rfl
 | some b =>
  have hh : yX l p b = yX l' p b := zAD zJB (zAl _ _ _) (zAl _ _ _) (fun h' => by
   rw [zCR, zCR]
   exact ⟨fun ⟨x, hx, e⟩ => ⟨x, (hm x).1 hx, e⟩, fun ⟨x, hx, e⟩ => ⟨x, (hm x).2 hx, e⟩⟩)
  rw [Option.map_some, Option.map_some, hh]
end Go.Ve

namespace Go.Ve
open Go
def wT {α : Type} (eq : α → α → Bool) : List α → List α
 | [] => []
 | [x] => [x]
 | x :: y :: r => bif eq x y then wT eq (y :: r) else x :: wT eq (y :: r)
theorem zCn {α : Type} {eq : α → α → Bool} (he : ∀ x y, eq x y = true ↔ x = y) (z : α) : ∀ (l : List α), z ∈ wT eq l ↔ z ∈ l
 | [] => Iff.rfl
 | [x] => Iff.rfl
 | x :: y :: r => by
  simp only [wT]
  cases h : eq x y with
  | true =>
   rw [cond_true, zCn he z (y :: r), (he x y).1 h]
   simp
  | false =>
   rw [cond_false, List.mem_cons, zCn he z (y :: r), List.mem_cons (a := z) (b := x)]
theorem zFh {α : Type} {eq : α → α → Bool} {R : α → α → Prop} (he : ∀ x y, eq x y = true ↔ x = y) (ho : Ord R) (htot : ∀ x y, ¬ R y x → x ≠ y → R x y) : ∀ (l : List α), l.Pairwise (fun x y => ¬ R y x) → (wT eq l).Pairwise R
 | [], _ => List.Pairwise.nil
 | [x], _ => List.pairwise_singleton _ _
 | x :: y :: r, hp => by
  have hp2 := hp
  rw [List.pairwise_cons] at hp
  have ih := zFh he ho htot (y :: r) hp.2
  simp only [wT]
  cases h : eq x y with
  | true => exact ih
  | false =>
   rw [cond_false, List.pairwise_cons]
   refine ⟨fun z hz => ?_, ih⟩
   have hne : x ≠ y := fun e => by rw [(he x y).2 e] at h; cases h
   have hxy : R x y := htot x y (hp.1 y (by simp)) hne
   have hz2 := (zCn he z (y :: r)).1 hz
   rcases List.mem_cons.1 hz2 with rfl | hz3
   ·exact hxy
   ·have hyz : ¬ R z y := by
     have := hp.2
     rw [List.pairwise_cons] at this
     exact this.1 z hz3
    exact Classical.byContradiction (fun hn => ho.tr y z x hyz hn hxy)
theorem zNr (a b : Ty.El z1) : zLY a b = true ↔ a = b := ⟨fun h => zEw h, fun h => by subst h; simp [zLY]⟩
theorem zQd {l : List (Ty.El zA)} {p : Ty.El zF} {b : Ty.El zA} {hs : List (Ty.El z1)} (hp : hs.Pairwise (fun x y => ¬ hlt y x)) (hm : ∀ h, h ∈ hs ↔ ∃ x, x ∈ l ∧ x.1 = p ∧ uS x b = 0 ∧ h ∈ x.2.2.2.2.2.2.2.2.2.2.2.1) :
  wT zLY hs = yX l p b :=
 zAD zJB (zFh zNr zJB (fun _ _ h1 h2 => zWp h1 h2) hs hp) (zAl l p b) (fun h => by rw [zCn zNr, hm, zCR])
end Go.Ve

namespace Go.Ve
open Go
set_option maxRecDepth 100000
theorem zQb : zY = yW zL := rfl
theorem zPH : ∀ n, zX n = zAB zL n := by
 intro n
 induction n with
 | zero => rfl
 | succ n ih =>
  show k7 (zX n) = zFL zL (zAB zL n)
  rw [ih]
  rfl
theorem zQX : qE = zDM zL := zPH 1048576
theorem zUz : qL = zIM zL := by
 unfold qL zIM
 rw [zQX, zQb]
theorem zOj : z8 = zDg zL := by
 unfold z8 zDg
 rw [zUz]
theorem zUU : zLy rlt (fun x : Ty.El zA => x.1) where
 ord := zMg
 ne := fun x y h e => by
  unfold rlt at h
  rw [e] at h
  exact zGG.asym _ _ h h
theorem zYJ (x y : Ty.El zA) : Wp (zL (x, y, ())) (fun c => c < 0 ↔ rlt x y) := by
 unfold zL
 dsimp only
 exact zC (qD (zIU _ _) (zB zJV))
theorem zEZ (l : List (Ty.El zA)) (hl : l.length ≤ 1048576) :
  Wp (z8 l ((), ())) (fun r => r.1.length = l.length ∧ zBn (fun x : Ty.El zA => x.1) l r.1 ∧ r.1.Pairwise (fun x y => ¬ rlt y x)) := by
 rw [zOj]
 exact zKc zUU zYJ l hl
end Go.Ve

namespace Go.Ve
open Go
theorem zLm {α : Type} {p : α → Bool} {xs : List α} {i : Nat} {x : α} (h : xs[i]? = some x) : (xs.take (i + 1)).filter p = (xs.take i).filter p ++ (if p x then [x] else []) := by
 obtain ⟨hi, he⟩ := List.getElem?_eq_some_iff.1 h
 rw [List.take_add_one, h, List.filter_append]
 simp only [Option.toList_some, List.filter_cons, List.filter_nil]
theorem zE8 {α : Type} {p : α → Bool} {xs : List α} (i : Nat) : ((xs.take i).filter p).length ≤ xs.length :=
 Nat.le_trans (List.length_filter_le _ _) (List.length_take_le' _ _)
def xD (v : Ty.El zS) (r i : Int) : List (Ty.El zK) := match v.2.1.1[(uK v r i).toNat]? with
 | some d => d.2.2.1
 | none => []
def zF5 (v : Ty.El zS) (r i : Int) (p : Ty.El zK → Bool) : List (Ty.El zK) := bif upB v r i then (xD v r i).filter p else []
theorem zNW {v : Ty.El zS} {r i : Int} (h : upB v r i = true) : ∃ d, v.2.1.1[(uK v r i).toNat]? = some d ∧ 0 ≤ uK v r i ∧ xD v r i = d.2.2.1 := by
 unfold upB at h
 simp only [Bool.and_eq_true, decide_eq_true_eq] at h
 obtain ⟨d, hd, _⟩ := zDt (p := fun d : Ty.El kM => d.2.2.1.any (zFx (r, i, ()))) (xs := v.2.1.1) h.1
 refine ⟨d, hd, h.1, ?_⟩
 unfold xD
 have hd' : v.2.1.1[(uK v r i).toNat]? = some d := hd
 rw [hd']
theorem zNK {v : Ty.El zS} (hv : zAM v) (r i : Int) : (xD v r i).length ≤ 360 := by
 unfold xD
 split
 ·rename_i d hd
  exact hv.ends d (List.mem_of_getElem? hd)
 ·exact Nat.zero_le _
theorem zFQ (v : Ty.El zS) (r i : Int) (hv : zAM v) : Wp (zAs (v, r, i, ())) (fun l => l = zF5 v r i (fun e => e.1 != r)) := by
 unfold zAs zF5
 dsimp only
 refine zC ((zHl v r i hv).mono (fun b hb => ?_))
 subst hb
 refine zG (fun h => zB ?_) (fun h => ?_)
 ·have h : upB v r i = false := by simpa using h
  rw [h]; rfl
 ·have h : upB v r i = true := by simpa using h
  rw [h]
  obtain ⟨d, hd, h0, he⟩ := zNW h
  have hl : d.2.2.1.length ≤ 360 := by rw [← he]; exact zNK hv r i
  refine zC ((zAX v r i hv).mono (fun k hk => ?_))
  subst hk
  simp only [jH hd h0, Option.bind_some]
  refine zC (vM (xs := d.2.2.1) (by omega) (fun j (g : List (Ty.El zK)) => g = (d.2.2.1.take j).filter (fun e => e.1 != r)) (by simp) ?_ (fun g hg => zB ?_))
  ·intro j x g hx hg
   have hgl : g.length ≤ 360 := by rw [hg]; exact Nat.le_trans (zE8 j) hl
   simp only [zJ hx, Option.bind_some]
   rw [zLm hx, ← hg]
   refine zG (fun h => zC (wL (by simp only [List.length_singleton]; omega) (zB ?_))) (fun h => zB ?_)
   ·rw [if_pos h]
   ·rw [if_neg (by rw [h]; decide), List.append_nil]
  ·rw [hg, List.take_length, he]; rfl
theorem zGX (v : Ty.El zS) (r i : Int) (hv : zAM v) : Wp (zAS (v, r, i, ())) (fun l => l = zF5 v r i (fun e => e.1 != r || e.2.1 != i)) := by
 unfold zAS zF5
 dsimp only
 refine zC ((zIP v r i hv).mono (fun b hb => ?_))
 subst hb
 refine zG (fun h => zB ?_) (fun h => ?_)
 ·have h : upB v r i = false := by simpa using h
  rw [h]; rfl
 ·have h : upB v r i = true := by simpa using h
  rw [h]
  obtain ⟨d, hd, h0, he⟩ := zNW h
  have hl : d.2.2.1.length ≤ 360 := by rw [← he]; exact zNK hv r i
  refine zC (zC ((zBx v r i hv).mono (fun k hk => ?_)))
  subst hk
  simp only [jH hd h0, Option.bind_some]
  refine vM (xs := d.2.2.1) (by omega) (fun j (g : List (Ty.El zK)) => g = (d.2.2.1.take j).filter (fun e => e.1 != r || e.2.1 != i)) (by simp) ?_ (fun g hg => zB ?_)
  ·intro j x g hx hg
   have hgl : g.length ≤ 360 := by rw [hg]; exact Nat.le_trans (zE8 j) hl
   simp only [zJ hx, Option.bind_some]
   rw [zLm hx, ← hg]
   refine zC ((show Wp _ (fun s : Bool × List (Ty.El zK) => s.1 = (x.1 != r || x.2.1 != i) ∧ s.2 = g) from ?_).mono (fun s hs => ?_))
   ·refine zG (fun h => zB ⟨?_, rfl⟩) (fun h => zB ⟨?_, rfl⟩)
    ·rw [h]; rfl
    ·rw [h]; rfl
   ·obtain ⟨s1, s2⟩ := s
    obtain ⟨h1, h2⟩ := hs
    simp only at h1 h2
    subst h2
    refine zG (fun h => zC (wL (by simp only [List.length_singleton]; omega) (zB ?_))) (fun h => zB ?_)
    ·have h : s1 = true := h
     rw [← h1, if_pos h]
    ·have h : s1 = false := h
     rw [← h1, if_neg (by rw [h]; decide), List.append_nil]
  ·rw [hg, List.take_length, he]; rfl
end Go.Ve

namespace Go.Ve
open Go
theorem zTs {n : Ty.El zT} {d : List Int} {v : Ty.El zS} (hv : x8 n d v) {r i : Int} (h : upB v r i = true) : ∃ dm : Ty.El kM, zJ5 n dm.1 dm.2.1 (r, i, ()) ∧ (∀ e, e ∈ xD v r i → zJ5 n dm.1 dm.2.1 e) := by
 have h0 := h
 unfold upB at h0
 simp only [Bool.and_eq_true, decide_eq_true_eq] at h0
 obtain ⟨dm, h1, h2⟩ := zDt (p := fun d : Ty.El kM => d.2.2.1.any (zFx (r, i, ()))) (xs := v.2.1.1) h0.1
 obtain ⟨e, he, h3⟩ := List.any_eq_true.1 h2
 have h4 := zRY.1 h3
 subst h4
 have hall := (hv.topo.ends dm (List.mem_of_getElem? h1)).2
 refine ⟨dm, hall _ he, ?_⟩
 intro e' he'
 obtain ⟨d', hd', _, hee⟩ := zNW h
 have h1' : v.2.1.1[(uK v r i).toNat]? = some dm := h1
 rw [hd'] at h1'
 cases h1'
 rw [hee] at he'
 exact hall e' he'
theorem zVc {n : Ty.El zT} {d : List Int} {v : Ty.El zS} (hv : x8 n d v) {r i : Int} (h : upB v r i = true) {e : Ty.El zK} (he : e ∈ xD v r i) (hr : e.1 = r) : e.2.1 = i := by
 obtain ⟨dm, ⟨a0, a1, rt, x, a2, a3, a4, _, a5, _⟩, hall⟩ := zTs hv h
 obtain ⟨b0, b1, rt', y, b2, b3, b4, _, b5, _⟩ := hall e he
 have a0 : (0 : Int) ≤ r := a0
 have a1 : (0 : Int) ≤ i := a1
 have a2 : n.1[r.toNat]? = some rt := a2
 have a3 : rt.2.2.1[i.toNat]? = some x := a3
 rw [hr, a2] at b2
 cases b2
 have hok := (zWf hv).rt rt (List.mem_of_getElem? a2)
 have c1 : some (zCN x.2.1 x.2.2.1) = some dm.1 := (vU x.2.1 x.2.2.1).symm.trans a5
 have c2 : some (zCN y.2.1 y.2.2.1) = some dm.1 := (vU y.2.1 y.2.2.1).symm.trans b5
 have hn : zCN x.2.1 x.2.2.1 = zCN y.2.1 y.2.2.1 := Option.some.inj (c1.trans c2.symm)
 have b1 : (0 : Int) ≤ e.2.1 := b1
 rcases Nat.lt_trichotomy i.toNat e.2.1.toNat with hlt | heq | hgt
 ·have := (hok.ifs _ y b3).apart _ x hlt a3 b4 a4
  rw [hn, zMV] at this
  cases this
 ·exact (show ∀ (p q : Int), 0 ≤ p → 0 ≤ q → p.toNat = q.toNat → q = p from fun p q h1 h2 h3 => by omega) i e.2.1 a1 b1 heq
 ·have := (hok.ifs _ x a3).apart _ y hgt b3 a4 b4
  rw [hn, zMV] at this
  cases this
theorem zWh {n : Ty.El zT} {d : List Int} {v : Ty.El zS} (hv : x8 n d v) (r i : Int) : zF5 v r i (fun e => e.1 != r || e.2.1 != i) = zF5 v r i (fun e => e.1 != r) := by
 unfold zF5
 cases h : upB v r i with
 | false => rfl
 | true =>
  show (xD v r i).filter _ = (xD v r i).filter _
  refine List.filter_congr (fun e he => ?_)
  cases hb : (e.1 != r) with
  | true => rfl
  | false =>
   have hr : e.1 = r := by simpa using hb
   have := zVc hv h he hr
   simp [this]
end Go.Ve

namespace Go.Ve
open Go
def prB (x : Ty.El yF) (p : Ty.El zF) : Bool := (decide (x.2.1.2.1 ≤ p.2.1) && zCf x.2.1 p.1) && (decide (x.2.2.1 ≤ p.2.1) && decide (p.2.1 ≤ x.2.2.2.1))
theorem zKe (p q : Ty.El zF) : zB1 (p, q, ()) = some (decide (p.2.1 ≤ q.2.1) && zCf p q.1) := by
 unfold zB1
 dsimp only
 rw [show zAo (p, q.1, ()) = some (zCf p q.1) from zHY p q.1]
 cases decide (p.2.1 ≤ q.2.1) <;> rfl
theorem zG2 (x : Ty.El yF) (p : Ty.El zF) : yV (x, p, ()) = some (prB x p) := by
 unfold yV prB
 dsimp only
 rw [show zB1 (x.2.1, p, ()) = some (decide (x.2.1.2.1 ≤ p.2.1) && zCf x.2.1 p.1) from zKe x.2.1 p]
 simp only [Option.bind_some]
 cases (decide (x.2.1.2.1 ≤ p.2.1) && zCf x.2.1 p.1) <;> cases decide (x.2.2.1 ≤ p.2.1) <;> rfl
theorem zDO (x : Ty.El yF) (p : Ty.El zF) : vF (x, p, ()) = some (prB x p) := by
 unfold vF prB
 dsimp only
 rw [show vZ (x.2.1, p, ()) = some (decide (x.2.1.2.1 ≤ p.2.1) && zCf x.2.1 p.1) from zBy x.2.1 p]
 simp only [Option.bind_some]
 cases (decide (x.2.1.2.1 ≤ p.2.1) && zCf x.2.1 p.1) <;> cases decide (x.2.2.1 ≤ p.2.1) <;> rfl
theorem zIS (l : Ty.El jJ) (p : Ty.El zF) (hl : l.2.1.length ≤ 20) : Wp (zCi (l, p, ())) (fun k => k = zBE (fun x => prB x p) l.2.1) := by
 unfold zCi
 dsimp only
 refine zBG (p := fun x : Ty.El yF => prB x p) (by omega) ?_ rfl
 intro i x hx
 simp only [zJ hx, Option.bind_some]
 rw [show yV (x, p, ()) = some (prB x p) from zG2 x p]
 cases prB x p <;> rfl
theorem zFm (l : Ty.El jJ) (p : Ty.El zF) (hl : l.2.1.length ≤ 20) : Wp (xN (l, p, ())) (fun k => k = zBE (fun x => prB x p) l.2.1) := by
 unfold xN
 dsimp only
 refine zBG (p := fun x : Ty.El yF => prB x p) (by omega) ?_ rfl
 intro i x hx
 simp only [zJ hx, Option.bind_some]
 rw [show vF (x, p, ()) = some (prB x p) from zDO x p]
 cases prB x p <;> rfl
def zDl (r : Ty.El zH) (nm : Ty.El .str) : Int := zBE (fun x : Ty.El jJ => x.1 == nm) r.2.2.2.1
theorem zFn (r : Ty.El zH) (nm : Ty.El .str) (hr : SmR r) : Wp (xQ (r, nm, ())) (fun k => k = zDl r nm) := by
 unfold xQ wE x5
 dsimp only
 have := hr.i2
 refine zC (zBG (p := fun x : Ty.El jJ => x.1 == nm) (by omega) ?_ (zB rfl))
 intro i x hx
 simp only [zJ hx, Option.bind_some]
 cases x.1 == nm <;> rfl
theorem zFO (r : Ty.El zH) (nm : Ty.El .str) (hr : SmR r) : Wp (jI (r, nm, ())) (fun k => k = zDl r nm) := by
 unfold jI
 dsimp only
 have := hr.i2
 refine zBG (p := fun x : Ty.El jJ => x.1 == nm) (by omega) ?_ rfl
 intro i x hx
 simp only [zJ hx, Option.bind_some]
 cases x.1 == nm <;> rfl
def zDm (r : Ty.El zH) (nm : Ty.El .str) (p : Ty.El zF) : Bool :=
 bif nm == ({ data := #[] } : ByteArray) then true else
 bif decide (zDl r nm < 0) then false else
 match r.2.2.2.1[(zDl r nm).toNat]? with
 | some l => bif decide (zBE (fun x => prB x p) l.2.1 ≥ 0) then (match l.2.1[(zBE (fun x => prB x p) l.2.1).toNat]? with
  | some z => z.1
  | none => false) else false
 | none => false
theorem zB8 (r : Ty.El zH) (nm : Ty.El .str) (p : Ty.El zF) (hr : SmR r) : Wp (yU (r, nm, p, ())) (fun b => b = zDm r nm p) := by
 unfold yU zDm
 dsimp only
 refine zG (fun h => zB (by rw [h]; rfl)) (fun h => ?_)
 rw [h]
 refine zC ((zFn r nm hr).mono (fun k hk => ?_))
 subst hk
 refine zI (fun h1 => zB ?_) (fun h1 => ?_)
 ·have h1 : zDl r nm < 0 := h1
  simp [h1]
 ·have h1 : ¬ zDl r nm < 0 := h1
  obtain ⟨l, hl, _⟩ := zDt (p := fun x : Ty.El jJ => x.1 == nm) (xs := r.2.2.2.1) (show 0 ≤ zDl r nm by omega)
  have hl : r.2.2.2.1[(zDl r nm).toNat]? = some l := hl
  simp only [jH hl (show 0 ≤ zDl r nm by omega), Option.bind_some]
  refine zC ((zIS l p (hr.n1 l (List.mem_of_getElem? hl))).mono (fun k hk => ?_))
  subst hk
  rw [hl]
  simp only [decide_eq_false h1, cond_false]
  refine zC (zI (fun h2 => ?_) (fun h2 => zB (zB ?_)))
  ·have h2 : zBE (fun x => prB x p) l.2.1 ≥ 0 := h2
   obtain ⟨z, hz, _⟩ := zDt h2
   simp only [jH hz h2, Option.bind_some]
   refine zB (zB ?_)
   simp only [hz, decide_eq_true h2, cond_true]
  ·have h2 : ¬ zBE (fun x => prB x p) l.2.1 ≥ 0 := h2
   simp only [decide_eq_false h2, cond_false]
theorem zAC (r : Ty.El zH) (nm : Ty.El .str) (p : Ty.El zF) (hr : SmR r) : Wp (vE (r, nm, p, ())) (fun b => b = zDm r nm p) := by
 unfold vE zDm
 dsimp only
 refine zG (fun h => zB (by rw [h]; rfl)) (fun h => ?_)
 rw [h]
 refine zC ((zFO r nm hr).mono (fun k hk => ?_))
 subst hk
 refine zI (fun h1 => zB ?_) (fun h1 => ?_)
 ·have h1 : zDl r nm < 0 := h1
  simp [h1]
 ·have h1 : ¬ zDl r nm < 0 := h1
  obtain ⟨l, hl, _⟩ := zDt (p := fun x : Ty.El jJ => x.1 == nm) (xs := r.2.2.2.1) (show 0 ≤ zDl r nm by omega)
  have hl : r.2.2.2.1[(zDl r nm).toNat]? = some l := hl
  simp only [jH hl (show 0 ≤ zDl r nm by omega), Option.bind_some]
  refine zC ((zFm l p (hr.n1 l (List.mem_of_getElem? hl))).mono (fun k hk => ?_))
  subst hk
  rw [hl]
  simp only [decide_eq_false h1, cond_false]
  refine zC (zI (fun h2 => ?_) (fun h2 => zB (zB ?_)))
  ·have h2 : zBE (fun x => prB x p) l.2.1 ≥ 0 := h2
   obtain ⟨z, hz, _⟩ := zDt h2
   simp only [jH hz h2, Option.bind_some]
   refine zB (zB ?_)
   simp only [hz, decide_eq_true h2, cond_true]
  ·have h2 : ¬ zBE (fun x => prB x p) l.2.1 ≥ 0 := h2
   simp only [decide_eq_false h2, cond_false]
end Go.Ve

namespace Go.Ve
open Go
theorem yI (v : Ty.El zS) (r i : Nat) (rt : Ty.El zH) (x : Ty.El qA) (hr : v.1.1[r]? = some rt) (hx : rt.2.2.1[i]? = some x) :
  Wp (j6 (v, (r : Int), (i : Int), ())) (fun y => y = (x, true, ())) := by
 unfold j6
 dsimp only
 have hrl := (List.getElem?_eq_some_iff.1 hr).1
 have hil := (List.getElem?_eq_some_iff.1 hx).1
 have q0 : ¬ ((r : Int) < 0) := by omega
 have q1 : ¬ ((r : Int) ≥ (List.length v.1.1 : Int)) := by omega
 have q2 : ¬ ((i : Int) < 0) := by omega
 refine zC ((show Wp _ (fun s : Bool => s = false) from ?_).mono (fun s hs => ?_))
 ·refine zI (fun h => absurd h q0) (fun _ => zI (fun h => absurd h q1) (fun _ => zI (fun h => absurd h q2) (fun _ => ?_)))
  simp only [zJ hr, Option.bind_some]
  refine zB ?_
  have : ¬ ((i : Int) ≥ (List.length rt.2.2.1 : Int)) := by omega
  exact decide_eq_false this
 ·subst hs
  simp only [cond_false, zJ hr, zJ hx, Option.bind_some]
  exact zB rfl
def wQ (v : Ty.El zS) (rt : Ty.El zH) (x : Ty.El qA) (r i : Int) : Bool := rt.2.2.2.2.2.2.2.2.2.1.1 && (x.2.2.2.2.2.2.2.2.1 && upB v r i)
theorem vP (v : Ty.El zS) (r i : Nat) (rt : Ty.El zH) (x : Ty.El qA) (hv : zAM v) (hr : v.1.1[r]? = some rt) (hx : rt.2.2.1[i]? = some x) :
  Wp (jX (v, (r : Int), (i : Int), ())) (fun b => b = wQ v rt x r i) := by
 unfold jX wQ
 dsimp only
 refine zC ((yI v r i rt x hr hx).mono (fun y hy => ?_))
 subst hy
 simp only [cond_true, zJ hr, Option.bind_some]
 refine zC ?_
 refine zG (fun h => ?_) (fun h => zB (zB ?_))
 ·rw [h]
  refine zG (fun h => ?_) (fun h => zB (zB ?_))
  ·rw [h]
   exact zC ((zIP v r i hv).mono (fun b hb => zB (zB (by rw [hb]; rfl))))
  ·rw [h]; rfl
 ·rw [h]; rfl
def zKi (rt from' : Ty.El zH) (y : Ty.El qA) (i : Int) (x : Ty.El zA) : Option (Ty.El zA) :=
 bif decide (x.2.2.2.2.1 < 15) && (zDm from' from'.2.2.2.2.2.2.2.2.2.1.2.2.2.1 x.1 && zDm rt rt.2.2.2.2.2.2.2.2.2.1.2.2.1 x.1) then
  some (x.1, (4 : Int), (3 : Int), rt.2.2.2.2.2.2.2.2.2.1.2.1, IntKind.wrap IntKind.i64 (x.2.2.2.2.1 + (1 : Int)), (0 : Int), x.2.2.2.2.2.2.1, (0 : Int), [], (0 : Int), (0 : Int), [(i, y.2.1, ())], false, ())
 else none
theorem zDQ (v : Ty.El zS) (t : List (Ty.El zA)) (r q k : Nat) (i : Int) (rt from' : Ty.El zH) (y : Ty.El qA) (hr : v.1.1[r]? = some rt) (hq : v.1.1[q]? = some from') (hy : from'.2.2.1[k]? = some y)
  (h1 : SmR rt) (h2 : SmR from') (hl : t.length ≤ 12) :
  Wp (u5 (v, t, (r : Int), i, ((q : Int), (k : Int), ()), ())) (fun l => l = t.filterMap (zKi rt from' y i)) := by
 unfold u5
 dsimp only
 simp only [zJ hr, zJ hq, Option.bind_some]
 refine zC ((yI v q k from' y hq hy).mono (fun z hz => ?_))
 subst hz
 refine zC (vM (xs := t) (by omega) (fun j (g : List (Ty.El zA)) => g = (t.take j).filterMap (zKi rt from' y i)) (by simp) ?_ (fun g hg => zB (by rw [hg, List.take_length])))
 intro j x g hx hg
 have hgl : g.length ≤ 12 := by rw [hg]; exact Nat.le_trans (List.length_filterMap_le _ _) (Nat.le_trans (List.length_take_le' _ _) hl)
 simp only [zJ hx, Option.bind_some]
 rw [zCS hx, ← hg]
 refine zC ((show Wp _ (fun s : Bool × List (Ty.El zA) => s.1 = !(decide (x.2.2.2.2.1 < 15) && (zDm from' from'.2.2.2.2.2.2.2.2.2.1.2.2.2.1 x.1 && zDm rt rt.2.2.2.2.2.2.2.2.2.1.2.2.1 x.1)) ∧ s.2 = g) from ?_).mono (fun s hs => ?_))
 ·refine zI (fun h => zB ⟨?_, rfl⟩) (fun h => ?_)
  ·have h : ¬ x.2.2.2.2.1 < 15 := Int.not_lt.2 h
   rw [decide_eq_false h]; rfl
  ·have h : x.2.2.2.2.1 < 15 := Int.not_le.1 h
   rw [decide_eq_true h]
   refine zC ((zB8 from' _ _ h2).mono (fun b hb => ?_))
   refine zG (fun hb' => zB ⟨?_, rfl⟩) (fun hb' => ?_)
   ·have hb' : b = false := by simpa using hb'
    rw [← hb, hb']; rfl
   ·have hb' : b = true := by simpa using hb'
    rw [← hb, hb']
    refine zC ((zB8 rt _ _ h1).mono (fun c hc => zB ⟨?_, rfl⟩))
    rw [hc]; rfl
 ·obtain ⟨s1, s2⟩ := s
  obtain ⟨g1, g2⟩ := hs
  simp only at g1 g2
  subst g2
  unfold zKi
  refine zG (fun h => zB ?_) (fun h => ?_)
  ·have h : s1 = true := h
   rw [h] at g1
   have g1 := (Bool.not_eq_eq_eq_not).1 g1.symm
   rw [g1]; simp
  ·have h : s1 = false := h
   rw [h] at g1
   have g1 := (Bool.not_eq_eq_eq_not).1 g1.symm
   rw [g1]
   exact zC (wL (by simp only [List.length_singleton]; omega) (zB rfl))
end Go.Ve

namespace Go.Ve
open Go
def zFX (v : Ty.El zS) (dv : List (List (Ty.El zA))) (rt : Ty.El zH) (i : Int) (e : Ty.El zK) : List (Ty.El zA) :=
 match v.1.1[Int.toNat e.1]? with
 | some q => match q.2.2.1[Int.toNat e.2.1]?, dv[Int.toNat e.1]? with
  | some y, some t => bif wQ v q y e.1 e.2.1 then t.filterMap (zKi rt q y i) else []
  | _, _ => []
 | none => []
def zFo (v : Ty.El zS) (dv : List (List (Ty.El zA))) (r : Int) (rt : Ty.El zH) (i : Nat) : List (Ty.El zA) :=
 match rt.2.2.1[i]? with
 | some x => bif wQ v rt x r i then (zF5 v r i (fun e => e.1 != r || e.2.1 != (i : Int))).flatMap (zFX v dv rt i) else []
 | none => []
def zDC (v : Ty.El zS) (dv : List (List (Ty.El zA))) (r : Int) (rt : Ty.El zH) : List (Ty.El zA) := (List.range rt.2.2.1.length).flatMap (zFo v dv r rt)
theorem uT {α β : Type} {f : α → List β} {k : Nat} : ∀ {xs : List α}, (∀ x, x ∈ xs → (f x).length ≤ k) → (xs.flatMap f).length ≤ xs.length * k
 | [], _ => by simp
 | x :: xs, h => by
  have h1 := h x (by simp)
  have h2 := uT (xs := xs) (fun y hy => h y (List.mem_cons_of_mem _ hy))
  simp only [List.flatMap_cons, List.length_append, List.length_cons, Nat.succ_mul]
  omega
theorem zEL {α β : Type} {f : α → List β} {xs : List α} {i : Nat} {x : α} (h : xs[i]? = some x) : (xs.take (i + 1)).flatMap f = (xs.take i).flatMap f ++ f x := by
 rw [List.take_add_one, h, List.flatMap_append]
 simp
theorem zMR {v : Ty.El zS} {dv : List (List (Ty.El zA))} {rt : Ty.El zH} {i : Int} {e : Ty.El zK} (h : ∀ t, t ∈ dv → t.length ≤ 12) : (zFX v dv rt i e).length ≤ 12 := by
 unfold zFX
 split
 ·split
  ·rename_i q _ _ _ y t _ ht
   cases wQ v q y e.1 e.2.1
   ·exact Nat.zero_le _
   ·exact Nat.le_trans (List.length_filterMap_le _ _) (h t (List.mem_of_getElem? ht))
  ·exact Nat.zero_le _
 ·exact Nat.zero_le _
theorem zNe {v : Ty.El zS} (hv : zAM v) (r i : Int) (p : Ty.El zK → Bool) : (zF5 v r i p).length ≤ 360 := by
 unfold zF5
 cases upB v r i
 ·exact Nat.zero_le _
 ·exact Nat.le_trans (List.length_filter_le _ _) (zNK hv r i)
theorem zMQ {v : Ty.El zS} (hv : zAM v) {dv : List (List (Ty.El zA))} {r : Int} {rt : Ty.El zH} {i : Nat} (h : ∀ t, t ∈ dv → t.length ≤ 12) : (zFo v dv r rt i).length ≤ 4320 := by
 unfold zFo
 split
 ·rename_i x _
  cases wQ v rt x r i
  ·exact Nat.zero_le _
  ·have h1 := zNe hv r i (fun e => e.1 != r || e.2.1 != (i : Int))
   have h2 := uT (xs := zF5 v r i (fun e => e.1 != r || e.2.1 != (i : Int))) (f := zFX v dv rt i) (k := 12) (fun e _ => zMR h)
   show (List.flatMap _ _).length ≤ _
   omega
 ·exact Nat.zero_le _
theorem zAa (v : Ty.El zS) (hs : zAM v) (hE : ∀ (r i : Int) (e : Ty.El zK), upB v r i = true → e ∈ xD v r i → (0 : Int) ≤ e.1 ∧ (0 : Int) ≤ e.2.1 ∧ ∃ q y, v.1.1[Int.toNat e.1]? = some q ∧ q.2.2.1[Int.toNat e.2.1]? = some y) (dv : List (List (Ty.El zA))) (hdv : dv.length = v.1.1.length) (h12 : ∀ t, t ∈ dv → t.length ≤ 12) (r : Nat) (rt : Ty.El zH) (hr : v.1.1[r]? = some rt) :
  Wp (wG (v, dv, (r : Int), ())) (fun l => l = zDC v dv r rt) := by
 unfold wG
 dsimp only
 have hrl := (List.getElem?_eq_some_iff.1 hr).1
 have hsm := hs.sm rt (List.mem_of_getElem? hr)
 have hil : rt.2.2.1.length ≤ 20 := hsm.i1
 have q0 : ¬ ((r : Int) < 0) := by omega
 have q1 : ¬ ((r : Int) ≥ (List.length v.1.1 : Int)) := by omega
 refine zC (zI (fun h => absurd h q0) (fun _ => zB ?_))
 refine zI (fun h => absurd h q1) (fun _ => ?_)
 simp only [zJ hr, Option.bind_some]
 have hfl : ∀ i, ((List.range i).flatMap (zFo v dv r rt)).length ≤ i * 4320 := fun i => by
  have := uT (xs := List.range i) (f := zFo v dv r rt) (k := 4320) (fun e _ => zMQ hs h12)
  rwa [List.length_range] at this
 refine zC (vM (xs := rt.2.2.1) (by omega) (fun i (g : List (Ty.El zA)) => g = (List.range i).flatMap (zFo v dv r rt)) rfl ?_ (fun g hg => zB hg))
 intro i x g hx hg
 have hi := (List.getElem?_eq_some_iff.1 hx).1
 have hgl : g.length ≤ i * 4320 := by rw [hg]; exact hfl i
 have jD : (List.range (i + 1)).flatMap (zFo v dv r rt) = g ++ zFo v dv r rt i := by
  rw [List.range_succ, List.flatMap_append, ← hg]
  simp
 rw [jD]
 have hI : zFo v dv r rt i = bif wQ v rt x r i then (zF5 v r i (fun e => e.1 != (r : Int) || e.2.1 != (i : Int))).flatMap (zFX v dv rt i) else [] := by unfold zFo; rw [hx]
 rw [hI]
 refine zC ((vP v r i rt x hs hr hx).mono (fun b hb => ?_))
 subst hb
 refine zG (fun h => zB ?_) (fun h => ?_)
 ·have h : wQ v rt x r i = false := by simpa using h
  rw [h]; simp
 have h : wQ v rt x r i = true := by simpa using h
 rw [h]
 refine zC ((zGX v r i hs).mono (fun ns hns => ?_))
 have hnl : ns.length ≤ 360 := by rw [hns]; exact zNe hs _ _ _
 have hup : upB v r i = true := by
  unfold wQ at h
  simp only [Bool.and_eq_true] at h
  exact h.2.2
 have hmem : ∀ e, e ∈ ns → e ∈ xD v r i := by
  intro e he
  rw [hns] at he
  unfold zF5 at he
  rw [hup] at he
  exact (List.mem_filter.1 he).1
 refine (vM (xs := ns) (by omega) (fun j (g' : List (Ty.El zA)) => g' = g ++ (ns.take j).flatMap (zFX v dv rt i)) (by simp) ?_ (fun g' hg' => by rw [hg', List.take_length, hns]; rfl))
 intro j e g' he hg'
 have hj := (List.getElem?_eq_some_iff.1 he).1
 have hg'l : g'.length ≤ i * 4320 + 4320 := by
  have h2 := uT (xs := ns.take j) (f := zFX v dv rt i) (k := 12) (fun e _ => zMR h12)
  have h3 := List.length_take_le' j ns
  rw [hg', List.length_append]
  omega
 simp only [zJ he, Option.bind_some]
 rw [zEL he, ← List.append_assoc, ← hg']
 obtain ⟨b0, b1, q, y, b2, b3⟩ := hE _ _ e hup (hmem e (List.mem_of_getElem? he))
 obtain ⟨e1, e2, ⟨⟩⟩ := e
 obtain ⟨qn, rfl⟩ := Int.eq_ofNat_of_zero_le (show (0 : Int) ≤ e1 from b0)
 obtain ⟨kn, rfl⟩ := Int.eq_ofNat_of_zero_le (show (0 : Int) ≤ e2 from b1)
 have b2 : v.1.1[qn]? = some q := b2
 have b3 : q.2.2.1[kn]? = some y := b3
 have c2 : v.1.1[qn]? = some q := b2
 have hql := (List.getElem?_eq_some_iff.1 b2).1
 have hqd : qn < dv.length := by omega
 have ht : dv[qn]? = some dv[qn] := by simp [hqd]
 have hE : zFX v dv rt i ((qn : Int), (kn : Int), ()) = bif wQ v q y qn kn then dv[qn].filterMap (zKi rt q y i) else [] := by
  unfold zFX
  simp only [Int.toNat_natCast, c2, b3, ht]
 rw [hE]
 refine zC ((show Wp _ (fun s : Bool × List (Ty.El zA) => s.1 = wQ v q y qn kn ∧ s.2 = g') from ?_).mono (fun s hs' => ?_))
 ·refine zC ((vP v qn kn q y hs c2 b3).mono (fun b hb => ?_))
  subst hb
  refine zG (fun hb => zB ⟨?_, rfl⟩) (fun hb => zB ⟨?_, rfl⟩)
  ·rw [hb]
   have : ((qn : Int) < (dv.length : Int)) := by omega
   exact decide_eq_true this
  ·rw [hb]
 ·obtain ⟨s1, s2⟩ := s
  obtain ⟨k1, k2⟩ := hs'
  simp only at k1 k2
  subst k2
  refine zG (fun hb => ?_) (fun hb => zB ?_)
  ·have hb : s1 = true := hb
   rw [← k1, hb]
   simp only [zJ ht, Option.bind_some]
   have h12' := h12 dv[qn] (List.getElem_mem _)
   refine zC ((zDQ v dv[qn] r qn kn i rt q y hr c2 b3 hsm (hs.sm q (List.mem_of_getElem? c2)) h12').mono (fun l hl => ?_))
   subst hl
   have := Nat.le_trans (List.length_filterMap_le (zKi rt q y i) dv[qn]) h12'
   exact zC (wL (by omega) (zB rfl))
  ·have hb : s1 = false := hb
   rw [← k1, hb]; simp
theorem zDR (n : Ty.El zT) (d : List Int) (v : Ty.El zS) (hv : x8 n d v) (dv : List (List (Ty.El zA))) (hdv : dv.length = n.1.length) (h12 : ∀ t, t ∈ dv → t.length ≤ 12) (r : Nat) (rt : Ty.El zH) (hr : v.1.1[r]? = some rt) :
  Wp (wG (v, dv, (r : Int), ())) (fun l => l = zDC v dv r rt) := by
 refine zAa v hv.s ?_ dv (by rw [hv.net]; exact hdv) h12 r rt hr
 intro r i e hup he
 obtain ⟨dm, _, hall⟩ := zTs hv hup
 obtain ⟨b0, b1, q, y, b2, b3, _⟩ := hall e he
 exact ⟨b0, b1, q, y, by rw [hv.net]; exact b2, b3⟩
end Go.Ve

namespace Go.Ve
open Go
set_option maxRecDepth 1000000
set_option maxHeartbeats 4000000
structure zEX (l : List (Ty.El zA)) (proto : Int) : Prop where
 val : ∀ x, x ∈ l → w7 (x, ()) = some true
 pr : proto ≠ 0 → ∀ x, x ∈ l → x.2.1 = proto
 so : ∀ i x y, l[i]? = some x → l[i + 1]? = some y → rlt x y
theorem zPv (l : List (Ty.El zA)) (proto : Int) (hl : l.length ≤ 1048576) (hs : ∀ y, y ∈ l → RtS y) : Wp (zBQ (l, proto, ())) (fun b => b = true → zEX l proto) := by
 unfold zBQ
 dsimp only
 refine zAQ (by omega) (fun i => ∀ m x, m < i → l[m]? = some x → w7 (x, ()) = some true ∧ (proto ≠ 0 → x.2.1 = proto) ∧ (∀ j y, m = j + 1 → l[j]? = some y → rlt y x)) (fun m x hm => by omega) ?_ (fun hj => zB (fun _ => ?_))
 ·intro i x hx hj
  have hi := (List.getElem?_eq_some_iff.1 hx).1
  simp only [zJ hx, Option.bind_some]
  have hcmp : (i : Int) > 0 → Wp (Option.bind (idx l (IntKind.wrap IntKind.i64 ((i : Int) - (1 : Int)))) fun (y44 : Ty.El zA) => Option.bind (wV (y44.1, x.1, ())) fun (y46 : Int) => some (decide (y46 ≥ (0 : Int)))) (fun s => s = false → ∀ j y, i = j + 1 → l[j]? = some y → rlt y x) := by
   intro h0
   rw [zD (by omega) (by omega), show ((i : Int) - 1) = ((i - 1 : Nat) : Int) by omega]
   obtain ⟨yy, hy⟩ : ∃ yy, l[i - 1]? = some yy := ⟨l[i - 1]'(by omega), by simp⟩
   refine zC (qD (zJ hy) (zC (qD (zAV _ _) (zB ?_))))
   intro h j y hji hyj
   rw [show i - 1 = j by omega] at hy
   rw [hy] at hyj
   cases hyj
   have h := of_decide_eq_false h
   exact zJV.1 (Int.not_le.1 h)
  refine zC ((show Wp _ (fun s : Bool => s = false → w7 (x, ()) = some true ∧ (proto ≠ 0 → x.2.1 = proto) ∧ (∀ j y, i = j + 1 → l[j]? = some y → rlt y x)) from ?_).mono (fun s hs' => ?_))
  ·refine yP ((zLB x (hs x (List.mem_of_getElem? hx))).mono (fun _ _ => trivial)) (fun b hb => zG (fun _ => zB (fun h => by cases h)) (fun hb' => ?_))
   have hv : w7 (x, ()) = some true := by
    rw [hb]
    have h : (!b) = false := hb'
    cases b
    ·cases h
    ·rfl
   refine zG (fun hp => zG (fun _ => zB (fun h => by cases h)) (fun hpe => ?_)) (fun hp => ?_)
   ·have hpe : x.2.1 = proto := by simpa using hpe
    refine zI (fun h => (hcmp h).mono (fun s h2 h3 => ⟨hv, fun _ => hpe, h2 h3⟩)) (fun h => zB (fun _ => ⟨hv, fun _ => hpe, fun j y hj' => ?_⟩))
    omega
   ·have hp : proto = 0 := by simpa using hp
    refine zI (fun h => (hcmp h).mono (fun s h2 h3 => ⟨hv, fun hh => absurd hp hh, h2 h3⟩)) (fun h => zB (fun _ => ⟨hv, fun hh => absurd hp hh, fun j y hj' => ?_⟩))
    omega
  ·refine zG (fun _ => zB (fun h => by cases h)) (fun h => zB (e2l ⟨rfl, ?_⟩))
   intro m z hm hz
   rcases Nat.lt_or_ge m i with h' | h'
   ·exact hj m z h' hz
   ·have : m = i := by omega
    subst this
    rw [hx] at hz
    cases hz
    exact hs' h
 ·have hall : ∀ m x, l[m]? = some x → _ := fun m x hx => hj m x (List.getElem?_eq_some_iff.1 hx).1 hx
  refine ⟨fun x hx => ?_, fun hp x hx => ?_, fun i x y hx hy => (hall (i + 1) y hy).2.2 i x rfl hx⟩
  ·obtain ⟨m, hm, rfl⟩ := List.getElem_of_mem hx
   exact (hall m _ (by simp [hm])).1
  ·obtain ⟨m, hm, rfl⟩ := List.getElem_of_mem hx
   exact (hall m _ (by simp [hm])).2.1 hp
structure DvR (x : Ty.El zA) : Prop where
 pre : zHE x.1 = true
 tag : 0 ≤ x.2.2.2.2.2.2.1 ∧ x.2.2.2.2.2.2.1 ≤ 65535
 met : 1 ≤ x.2.2.2.2.1 ∧ x.2.2.2.2.1 ≤ 15
 path : x.2.2.2.2.2.2.2.2.1 = []
theorem zVi (x : Ty.El zA) (c : Bool) : Wp (w6 (x, false, false, c, ())) (fun b => b = true → x.2.2.2.2.2.2.2.2.1 = []) := by
 unfold w6
 dsimp only
 refine zC (zG (fun h => by cases h) (fun _ => zG (fun _ => zG (fun h => by cases h) (fun _ => zG (fun _ => zG (fun hp => ?_) (fun _ => ?_)) (fun _ => ?_))) (fun _ => ?_)))
 ·have hp : x.2.2.2.2.2.2.2.2.1 = [] := by
   have : (x.2.2.2.2.2.2.2.2.1.length : Int) = 0 := by simpa using hp
   exact List.length_eq_zero_iff.1 (by omega)
  repeat' (first
   | exact zB (zB (fun _ => hp))
   | refine zG (fun _ => ?_) (fun _ => ?_))
 all_goals exact zB (zB (fun h => by cases h))
theorem zTC (x : Ty.El zA) (hs : RtS x) (h4 : x.2.1 = 4) : Wp (w7 (x, ())) (fun b => b = true → DvR x) := by
 unfold w7
 dsimp only
 refine zC ((show Wp _ (fun s : Bool => s = false → zHE x.1 = true ∧ (0 ≤ x.2.2.2.2.2.2.1 ∧ x.2.2.2.2.2.2.1 ≤ 65535) ∧ x.2.2.2.2.2.2.2.2.1.length ≤ 64) from ?_).mono (fun s hs' => ?_))
 ·refine zC (qD (zE0 _) (zG (fun _ => zB (fun h => by cases h)) (fun h1 => zC (qD (yH _ _ _) (zG (fun _ => zB (fun h => by cases h)) (fun h2 => zB (fun h3 => ⟨by simpa using h1, by simpa using h2, ?_⟩)))))))
  have := of_decide_eq_false h3
  omega
 refine zG (fun _ => zB (fun h => by cases h)) (fun h => ?_)
 obtain ⟨g1, g2, g3⟩ := hs' h
 refine zCu (P := fun _ => True) (by omega) ?_ (fun _ => ?_)
 ·intro i y hy
  simp only [zJ hy, Option.bind_some]
  exact zC (qD (yH _ _ _) (zG (fun _ => zB (fun h => by cases h)) (fun _ => zB (e2l ⟨rfl, trivial⟩))))
 ·have k1 : (x.2.1 == (1 : Int)) = false := by rw [h4]; rfl
  have k2 : (x.2.1 == (2 : Int)) = false := by rw [h4]; rfl
  have k3 : (x.2.1 == (3 : Int)) = false := by rw [h4]; rfl
  have k4 : (x.2.1 == (4 : Int)) = true := by rw [h4]; rfl
  rw [k1, k2, k3, k4]
  simp only [cond_false, cond_true]
  refine zC (Wp.mono (Q := fun b => b = true → DvR x) ?_ (fun b hb => zB hb))
  unfold wS
  dsimp only
  refine zC ((show Wp _ (fun s : Bool => s = false → (1 ≤ x.2.2.2.2.1 ∧ x.2.2.2.2.1 ≤ 15) ∧ x.2.2.2.2.2.2.2.2.1 = []) from ?_).mono (fun s hs2 => ?_))
  ·refine zC (qD (yH _ _ _) (zG (fun _ => zB (fun h => by cases h)) (fun _ => ?_)))
   refine zC (qD (yH _ _ _) (zG (fun _ => zB (fun h => by cases h)) (fun h2 => ?_)))
   refine zC ((zVi x false).mono (fun b hb => zG (fun _ => zB (fun h => by cases h)) (fun h3 => zB (fun _ => ?_))))
   exact ⟨by simpa using h2, hb (by simpa using h3)⟩
  refine zG (fun _ => zB (fun h => by cases h)) (fun h5 => ?_)
  obtain ⟨g4, g5⟩ := hs2 h5
  have fin : DvR x := ⟨g1, g2, g4, g5⟩
  have hh := hs.hops
  have hho : ∀ d, Wp (vG (x.2.2.2.2.2.2.2.2.2.2.2.1, d, ())) (fun _ => True) := fun d => k6 _ _ hh
  repeat' (first
   | exact zB (fun _ => fin)
   | refine zC ((hho _).mono (fun _ _ => ?_))
   | refine zC (Wp.mono (Q := fun _ => True) ?_ (fun _ _ => zB (fun _ => fin)))
   | exact zB trivial
   | refine zG (fun _ => ?_) (fun _ => ?_))
end Go.Ve

namespace Go.Ve
open Go
structure zUq (m : Nat) (dv : List (List (Ty.El zA))) : Prop where
 len : dv.length = m
 one : ∀ t, t ∈ dv → t.length ≤ 12 ∧ zEX t 4 ∧ ∀ x, x ∈ t → DvR x
theorem zVj (v : Ty.El zS) (dv : List (List (Ty.El zA))) (hs : ∀ t, t ∈ dv → ∀ y, y ∈ t → RtS y) (hl : v.1.1.length ≤ 9) : Wp (zDp (v, dv, ())) (fun b => b = true → zUq v.1.1.length dv) := by
 unfold zDp
 dsimp only
 refine zG (fun _ => zB (fun h => by cases h)) (fun h => ?_)
 have hlen : dv.length = v.1.1.length := by
  have h' : ((List.length dv : Int) == (List.length v.1.1 : Int)) = true := by simpa using h
  have := (beq_iff_eq).1 h'
  omega
 refine zAQ (by omega) (fun i => ∀ m t, m < i → dv[m]? = some t → t.length ≤ 12 ∧ zEX t 4 ∧ ∀ x, x ∈ t → DvR x) (fun m t hm => by omega) ?_ (fun hj => zB (fun _ => ⟨hlen, fun t ht => ?_⟩))
 ·intro i t ht hj
  have hst := hs t (List.mem_of_getElem? ht)
  simp only [zJ ht, Option.bind_some]
  refine zC ((show Wp _ (fun s : Bool => s = false → t.length ≤ 12 ∧ zEX t 4 ∧ ∀ x, x ∈ t → DvR x) from ?_).mono (fun s hs' => ?_))
  ·refine zI (fun _ => zB (fun h => by cases h)) (fun h => ?_)
   have h12 : t.length ≤ 12 := by
    have : ¬ ((List.length t : Int) > 12) := h
    omega
   refine zC ((zPv t 4 (by omega) hst).mono (fun b hb => zB (fun h => ?_)))
   have htab := hb (by simpa using h)
   refine ⟨h12, htab, fun x hx => ?_⟩
   have hx4 := htab.pr (by decide) x hx
   obtain ⟨b', hb1, hb2⟩ := zTC x (hst x hx) hx4
   rw [htab.val x hx] at hb1
   exact hb2 (Option.some.inj hb1).symm
  ·refine zG (fun _ => zB ?_) (fun h => zB ?_)
   ·exact fun h => by cases h
   ·have h : s = false := h
    refine ⟨rfl, ?_⟩
    intro m t' hm ht'
    by_cases hmi : m = i
    ·subst hmi
     rw [ht] at ht'
     cases ht'
     exact hs' h
    ·exact hj m t' (by omega) ht'
 ·obtain ⟨m, hm, hme⟩ := List.getElem_of_mem ht
  exact hj m t hm (by rw [List.getElem?_eq_getElem hm, hme])
end Go.Ve

namespace Go.Ve
open Go
theorem zOi (v : Ty.El zS) (e : Ty.El zK) (q : Ty.El zH) (y : Ty.El qA) (h0 : (0 : Int) ≤ e.1) (h1 : (0 : Int) ≤ e.2.1) (hq : v.1.1[Int.toNat e.1]? = some q) (hy : q.2.2.1[Int.toNat e.2.1]? = some y) : Wp (zI2 (v, e, ())) (fun x => x = y) := by
 unfold zI2
 dsimp only
 simp only [jH hq h0, jH hy h1, Option.bind_some]
 exact zB rfl
end Go.Ve



namespace Go.Ve
open Go
theorem zWk {v : Ty.El zS} {dv : List (List (Ty.El zA))} {rt : Ty.El zH} {i : Int} {e : Ty.El zK} {x : Ty.El zA} (h : x ∈ zFX v dv rt i e) :
  ∃ q y t x0, v.1.1[Int.toNat e.1]? = some q ∧ q.2.2.1[Int.toNat e.2.1]? = some y ∧ dv[Int.toNat e.1]? = some t ∧ wQ v q y e.1 e.2.1 = true ∧ x0 ∈ t ∧ zKi rt q y i x0 = some x := by
 unfold zFX at h
 cases hq : v.1.1[Int.toNat e.1]? with
 | none => rw [hq] at h; cases h
 | some q =>
  rw [hq] at h
  simp only at h
  cases hy : q.2.2.1[Int.toNat e.2.1]? with
  | none => rw [hy] at h; cases h
  | some y =>
   cases ht : dv[Int.toNat e.1]? with
   | none => rw [hy, ht] at h; cases h
   | some t =>
    rw [hy, ht] at h
    simp only at h
    cases hp : wQ v q y e.1 e.2.1 with
    | false => rw [hp] at h; cases h
    | true =>
     rw [hp] at h
     obtain ⟨x0, h1, h2⟩ := List.mem_filterMap.1 h
     exact ⟨q, y, t, x0, rfl, hy, rfl, hp, h1, h2⟩
theorem zWj {v : Ty.El zS} {dv : List (List (Ty.El zA))} {r : Int} {rt : Ty.El zH} {x : Ty.El zA} (h : x ∈ zDC v dv r rt) :
  ∃ (i : Nat) (z : Ty.El qA) (e : Ty.El zK), rt.2.2.1[i]? = some z ∧ wQ v rt z r i = true ∧ e ∈ zF5 v r i (fun e => e.1 != r || e.2.1 != (i : Int)) ∧ x ∈ zFX v dv rt i e := by
 unfold zDC at h
 obtain ⟨i, _, hi⟩ := List.mem_flatMap.1 h
 unfold zFo at hi
 cases hz : rt.2.2.1[i]? with
 | none => rw [hz] at hi; cases hi
 | some z =>
  rw [hz] at hi
  simp only at hi
  cases hp : wQ v rt z r i with
  | false => rw [hp] at hi; cases hi
  | true =>
   rw [hp] at hi
   obtain ⟨e, h1, h2⟩ := List.mem_flatMap.1 hi
   exact ⟨i, z, e, hz, hp, h1, h2⟩
end Go.Ve



namespace Go.Ve
open Go
set_option maxRecDepth 1000000
set_option maxHeartbeats 4000000
theorem tt {α : Type} {c : Bool} {x y : Option α} {Q : α → Prop} (hc : c = true) (h : Wp x Q) : Wp (bif c then x else y) Q := by rw [hc]; exact h
theorem ff {α : Type} {c : Bool} {x y : Option α} {Q : α → Prop} (hc : c = false) (h : Wp y Q) : Wp (bif c then x else y) Q := by rw [hc]; exact h
end Go.Ve



namespace Go.Ve
open Go
set_option maxRecDepth 1000000
set_option maxHeartbeats 4000000
theorem zHn (l : List (Ty.El zA)) (hl : l.length ≤ 1048576) (hs : ∀ y, y ∈ l → RtB y) : kG (l, l, ()) = some true := by
 refine wD ?_
 unfold kG
 dsimp only
 refine ff (by simp) ?_
 refine zCu (P := fun _ => True) (by omega) ?_ (fun _ => zB rfl)
 intro i x hx
 simp only [zJ hx, Option.bind_some]
 refine zC ((zUC x x (hs x (List.mem_of_getElem? hx))).mono (fun b hb => ?_))
 rw [hb.2 rfl]
 exact zB (e2l ⟨rfl, trivial⟩)
theorem zIX (l : List (Ty.El zA)) (hl : l.length ≤ 1048576) (hs : ∀ y, y ∈ l → RtS y) : kG (l, l, ()) = some true := zHn l hl (fun y hy => (hs y hy).b)
end Go.Ve

namespace Go.Ve
open Go
def zWO {α : Type} (f : List V → Option (α × List V)) : List V → Option (List α)
 | [] => some []
 | e :: r => match f e.cells with
  | some (x, []) => match zWO f r with
   | some xs => some (x :: xs)
   | none => none
  | _ => none
def Ty.unc : (t : Ty) → List V → Option (t.El × List V)
 | .pair a b, cs => match a.unc cs with
  | some (x, r) => match b.unc r with
   | some (y, r) => some ((x, y), r)
   | none => none
  | none => none
 | .sl t, cs => match cs with
  | .sl es :: r => match zWO t.unc es with
   | some xs => some (xs, r)
   | none => none
  | cs => zHM t cs
 | .int k, cs => zEk k cs
 | .bool, cs => zCy cs
 | .str, cs => zEj cs
 | .unit, cs => some ((), cs)
 | .rf, cs => zHN cs
theorem zR2 {α : Type} {f : List V → Option (α × List V)} : ∀ {es : List V} {xs : List α}, zWO f es = some xs → es.length = xs.length ∧ ∀ (i : Nat) (x : α), xs[i]? = some x → ∃ e, es[i]? = some e ∧ f e.cells = some (x, [])
 | [], xs, h => by simp only [zWO, Option.some.injEq] at h; subst h; exact ⟨rfl, fun i x h => by simp at h⟩
 | e :: r, xs, h => by
  simp only [zWO] at h
  split at h
  ·rename_i x hx
   split at h
   ·rename_i xs' hxs
    simp only [Option.some.injEq] at h
    subst h
    obtain ⟨h1, h2⟩ := zR2 hxs
    refine ⟨by simp [h1], fun i y hy => ?_⟩
    cases i with
    | zero => simp only [List.getElem?_cons_zero, Option.some.injEq] at hy; subst hy; exact ⟨e, rfl, hx⟩
    | succ i => exact h2 i y (by simpa using hy)
   ·cases h
  ·cases h
theorem zXd {t : Ty} {es : List V} {xs : List t.El} (hl : es.length = xs.length) (h : ∀ (i : Nat) (e : V) (x : t.El), es[i]? = some e → xs[i]? = some x → wB e.cells (t.cells x)) : WkV (.sl es) (.tl t xs) := by
 intro w F v hr
 refine .tl t xs v ?_
 cases hr with
 | slemp a cap =>
  have : xs = [] := List.eq_nil_of_length_eq_zero hl.symm
  subst this
  exact .slemp a cap
 | sl b off cap k _ g hFb hcap hk hg hr =>
  have hel : es.length = (xs.map t.enc).length := by simpa using hl
  rw [hel] at hg hcap ⊢
  refine .sl b off cap k _ g hFb hcap ?_ hg ?_
  ·intro e he
   simp only [List.mem_map] at he
   obtain ⟨x, hx, rfl⟩ := he
   obtain ⟨j, hj⟩ := List.getElem?_of_mem hx
   have hjl : j < es.length := by rw [hl]; exact (List.getElem?_eq_some_iff.1 hj).1
   have h1 := (h j es[j] x (by simp [hjl]) hj).len
   rw [qN, ← h1]
   exact hk _ (List.getElem_mem hjl)
  ·intro i j e d hi hj
   simp only [List.getElem?_map, Option.map_eq_some_iff] at hi
   obtain ⟨x, hx, rfl⟩ := hi
   rw [qN] at hj
   have hil : i < es.length := by rw [hl]; exact (List.getElem?_eq_some_iff.1 hx).1
   have h1 := h i es[i] x (by simp [hil]) hx
   have hjl : j < (es[i]).cells.length := by rw [h1.len]; exact (List.getElem?_eq_some_iff.1 hj).1
   exact h1.get j _ d (List.getElem?_eq_getElem hjl) hj w F _ (hr i j es[i] _ (by simp [hil]) (List.getElem?_eq_getElem hjl))
theorem zOQ : ∀ (t : Ty) (cs : List V) (x : t.El) (r : List V), t.unc cs = some (x, r) → ∃ cs1, cs = cs1 ++ r ∧ wB cs1 (t.cells x) := by
 intro t
 induction t with
 | int k => exact fun cs x r h => q8 (.int k) cs x r h
 | bool => exact fun cs x r h => q8 .bool cs x r h
 | str => exact fun cs x r h => q8 .str cs x r h
 | unit => exact fun cs x r h => q8 .unit cs x r h
 | rf => exact fun cs x r h => q8 .rf cs x r h
 | pair a b iha ihb =>
  intro cs x r h
  simp only [Ty.unc] at h
  split at h
  ·rename_i xa r1 h1
   split at h
   ·rename_i xb r2 h2
    simp only [Option.some.injEq, Prod.mk.injEq] at h
    obtain ⟨rfl, rfl⟩ := h
    obtain ⟨c1, rfl, k1⟩ := iha cs xa r1 h1
    obtain ⟨c2, rfl, k2⟩ := ihb r1 xb r2 h2
    exact ⟨c1 ++ c2, by rw [List.append_assoc], k1.append k2⟩
   ·cases h
  ·cases h
 | sl t ih =>
  intro cs x r h
  simp only [Ty.unc] at h
  split at h
  ·rename_i es r'
   split at h
   ·rename_i xs hxs
    simp only [Option.some.injEq, Prod.mk.injEq] at h
    obtain ⟨rfl, rfl⟩ := h
    obtain ⟨h1, h2⟩ := zR2 hxs
    refine ⟨[.sl es], rfl, zXd h1 ?_, trivial⟩
    intro i e y he hy
    obtain ⟨e', he', hf⟩ := h2 i y hy
    rw [he] at he'
    simp only [Option.some.injEq] at he'
    subst he'
    obtain ⟨c1, hc, hw⟩ := ih e.cells y [] hf
    rw [List.append_nil] at hc
    rw [hc]; exact hw
   ·cases h
  ·exact q8 (.sl t) _ x r h
def Ty.decW (t : Ty) (d : V) : Option t.El :=
 match t with
 | .pair a b => match d with
  | .agg cs => match (Ty.pair a b).unc cs with
   | some (x, []) => some x
   | _ => none
  | _ => none
 | .unit => none
 | .sl t => match (Ty.sl t).unc [d] with
  | some (x, []) => some x
  | _ => none
 | .int k => (Ty.int k).dec d
 | .bool => Ty.bool.dec d
 | .str => Ty.str.dec d
 | .rf => Ty.rf.dec d
theorem zTy {t : Ty} {d : V} {x : t.El} (h : t.decW d = some x) : WkV d (t.enc x) := by
 cases t with
 | pair a b =>
  simp only [Ty.decW] at h
  split at h
  ·rename_i cs
   split at h
   ·rename_i x' hx
    simp only [Option.some.injEq] at h
    subst h
    obtain ⟨c1, h1, h2⟩ := zOQ (.pair a b) cs x' [] hx
    simp only [List.append_nil] at h1
    subst h1
    exact WkV.agg h2
   ·cases h
  ·cases h
 | unit => simp [Ty.decW] at h
 | sl t =>
  simp only [Ty.decW] at h
  split at h
  ·rename_i x' hx
   simp only [Option.some.injEq] at h
   subst h
   obtain ⟨c1, h1, h2⟩ := zOQ (.sl t) [d] x' [] hx
   rw [List.append_nil] at h1
   subst h1
   exact h2.1
  ·cases h
 | int k => exact vD h
 | bool => exact vD h
 | str => exact vD h
 | rf => exact vD h
def zFf : (ts : List Ty) → List V → Option (ElS ts)
 | [], [] => some ()
 | t :: ts, d :: ds => match t.decW d with
  | some x => match zFf ts ds with
   | some xs => some (x, xs)
   | none => none
  | none => none
 | _, _ => none
theorem zLr : ∀ (ts : List Ty) (ds : List V) (x : ElS ts), zFf ts ds = some x → wB ds (vN ts x)
 | [], [], _, _ => trivial
 | [], _ :: _, _, h => by simp [zFf] at h
 | _ :: _, [], _, h => by simp [zFf] at h
 | t :: ts, d :: ds, x, h => by
  simp only [zFf] at h
  split at h
  ·rename_i y hy
   split at h
   ·rename_i ys hys
    simp only [Option.some.injEq] at h
    subst h
    exact ⟨zTy hy, zLr ts ds ys hys⟩
   ·cases h
  ·cases h
theorem zPh {Γ : Sig} {P : Program} {G : Nat → Option (List V)} {f : FuncId} {ts : List Ty} {R : RTy} {g : ElS ts → Option R.El} (h : wC Γ P G f (qI (jQ ts R g))) : wC Γ P G f (qI (wM (zFf ts) R g)) := by
 intro w F O s args ds s' r hsig hG hF hlen hrd hspec
 simp only [qI, wM] at hspec
 cases hx : zFf ts ds with
 | none => rw [hx] at hspec; cases hspec
 | some x =>
  rw [hx] at hspec
  have hwk := zLr ts ds x hx
  refine h w F O s args (vN ts x) s' r hsig hG hF (hlen.trans hwk.len) ?_ ?_
  ·intro i u d hu hd
   have hlt : i < ds.length := by rw [hwk.len]; exact (List.getElem?_eq_some_iff.1 hd).1
   exact hwk.get i ds[i] d (by simp [hlt]) hd w F u (hrd i u ds[i] hu (by simp [hlt]))
  ·simp only [qI, jQ, wM, zCY]; exact hspec
end Go.Ve

namespace Go.Ve
open Go
def zRz {α : Type} (f : α → α → Bool) : List α → List α → Bool
 | [], [] => true
 | x :: xs, y :: ys => f x y && zRz f xs ys
 | _, _ => false
theorem zF8 {α : Type} {f : α → α → Bool} (hf : ∀ x y, f x y = true → x = y) : ∀ {xs ys : List α}, zRz f xs ys = true → xs = ys
 | [], [], _ => rfl
 | x :: xs, y :: ys, h => by
  simp only [zRz, Bool.and_eq_true] at h
  rw [hf x y h.1, zF8 hf h.2]
 | [], _ :: _, h => by cases h
 | _ :: _, [], h => by cases h
def Ty.eqb : (t : Ty) → t.El → t.El → Bool
 | .int _, a, b => decide (a = b)
 | .bool, a, b => match a, b with
  | true, true => true
  | false, false => true
  | _, _ => false
 | .str, a, b => zRz (fun (x y : UInt8) => Nat.beq x.toNat y.toNat) a.data.toList b.data.toList
 | .unit, _, _ => true
 | .pair s t, a, b => s.eqb a.1 b.1 && t.eqb a.2 b.2
 | .sl t, a, b => zRz t.eqb a b
 | .rf, _, _ => false
theorem zVb : ∀ (t : Ty) (a b : t.El), t.eqb a b = true → a = b := by
 intro t
 induction t with
 | int k => exact fun a b h => of_decide_eq_true h
 | bool =>
  intro a b h
  cases a <;> cases b <;> first | rfl | cases h
 | str =>
  intro a b h
  have h := zF8 (fun (x y : UInt8) h => UInt8.toNat_inj.1 (Nat.eq_of_beq_eq_true h)) h
  cases a; cases b
  simp only at h
  rw [Array.toList_inj.1 h]
 | unit => exact fun _ _ _ => rfl
 | pair s t ihs iht =>
  intro a b h
  simp only [Ty.eqb, Bool.and_eq_true] at h
  exact Prod.ext (ihs _ _ h.1) (iht _ _ h.2)
 | sl t ih => exact fun a b h => zF8 ih h
 | rf => exact fun _ _ h => by cases h
def eqS : (ts : List Ty) → ElS ts → ElS ts → Bool
 | [], _, _ => true
 | t :: ts, a, b => t.eqb a.1 b.1 && eqS ts a.2 b.2
theorem zPq : ∀ (ts : List Ty) (a b : ElS ts), eqS ts a b = true → a = b
 | [], _, _, _ => rfl
 | t :: ts, a, b, h => by
  simp only [eqS, Bool.and_eq_true] at h
  exact Prod.ext (zVb t _ _ h.1) (zPq ts _ _ h.2)
def atP (ts : List Ty) {α : Type} (x0 : ElS ts) (y0 : α) (f : ElS ts → Option α) : ElS ts → Option α := fun x => bif eqS ts x x0 then some y0 else f x
def noF {X α : Type} : X → Option α := fun _ => none
theorem zUd {Γ : Sig} {P : Program} {G : Nat → Option (List V)} {f : FuncId} {ts : List Ty} {R : RTy} {g h : ElS ts → Option R.El} (hg : wC Γ P G f (qI (jQ ts R g))) (hh : ∀ x y, h x = some y → g x = some y) :
  wC Γ P G f (qI (wM (zFf ts) R h)) := by
 refine zRJ (zPh hg) ?_
 intro s ds r hr
 simp only [qI, wM] at hr ⊢
 cases hx : zFf ts ds with
 | none => rw [hx] at hr; cases hr
 | some x =>
  rw [hx] at hr
  simp only [Option.map_eq_some_iff] at hr ⊢
  obtain ⟨y, hy, e⟩ := hr
  exact ⟨y, hh x y hy, e⟩
theorem zSj {ts : List Ty} {α : Type} {x0 : ElS ts} {y0 : α} {f g : ElS ts → Option α} (h0 : g x0 = some y0) (hf : ∀ x y, f x = some y → g x = some y) : ∀ x y, atP ts x0 y0 f x = some y → g x = some y := by
 intro x y h
 unfold atP at h
 cases he : eqS ts x x0 with
 | false => rw [he] at h; exact hf x y h
 | true =>
  rw [he] at h
  rw [zPq ts x x0 he, h0]
  exact h
theorem zUn {X α : Type} {g : X → Option α} : ∀ x y, noF (X := X) (α := α) x = some y → g x = some y := fun _ _ h => by cases h
end Go.Ve

namespace Go.Ve
open Go
def zLu (t : Ty) (ds : List V) : Option (t.El × List t.El) :=
 match zC9 [.sl t] ds with
 | some (y :: r, _) => some (y, r)
 | _ => none
theorem zLt {t : Ty} {ds : List V} {q : t.El × List t.El} (h : zLu t ds = some q) : wB ds [.tl t (q.1 :: q.2)] := by
 unfold zLu at h
 split at h
 ·rename_i y r u hd
  simp only [Option.some.injEq] at h
  subst h
  exact vI [.sl t] ds (y :: r, u) hd
 ·cases h
open Classical in
noncomputable def zFg (v : Value) (ds : List V) : Option Unit := if ds = [.val v] then some () else none
theorem zDu {v : Value} {ds : List V} {q : Unit} (h : zFg v ds = some q) : wB ds [.val v] := by
 unfold zFg at h
 split at h
 ·rename_i hd
  subst hd
  exact ⟨.refl _, trivial⟩
 ·cases h
theorem zRk {w : World} {F : Blk → Prop} {v : Value} {t : Ty} (h : Rd w F v (.tl t [])) : ∃ a c, v = .slice a 0 c := by
 have h2 := Rd.untl h
 simp only [List.map_nil] at h2
 generalize hd : V.sl [] = d at h2
 cases h2 with
 | slemp a c => exact ⟨a, c, rfl⟩
 | sl b off cap k es g hF hcap hk hg hr =>
  simp only [V.sl.injEq] at hd
  subst hd
  exact ⟨_, _, rfl⟩
 | _ => cases hd
theorem zTd {P : Program} {G : Nat → Option (List V)} {f : FuncId} {t : Ty} {bytes : Nat}
  (h1 : wC jB P G f (qI (wM (zLu t) (.p (.sl t)) (fun q => Option.bind (app bytes [] (q.1 :: q.2)) fun z => some z))))
  (h2 : ∀ c, wC jB P G f (qI (wM (zFg (.slice none 0 c)) (.p (.sl t)) (fun _ => some []))))
  (h3 : ∀ a c, wC jB P G f (qI (wM (zFg (.slice (some a) 0 c)) (.p (.sl t)) (fun _ => some [])))) :
  wC jB P G f (qI (jQ [.sl t] (.p (.sl t)) (fun x => Option.bind (app bytes [] x.1) fun z => some z))) := by
 intro w F O s args ds s' r hsig hG hF hlen hrd hspec
 simp only [qI, jQ, wM] at hspec
 cases hx : zC9 [.sl t] ds with
 | none => rw [hx] at hspec; cases hspec
 | some x =>
  rw [hx] at hspec
  have hwk := vI [.sl t] ds x hx
  have hdl : ds.length = 1 := hwk.len
  have hal : args.size = 1 := hlen.trans hdl
  obtain ⟨xs, u⟩ := x
  have hv : Rd w F args[0] (.tl t xs) := hwk.get 0 (ds[0]'(by omega)) (.tl t xs) (by simp) rfl w F _ (hrd 0 _ _ (by simp) (by simp))
  cases xs with
  | cons y r0 =>
   refine h1 w F O s args [.tl t (y :: r0)] s' r hsig hG hF (by simpa using hal) ?_ ?_
   ·intro i v d hi hd
    match i with
    | 0 =>
     simp at hd
     subst hd
     have : v = args[0] := by
      rw [Array.getElem?_eq_getElem (by omega)] at hi
      exact (Option.some.inj hi).symm
     rw [this]; exact hv
    | i + 1 => simp at hd
   ·have hde : zLu t [.tl t (y :: r0)] = some (y, r0) := by
     unfold zLu
     rw [show zC9 [.sl t] [.tl t (y :: r0)] = some (y :: r0, ()) from zCY [.sl t] (y :: r0, ())]
    simp only [qI, wM, hde]
    exact hspec
  | nil =>
   obtain ⟨a, c, ha⟩ := zRk hv
   have hres : some (s', r) = some (s, (RTy.p (.sl t)).res []) := by
    have : (app bytes ([] : List t.El) []) = some [] ∨ app bytes ([] : List t.El) [] = none := by
     unfold app; split
     ·exact .inl rfl
     ·exact .inr rfl
    rcases this with h | h
    ·simp only [h, Option.bind_some, Option.map_some] at hspec
     exact hspec.symm
    ·simp only [h, Option.bind_none, Option.map_none] at hspec
     cases hspec
   simp only [Option.some.injEq, Prod.mk.injEq] at hres
   obtain ⟨rfl, rfl⟩ := hres
   have go : ∀ v, args[0] = v → wC jB P G f (qI (wM (zFg v) (.p (.sl t)) (fun _ => some []))) → Calls P f args w fun e w' => ∃ (v : Value) (F' : Blk → Prop) (O' : Nat → Prop), e = .returned v ∧ jB.R s' F' O' w' ∧ zCo O w w' ∧
     (∀ b, O' b → O b ∨ w.heap.size ≤ b) ∧ (∀ b, F b → F' b) ∧ (∀ b : Nat, F' b → (F b ∨ w.heap.size ≤ b) ∧ b < w'.heap.size ∧ ¬ O' b) ∧ yG w.heap.size w' F' O' v ((RTy.p (.sl t)).res []) := by
    intro v hv0 h
    refine h w F O s' args [.val v] s' _ hsig hG hF (by simpa using hal) ?_ ?_
    ·intro i u d hi hd
     match i with
     | 0 =>
      simp at hd
      subst hd
      have : u = args[0] := by
       rw [Array.getElem?_eq_getElem (by omega)] at hi
       exact (Option.some.inj hi).symm
      rw [this, hv0]; exact .val _
     | i + 1 => simp at hd
    ·have hde : zFg v [.val v] = some () := by unfold zFg; rw [if_pos rfl]
     simp only [qI, wM, hde]
     rfl
   cases a with
   | none => exact go _ ha (h2 c)
   | some a => exact go _ ha (h3 a c)
theorem zRL {P : Program} {G : Nat → Option (List V)} {f : FuncId} {t : Ty} {bytes : Nat}
  (h1 : wC jB P G f (qI (wM (zLu t) (.o t) (fun q => Option.bind (app bytes [] (q.1 :: q.2)) fun z => some z))))
  (h2 : ∀ c, wC jB P G f (qI (wM (zFg (.slice none 0 c)) (.o t) (fun _ => some []))))
  (h3 : ∀ a c, wC jB P G f (qI (wM (zFg (.slice (some a) 0 c)) (.o t) (fun _ => some [])))) :
  wC jB P G f (qI (jQ [.sl t] (.o t) (fun x => Option.bind (app bytes [] x.1) fun z => some z))) := by
 intro w F O s args ds s' r hsig hG hF hlen hrd hspec
 simp only [qI, jQ, wM] at hspec
 cases hx : zC9 [.sl t] ds with
 | none => rw [hx] at hspec; cases hspec
 | some x =>
  rw [hx] at hspec
  have hwk := vI [.sl t] ds x hx
  have hdl : ds.length = 1 := hwk.len
  have hal : args.size = 1 := hlen.trans hdl
  obtain ⟨xs, u⟩ := x
  have hv : Rd w F args[0] (.tl t xs) := hwk.get 0 (ds[0]'(by omega)) (.tl t xs) (by simp) rfl w F _ (hrd 0 _ _ (by simp) (by simp))
  cases xs with
  | cons y r0 =>
   refine h1 w F O s args [.tl t (y :: r0)] s' r hsig hG hF (by simpa using hal) ?_ ?_
   ·intro i v d hi hd
    match i with
    | 0 =>
     simp at hd
     subst hd
     have : v = args[0] := by
      rw [Array.getElem?_eq_getElem (by omega)] at hi
      exact (Option.some.inj hi).symm
     rw [this]; exact hv
    | i + 1 => simp at hd
   ·have hde : zLu t [.tl t (y :: r0)] = some (y, r0) := by
     unfold zLu
     rw [show zC9 [.sl t] [.tl t (y :: r0)] = some (y :: r0, ()) from zCY [.sl t] (y :: r0, ())]
    simp only [qI, wM, hde]
    exact hspec
  | nil =>
   obtain ⟨a, c, ha⟩ := zRk hv
   have hres : some (s', r) = some (s, (RTy.o t).res []) := by
    have : (app bytes ([] : List t.El) []) = some [] ∨ app bytes ([] : List t.El) [] = none := by
     unfold app; split
     ·exact .inl rfl
     ·exact .inr rfl
    rcases this with h | h
    ·simp only [h, Option.bind_some, Option.map_some] at hspec
     exact hspec.symm
    ·simp only [h, Option.bind_none, Option.map_none] at hspec
     cases hspec
   simp only [Option.some.injEq, Prod.mk.injEq] at hres
   obtain ⟨rfl, rfl⟩ := hres
   have go : ∀ v, args[0] = v → wC jB P G f (qI (wM (zFg v) (.o t) (fun _ => some []))) → Calls P f args w fun e w' => ∃ (v : Value) (F' : Blk → Prop) (O' : Nat → Prop), e = .returned v ∧ jB.R s' F' O' w' ∧ zCo O w w' ∧
     (∀ b, O' b → O b ∨ w.heap.size ≤ b) ∧ (∀ b, F b → F' b) ∧ (∀ b : Nat, F' b → (F b ∨ w.heap.size ≤ b) ∧ b < w'.heap.size ∧ ¬ O' b) ∧ yG w.heap.size w' F' O' v ((RTy.o t).res []) := by
    intro v hv0 h
    refine h w F O s' args [.val v] s' _ hsig hG hF (by simpa using hal) ?_ ?_
    ·intro i u d hi hd
     match i with
     | 0 =>
      simp at hd
      subst hd
      have : u = args[0] := by
       rw [Array.getElem?_eq_getElem (by omega)] at hi
       exact (Option.some.inj hi).symm
      rw [this, hv0]; exact .val _
     | i + 1 => simp at hd
    ·have hde : zFg v [.val v] = some () := by unfold zFg; rw [if_pos rfl]
     simp only [qI, wM, hde]
     rfl
   cases a with
   | none => exact go _ ha (h2 c)
   | some a => exact go _ ha (h3 a c)
theorem zXT {P : Program} {G : Nat → Option (List V)} {f : FuncId} {t : Ty} {ds : List V} (hnb : zCL ds = none) (h : ∀ a : Option Addr, ∃ S, wC jB P G f S ∧ S () (.val (.slice a 0 0) :: ds) = some ((), .p (.tup []))) :
  zBu jB P G f () t [] ds () [] (.tup []) := by
 refine zBu.of hnb ?_
 intro w F O b v0 args hR hG hF hown _ hsz ha0 hrest
 have hv : ∃ a, v0 = .slice a 0 0 := by
  rcases hown with ⟨_, h⟩ | ⟨h, _⟩
  ·exact h
  ·exact absurd rfl h
 obtain ⟨a, rfl⟩ := hv
 obtain ⟨S, hS, hs⟩ := h a
 have hcall := hS w F O () args (.val (.slice a 0 0) :: ds) () (.p (.tup [])) hR hG hF (by simpa using hsz) (by
  intro i v d hi hd
  match i with
  | 0 =>
   simp at hd
   subst hd
   rw [ha0] at hi
   cases hi
   exact .val _
  | i + 1 => exact hrest i v d hi (by simpa using hd)) hs
 refine hcall.mono ?_
 rintro e w' ⟨v, F', O', rfl, h1, h2, h3, h4, h5, h6⟩
 exact ⟨v, F', O', rfl, h1, ⟨h2.os, h2.tape, h2.output, h2.size, fun c hc ho => h2.block c hc (fun hh => ho (.inl hh)), h2.drawn⟩, h3, h4, h5, zEY.of (.inl ⟨rfl, a, rfl⟩) h6⟩
end Go.Ve
