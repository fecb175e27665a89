/-
  Plain laws: interfaces that are up.
  Plain laws: masks, networks, and what prefixes contain.
  Plain laws: what the checks of a network say of its interfaces and static routes.
  Plain laws: what the checks of a network say.
  Plain laws: prefixes in order; the sorting of routes; connected routes.
  Plain laws: static routes that are active.
  Plain laws: connected routes: sorted, and valid; static routes are valid.
  Plain laws of distance-vector routing: the neighbors of an interface.
  Plain laws of distance-vector routing: a router has one interface in a domain.
  Plain laws of distance-vector routing: what a prefix list permits.
  Plain laws of distance-vector routing: who takes part, what is made of a neighbor's table.
  Plain laws of distance-vector routing: what a router receives.
  Plain laws: what a table is.
  Plain laws of distance-vector routing: tables of neighbors, finding a prefix.
  Plain laws of distance-vector routing: the owner of an address.
  Plain laws of distance-vector routing: Owner finds the neighbor with an address.
  Plain laws of distance-vector routing: where a received route comes from.
  Plain laws of distance-vector routing: the index of a prefix in a table.
  Plain laws: valid routes.
  Functions out of code, part 10: typed data out of data without types, lists too.
  Contracts at one point: what a function answers at given data.
  slices.Clone: the contract over typed lists, out of three that tell nil, empty and the rest apart.
  Plain laws: preference of routes; insertion into ordered lists; the prefixes of routes; hops added.
  Plain laws: the prefixes of routes; hops added; routes merged.
  Plain laws: routes merged.
  Plain laws: merging where prefixes differ; the reference's connected and active routes.
  Plain laws: ranges swapped and rotated, stated place by place.
-/
import Derived.Test.YtcnlcmbchljpgaaGreatQg12
import Derived.Test.YtcnlcmbchljpgaaGreatQg11
set_option linter.unusedVariables false
namespace Go.Ve
open Go
set_option maxRecDepth 1000000
set_option maxHeartbeats 4000000
def zFl (e y : Ty.El zJ) : Bool := y.1 == e.1 && (y.2.1 == e.2.1 && true)
theorem zU6 {e y : Ty.El zJ} : zFl e y = true ↔ y = e := ⟨fun h => zE8 h, fun h => by subst h; simp [zFl]⟩
def kU (v : Ty.El zV) (r i : Int) : Int := zAR (fun d : Ty.El k8 => d.2.2.1.any (zFl (r, i, ()))) v.2.1.1
def zFG (v : Ty.El zV) (r i : Int) : Int := zAR (fun l : Int => decide (kU v r i ≥ 0) && l == kU v r i) v.2.1.2.1
def upB (v : Ty.El zV) (r i : Int) : Bool := decide (0 ≤ kU v r i) && v.2.2.1.all (fun x : Int => !(x == zFG v r i))
structure zAX (v : Ty.El zV) : Prop where
 rs : v.1.1.length ≤ 9
 sm : ∀ y, y ∈ v.1.1 → SmR y
 doms : v.2.1.1.length ≤ 360
 ends : ∀ d, d ∈ v.2.1.1 → d.2.2.1.length ≤ 360
 links : v.2.1.2.1.length ≤ 12
 link0 : ∀ l, l ∈ v.2.1.2.1 → (0 : Int) ≤ l
 down : v.2.2.1.length ≤ 2
 down0 : ∀ l, l ∈ v.2.2.1 → (0 : Int) ≤ l
theorem zA7.s {n : Ty.El zS} {d : List Int} {v : Ty.El zV} (h : zA7 n d v) : zAX v where
 rs := by rw [h.net]; exact h.rs
 sm := by rw [h.net]; exact h.sm
 doms := h.topo.doms
 ends := fun d hd => (h.topo.ends d hd).1
 links := h.topo.links
 link0 := fun l hl => (h.topo.link l hl).1
 down := by rw [h.dn]; exact h.down.len
 down0 := by rw [h.dn]; exact fun l hl => (h.down.lo l hl).1
theorem zCR {α : Type} {p : α → Bool} {xs : List α} : zAR p xs ≥ 0 ↔ xs.any p = true := by
 rcases zLR p xs with ⟨h, h2⟩ | ⟨i, x, h, h2, h3, _⟩
 ·rw [h]
  constructor
  ·intro h'; omega
  ·intro h'
   obtain ⟨x, hx, hp⟩ := List.any_eq_true.1 h'
   rw [h2 x hx] at hp
   cases hp
 ·rw [h]
  exact ⟨fun _ => List.any_eq_true.2 ⟨x, List.mem_of_getElem? h2, h3⟩, fun _ => by omega⟩
theorem zFL {α : Type} {p : α → Bool} {xs : List α} (h : 0 ≤ zAR p xs) : ∃ x, xs[(zAR p xs).toNat]? = some x ∧ p x = true := by
 rcases zLR p xs with ⟨h1, h2⟩ | ⟨i, x, h1, h2, h3, _⟩
 ·omega
 ·rw [h1]; exact ⟨x, by simpa using h2, h3⟩
theorem zEC (l : List (Ty.El zJ)) (e : Ty.El zJ) (hl : l.length ≤ 1048576) : Wp (yR (l, e, ())) (fun k => k = zAR (zFl e) l) := by
 unfold yR
 dsimp only
 refine zBH (p := zFl e) (by omega) ?_ rfl
 intro i x hx
 simp only [zN hx, Option.bind_some]
 have : (e.1 == x.1 && (e.2.1 == x.2.1 && true)) = zFl e x := by
  unfold zFl
  rw [Bool.eq_iff_iff]
  simp only [Bool.and_true, Bool.and_eq_true, beq_iff_eq]
  exact ⟨fun h => ⟨h.1.symm, h.2.symm⟩, fun h => ⟨h.1.symm, h.2.symm⟩⟩
 rw [this]
 cases zFl e x <;> rfl
theorem zC1 (l : List (Ty.El zJ)) (e : Ty.El zJ) (hl : l.length ≤ 1048576) : Wp (v7 (l, e, ())) (fun b => b = l.any (zFl e)) := by
 unfold v7
 dsimp only
 refine zC ((zEC l e hl).mono (fun k hk => zB ?_))
 subst hk
 rw [Bool.eq_iff_iff, decide_eq_true_eq]
 exact zCR
theorem zA1 (v : Ty.El zV) (r i : Int) (hv : zAX v) : Wp (zAc (v, r, i, ())) (fun k => k = kU v r i) := by
 unfold zAc
 dsimp only
 have := hv.doms
 refine zBH (p := fun d : Ty.El k8 => d.2.2.1.any (zFl (r, i, ()))) (by omega) ?_ rfl
 intro k x hx
 simp only [zN hx, Option.bind_some]
 have := hv.ends x (List.mem_of_getElem? hx)
 have h1 := vE (zC1 x.2.2.1 (r, i, ()) (by omega))
 refine (congrArg (fun m => Option.bind m _) h1).trans ?_
 simp only [Option.bind_some]
 cases List.any x.2.2.1 (zFl (r, i, ())) <;> rfl
theorem zAw (v : Ty.El zV) (r i : Int) (hv : zAX v) : Wp (yU (v, r, i, ())) (fun k => k = kU v r i) := by
 unfold yU
 dsimp only
 have := hv.doms
 refine zBa (by omega) (fun k => ∀ j y, j < k → v.2.1.1[j]? = some y → y.2.2.1.any (zFl (r, i, ())) = false) (fun j y hj => by omega) ?_ ?_
 ·intro k x hx hj
  have hends := hv.ends x (List.mem_of_getElem? hx)
  simp only [zN hx, Option.bind_some]
  refine zBa (xs := x.2.2.1) (by omega) (fun m => ∀ y, y ∈ x.2.2.1.take m → zFl (r, i, ()) y = false) (fun y hy => by simp at hy) ?_ ?_
  ·intro m y hy hm
   simp only [zN hy, Option.bind_some]
   refine zF (fun h => zB (e2r (e2r (e2r (e2r ?_))))) (fun h => zB (e2l ⟨rfl, ?_⟩))
   ·have h1 : x.2.2.1.any (zFl (r, i, ())) = true := List.any_eq_true.2 ⟨y, List.mem_of_getElem? hy, h⟩
    exact (zSw (p := fun d : Ty.El k8 => d.2.2.1.any (zFl (r, i, ()))) hx h1 hj).symm
   ·intro z hz
    rw [List.take_add_one, hy] at hz
    simp only [Option.toList_some, List.mem_append, List.mem_singleton] at hz
    rcases hz with hz | rfl
    ·exact hm z hz
    ·exact h
  ·intro hm
   rw [List.take_length] at hm
   refine zB (e2l ⟨rfl, ?_⟩)
   intro j y hj' hy
   rcases Nat.lt_or_ge j k with h' | h'
   ·exact hj j y h' hy
   ·have : j = k := by omega
    subst this
    rw [hx] at hy
    cases hy
    rw [Bool.eq_false_iff]
    intro h
    obtain ⟨z, hz, hz2⟩ := List.any_eq_true.1 h
    rw [hm z hz] at hz2
    cases hz2
 ·intro hj
  refine zB (zJb ?_).symm
  intro x hx
  obtain ⟨j, hjl, rfl⟩ := List.getElem_of_mem hx
  exact hj j _ hjl (by simp [hjl])
theorem zAT (l : List Int) (e : Int) (hl : l.length ≤ 1048576) : Wp (kI (l, e, ())) (fun k => k = zAR (fun x => x == e) l) := by
 unfold kI
 dsimp only
 refine zBH (p := fun x : Int => x == e) (by omega) ?_ rfl
 intro i (x : Int) hx
 simp only [zN hx, Option.bind_some]
 have : (e == x) = (x == e) := by rw [Bool.eq_iff_iff, beq_iff_eq, beq_iff_eq]; exact eq_comm
 rw [this]
 cases x == e <;> rfl
theorem zC0 (l : List Int) (e : Int) (hl : l.length ≤ 1048576) : Wp (v6 (l, e, ())) (fun b => b = l.any (fun x => x == e)) := by
 unfold v6
 dsimp only
 refine zC ((zAT l e hl).mono (fun k hk => zB ?_))
 subst hk
 rw [Bool.eq_iff_iff, decide_eq_true_eq]
 exact zCR
theorem zK4 (v : Ty.El zV) (r i : Int) (hv : zAX v) : Wp (zFA (v, r, i, ())) (fun k => k = zFG v r i) := by
 unfold zFA
 dsimp only
 refine zC ((zA1 v r i hv).mono (fun k hk => ?_))
 subst hk
 refine zI (fun h => zB ?_) (fun h => ?_)
 ·unfold zFG
  rw [zJb]
  intro x _
  have : ¬ (kU v r i ≥ 0) := by omega
  simp [this]
 ·have := hv.links
  refine zC ((zAT _ _ (by omega)).mono (fun k hk => zB ?_))
  rw [hk]
  unfold zFG
  have h2 : kU v r i ≥ 0 := by omega
  congr 1
  funext l
  simp [h2]
theorem zJ6 (v : Ty.El zV) (r i : Int) (hv : zAX v) : Wp (zDP (v, r, i, ())) (fun k => k = zFG v r i) := by
 unfold zDP
 dsimp only
 refine zC ((zAw v r i hv).mono (fun k hk => ?_))
 subst hk
 have := hv.links
 refine zBH (p := fun l : Int => decide (kU v r i ≥ 0) && l == kU v r i) (by omega) ?_ rfl
 intro i' (x : Int) hx
 simp only [zN hx, Option.bind_some]
 cases decide (kU v r i ≥ 0) <;> cases x == kU v r i <;> rfl
theorem zQJ {α : Type} {p : α → Bool} (l : List α) : (!l.any p) = l.all (fun x => !p x) := by
 induction l with
 | nil => rfl
 | cons x l ih => simp [← ih]
theorem zHx (v : Ty.El zV) (r i : Int) (hv : zAX v) : Wp (zHr (v, r, i, ())) (fun b => b = upB v r i) := by
 unfold zHr
 dsimp only
 refine zC ((zA1 v r i hv).mono (fun k hk => ?_))
 subst hk
 refine zI (fun h => zB ?_) (fun h => ?_)
 ·unfold upB
  have : ¬ (0 ≤ kU v r i) := by omega
  simp [this]
 ·refine zC ((zK4 v r i hv).mono (fun k hk => ?_))
  subst hk
  have h0 : 0 ≤ kU v r i := by omega
  have hd := hv.down
  refine zC (zI (fun h => zB (zB ?_)) (fun h => ?_))
  ·unfold upB
   simp only [h0, decide_true, Bool.true_and]
   symm
   rw [List.all_eq_true]
   intro x hx
   have := hv.down0 x hx
   simp only [Bool.not_eq_true', beq_eq_false_iff_ne]
   omega
  ·refine zC ((zC0 _ _ (by omega)).mono (fun b hb => zB (zB ?_)))
   subst hb
   unfold upB
   simp only [h0, decide_true, Bool.true_and]
   exact zQJ _
theorem zMz (v : Ty.El zV) (r i : Int) (hv : zAX v) : Wp (zHH (v, r, i, ())) (fun b => b = upB v r i) := by
 unfold zHH
 dsimp only
 refine zC ((zAw v r i hv).mono (fun k hk => ?_))
 subst hk
 refine zI (fun h => zB ?_) (fun h => ?_)
 ·unfold upB
  have : ¬ (0 ≤ kU v r i) := by omega
  simp [this]
 ·refine zC ((zJ6 v r i hv).mono (fun k hk => ?_))
  subst hk
  have h0 : 0 ≤ kU v r i := by omega
  have hd := hv.down
  refine zDA (P := fun x : Int => (x == zFG v r i) = false) (by omega) ?_ (fun hall => zB ?_)
  ·intro i' (x : Int) hx
   simp only [zN hx, Option.bind_some]
   refine zF (fun h => zB (e2r (e2r ?_))) (fun h => zB (e2l ⟨rfl, h⟩))
   unfold upB
   simp only [h0, decide_true, Bool.true_and]
   symm
   rw [Bool.eq_false_iff]
   intro hh
   have := List.all_eq_true.1 hh x (List.mem_of_getElem? hx)
   simp [h] at this
  ·unfold upB
   simp only [h0, decide_true, Bool.true_and]
   symm
   rw [List.all_eq_true]
   intro x hx
   simp [hall x hx]
def zSr (r : Ty.El zH) (nm : Ty.El .str) : Int := zAR (fun x : Ty.El qB => x.1 == nm) r.2.2.1
theorem zFX (r : Ty.El zH) (nm : Ty.El .str) (hr : SmR r) : Wp (kM (r, nm, ())) (fun k => k = zSr r nm) := by
 unfold kM
 dsimp only
 have := hr.i1
 refine zBH (p := fun x : Ty.El qB => x.1 == nm) (by omega) ?_ rfl
 intro i x hx
 simp only [zN hx, Option.bind_some]
 cases x.1 == nm <;> rfl
end Go.Ve

namespace Go.Ve
open Go
set_option maxRecDepth 1000000
set_option maxHeartbeats 4000000
def wB (n : Int) : Nat := min n.toNat 32
def zBD (k : Nat) : BitVec 32 := BitVec.allOnes 32 <<< (32 - k)
theorem zNR (n : Int) : wB n ≤ 32 := Nat.min_le_right _ _
theorem zTM {x : Int} (h0 : 0 ≤ x) (h1 : x < 4294967296) : IntKind.wrap .u32 x = x := by
 have e1 : ((2 : Int) ^ IntKind.bits .u32) = 4294967296 := by decide
 simp only [IntKind.wrap, IntKind.signed, Bool.false_and, Bool.false_eq_true, if_false, e1]
 omega
theorem zNZ (x : BitVec 32) : IntKind.wrap .u32 (x.toNat : Int) = (x.toNat : Int) := zTM (by omega) (by have := x.isLt; omega)
theorem zH2 (x : BitVec 32) : BitVec.ofInt 32 (x.toNat : Int) = x := by
 rw [BitVec.ofInt_natCast, BitVec.ofNat_toNat, BitVec.setWidth_eq]
theorem zSP : ∀ i, i < 32 → zBD i ||| BitVec.ofInt 32 (IntKind.wrap .u32 (1 * 2 ^ min (31 - i) 32)) = zBD (i + 1) := by decide +kernel
theorem zS7 : zBD 0 = 0#32 := by decide +kernel
theorem zOW : ∀ k, k < 33 → IntKind.wrap .u32 (4294967295 * 2 ^ min (32 - k) 32) = ((zBD k).toNat : Int) := by decide +kernel
theorem zB0 (n : Int) : Wp (zAf (n, ())) (fun m => m = ((zBD (wB n)).toNat : Int)) := by
 unfold zAf
 dsimp only
 refine zC ((zO0 (n := 32) (by omega) (fun i (m : Int) => m = ((zBD (min i (wB n))).toNat : Int)) (by simp [zS7]) (fun i g _ => by simp) ?_ (Q := fun m => m = ((zBD (wB n)).toNat : Int)) (fun g hg => by
  rw [hg, Nat.min_eq_right (zNR n)])).mono (fun m hm => zB hm))
 intro i g hi hg
 subst hg
 refine zI (fun h => ?_) (fun h => zB ?_)
 ·have h : (i : Int) < n := h
  have hk : i < wB n := by unfold wB; omega
  refine zI (fun _ => zB ?_) (fun h' => absurd ?_ h')
  ·have e1 : min i (wB n) = i := by omega
   have e2 : min (i + 1) (wB n) = i + 1 := by omega
   rw [e1, e2]
   dsimp only
   rw [zD (by omega) (by omega), zHj (by omega) (by omega), show ((31 : Int) - (i : Int)).toNat = 31 - i by omega]
   change IntKind.wrap .u32 (((BitVec.ofInt 32 ((zBD i).toNat : Int) ||| BitVec.ofInt 32 (IntKind.wrap .u32 (1 * 2 ^ min (31 - i) 32))).toNat : Nat) : Int) = _
   rw [zH2, zSP i hi, zNZ]
  ·simp only
   rw [zD (by omega) (by omega), zHj (by omega) (by omega)]
   omega
 ·have h : ¬ ((i : Int) < n) := h
  have hk : wB n ≤ i := by unfold wB; omega
  rw [Nat.min_eq_right hk, Nat.min_eq_right (by omega)]
theorem zQq (n : Int) : (if (if (32 : Int) < n then (32 : Int) else n) > (0 : Int) then if (32 : Int) < n then (32 : Int) else n else (0 : Int)) = (wB n : Int) := by
 unfold wB
 split <;> split <;> omega
theorem zTy (n : Int) : (if (0 : Int) > if (32 : Int) < n then (32 : Int) else n then (0 : Int) else if (32 : Int) < n then (32 : Int) else n) = (wB n : Int) := by
 unfold wB
 split <;> split <;> omega
theorem zMj (n : Int) : wB ((wB n : Nat) : Int) = wB n := by
 unfold wB
 omega
theorem zE2 (n : Int) : zDy (n, ()) = some ((zBD (wB n)).toNat : Int) := by
 have hle := zNR n
 unfold zDy zCp
 simp only [zQq, Option.bind_some]
 rw [zD (by omega) (by omega)]
 have h0 : (0 : Int) ≤ 32 - ((wB n : Nat) : Int) := by omega
 simp only [h0, decide_true, cond_true]
 rw [show ((32 : Int) - ((wB n : Nat) : Int)).toNat = 32 - wB n by omega]
 exact congrArg some (zOW _ (by omega))
def zBL (a n : Int) : Ty.El zG := (((BitVec.ofInt 32 a &&& zBD (wB n)).toNat : Int), (wB n : Int), ())
def zCV (p : Ty.El zG) (a : Int) : Bool := (((BitVec.ofInt 32 a &&& zBD (wB p.2.1)).toNat : Nat) : Int) == p.1
theorem zOT (a : Int) (k : Nat) : IntKind.wrap .u32 (((BitVec.ofInt (IntKind.bits .u32) a &&& BitVec.ofInt (IntKind.bits .u32) ((zBD k).toNat : Int)).toNat : Nat) : Int) = ((BitVec.ofInt 32 a &&& zBD k).toNat : Int) := by
 change IntKind.wrap .u32 (((BitVec.ofInt 32 a &&& BitVec.ofInt 32 ((zBD k).toNat : Int)).toNat : Nat) : Int) = _
 rw [zH2, zNZ]
theorem zHA (a n : Int) : zBP (a, n, ()) = some (zBL a n) := by
 refine vE ?_
 unfold zBP
 dsimp only
 refine zC (qU (zE2 _) ?_)
 unfold zCp
 simp only [zQq, Option.bind_some]
 refine zB ?_
 unfold zBL
 rw [zOT]
theorem wJ (a n : Int) : wE (a, n, ()) = some (zBL a n) := by
 refine vE ?_
 unfold wE
 simp only [zTy]
 refine zC ((zB0 _).mono (fun m hm => zB ?_))
 subst hm
 unfold zBL
 rw [zMj, zOT]
theorem zGI (p : Ty.El zG) (a : Int) : uP (p, a, ()) = some (zCV p a) := by
 refine vE ?_
 unfold uP
 dsimp only
 refine zC ((zB0 _).mono (fun m hm => zB ?_))
 subst hm
 rw [zOT]
 rfl
theorem zGJ (p : Ty.El zG) (a : Int) : xV (p, a, ()) = some (zCV p a) := by
 refine vE ?_
 unfold xV
 dsimp only
 refine zC (qU (zE2 _) (zB ?_))
 rw [zOT]
 rfl
theorem zS6 (a n : Int) : zCV (zBL a n) (zBL a n).1 = true := by
 unfold zCV zBL
 simp only [zMj, zH2]
 rw [BitVec.and_assoc, BitVec.and_self]
 simp
theorem zDd (p q : Ty.El zG) : u6 (p, q, ()) = some (decide (p.2.1 ≤ q.2.1) && zCV p q.1) := by
 refine vE ?_
 unfold u6
 dsimp only
 refine zC (zF (fun h => zC (qU (zGI _ _) (zB (zB ?_)))) (fun h => zB (zB ?_))) <;> (rw [h]; rfl)
theorem zGH (p q : Ty.El zG) : vW (p, q, ()) = some ((decide (p.2.1 ≤ q.2.1) && zCV p q.1) || (decide (q.2.1 ≤ p.2.1) && zCV q p.1)) := by
 refine vE ?_
 unfold vW
 dsimp only
 refine zC (zC (qU (zDd _ _) (zF (fun h => zB (zB ?_)) (fun h => zC (qU (zDd _ _) (zB (zB ?_))))))) <;> (rw [h]; rfl)
def zGu (p : Ty.El zG) : Bool := decide (p.2.1 ≥ 0) && (decide (p.2.1 ≤ 32) && (BitVec.ofInt 32 p.1 &&& ~~~ zBD (wB p.2.1)) == 0#32)
theorem zEk (p : Ty.El zG) : j8 (p, ()) = some (zGu p) := by
 refine vE ?_
 unfold j8 zGu
 dsimp only
 refine zC (zF (fun h => zF (fun h' => zC ((zB0 _).mono (fun m hm => zB (zB ?_)))) (fun h' => zB (zB ?_))) (fun h => zB (zB ?_)))
 ·subst hm
  rw [h, h']
  simp only [Bool.true_and]
  change (IntKind.wrap .u32 (((BitVec.ofInt 32 p.1 &&& ~~~ BitVec.ofInt 32 ((zBD (wB p.2.1)).toNat : Int)).toNat : Nat) : Int) == (0 : Int)) = _
  rw [zH2, zNZ, Bool.eq_iff_iff, beq_iff_eq, beq_iff_eq]
  constructor
  ·intro h
   apply BitVec.eq_of_toNat_eq
   simp only [BitVec.toNat_ofNat]
   omega
  ·intro h
   rw [h]; rfl
 ·rw [h, h']; rfl
 ·rw [h]; rfl
end Go.Ve

namespace Go.Ve
open Go
set_option maxRecDepth 1000000
set_option maxHeartbeats 4000000
section
variable {ρ : Type}
theorem zVv {n : Nat} {body : Int → Option (Int ⊕ (Unit ⊕ ρ))} {Q : Unit ⊕ ρ → Prop} (hl : n < 4611686018427387904) (J : Nat → Prop) (h0 : J 0)
  (step : ∀ i, i < n → J i → Wp (body (i : Int)) (vC (fun s' => s' = IntKind.wrap IntKind.i64 ((i : Int) + 1) ∧ J (i + 1)) Q)) (fin : J n → Q (Sum.inl ())) :
  Wp (zP (fun s : Int => bif decide (s < (n : Int)) then body s else some (Sum.inr (Sum.inl ()))) (0 : Int)) Q := by
 refine wD (fun (s : Int) => ∃ i : Nat, s = (i : Int) ∧ i ≤ n ∧ J i) (fun (s : Int) => ((n : Int) - s).toNat) ⟨(0 : Nat), rfl, Nat.zero_le _, h0⟩ ?_
 rintro s ⟨i, hi, hle, hj⟩
 subst hi
 refine zI ?_ ?_
 ·intro hc
  have hlt : i < n := by omega
  refine (step i hlt hj).mono ?_
  intro o ho
  cases o with
  | inl s' =>
   obtain ⟨rfl, h2⟩ := ho
   rw [zD (by omega) (by omega)]
   exact ⟨⟨i + 1, by omega, hlt, h2⟩, by omega⟩
  | inr o => exact ho
 ·intro hc
  have : i = n := by omega
  subst this
  exact zB (e2r (fin hj))
theorem zHk {n : Nat} {P : Nat → Prop} {body : Int → Option (Int ⊕ (Unit ⊕ ρ))} {Q : Unit ⊕ ρ → Prop} (hl : n < 4611686018427387904)
  (step : ∀ i, i < n → Wp (body (i : Int)) (vC (fun s' => s' = IntKind.wrap IntKind.i64 ((i : Int) + 1) ∧ P i) Q)) (fin : (∀ i, i < n → P i) → Q (Sum.inl ())) :
  Wp (zP (fun s : Int => bif decide (s < (n : Int)) then body s else some (Sum.inr (Sum.inl ()))) (0 : Int)) Q := by
 refine zVv hl (fun i => ∀ j, j < i → P j) (fun j hj => by omega) ?_ fin
 intro i hi hj
 refine (step i hi).mono ?_
 intro o ho
 cases o with
 | inl s' =>
  refine ⟨ho.1, ?_⟩
  intro j hj'
  rcases Nat.lt_or_ge j i with h' | h'
  ·exact hj j h'
  ·have : j = i := by omega
   subst this
   exact ho.2
 | inr o => exact ho
end
theorem zVu {σ ρ : Type} {m : Option (σ ⊕ ρ)} {K : σ → Option ρ} {Q : ρ → Prop} (P : σ → Prop) (h : Wp m (vC P Q)) (hK : ∀ s, P s → Wp (K s) Q) : Wp (qZ m K) Q := by
 refine qD (h.mono ?_)
 intro o ho
 cases o with
 | inl s => exact hK s ho
 | inr r => exact ho
theorem jQ (a lo hi : Int) : zT (a, lo, hi, ()) = some (decide (lo ≤ a) && decide (a ≤ hi)) := by
 refine vE ?_
 unfold zT
 dsimp only
 refine zC (zF (fun h => zB (zB ?_)) (fun h => zB (zB ?_))) <;> (rw [h]; rfl)
theorem uR (a lo hi : Int) : qL (a, lo, hi, ()) = some (decide (lo ≤ a) && decide (a ≤ hi)) := by
 refine vE ?_
 unfold qL
 dsimp only
 refine zC (zF (fun h => zB (zB ?_)) (fun h => zB (zB ?_))) <;> (rw [h]; rfl)
def ovB (p q : Ty.El zG) : Bool := (decide (p.2.1 ≤ q.2.1) && zCV p q.1) || (decide (q.2.1 ≤ p.2.1) && zCV q p.1)
theorem zHP (a n : Int) : ovB (zBL a n) (zBL a n) = true := by
 unfold ovB
 rw [zS6]
 simp
structure zWx (l : List (Ty.El qB)) (i : Nat) (x : Ty.El qB) : Prop where
 name : ∀ j y, j < i → l[j]? = some y → y.1 ≠ x.1
 len : 0 ≤ x.2.2.1 ∧ x.2.2.1 ≤ 32
 addr : x.2.2.1 ≠ 0 → x.2.1 ≠ 0
 ls : x.2.2.2.2.2.1 = true → (0 ≤ x.2.2.2.2.2.2.1 ∧ x.2.2.2.2.2.2.1 ≤ 255) ∧ 1 ≤ x.2.2.2.2.2.2.2.1 ∧ x.2.2.2.2.2.2.2.1 ≤ 65535
 apart : ∀ j y, j < i → l[j]? = some y → x.2.2.1 ≠ 0 → y.2.2.1 ≠ 0 → ovB (zBL x.2.1 x.2.2.1) (zBL y.2.1 y.2.2.1) = false
def zWw (l : List (Ty.El qB)) : Prop := ∀ i x, l[i]? = some x → zWx l i x
theorem zMk (l : List (Ty.El qB)) (h0 : l.length ≤ 20) : Wp (vI (l, ())) (fun e => e = 0 → zWw l ∧ l.length ≤ 8) := by
 unfold vI
 dsimp only
 refine zI (fun _ => zB (fun h => by cases h)) (fun h => ?_)
 refine zBa (by omega) (fun i => ∀ m x, m < i → l[m]? = some x → zWx l m x) (fun m x hm => by omega) ?_ (fun hj => zB (fun _ => ⟨fun i x hx => hj i x (List.getElem?_eq_some_iff.1 hx).1 hx, by omega⟩))
 intro i x hx hj
 have hi := (List.getElem?_eq_some_iff.1 hx).1
 simp only [zN hx, Option.bind_some]
 refine qD (zC ((vT _).mono (fun b _ => ?_)))
 refine zF (fun _ => zB (fun h => by cases h)) (fun _ => ?_)
 refine qD (zHk (n := i) (P := fun j => ∀ y, l[j]? = some y → y.1 ≠ x.1) (by omega) ?_ (fun hname => ?_))
 ·intro j hjl
  have hy : l[j]? = some l[j] := by simp
  simp only [zN hy, Option.bind_some]
  refine zF (fun _ => zB (fun h => by cases h)) (fun hn => zB (e2l ⟨rfl, ?_⟩))
  intro y hy'
  rw [hy] at hy'
  cases hy'
  simpa using hn
 ·refine e2l (zC ((show Wp _ (fun s : Bool => s = false → 0 ≤ x.2.2.1 ∧ x.2.2.1 ≤ 32) from ?_).mono (fun s hs => ?_)))
  ·refine zC (qU (jQ _ _ _) (zF (fun _ => zB (fun h => by cases h)) (fun h1 => zC (qU (jQ _ _ _) (zF (fun _ => zB (fun h => by cases h)) (fun _ => zC (qU (jQ _ _ _) (zB (fun _ => ?_)))))))))
   simpa using h1
  refine zF (fun _ => zB (fun h => by cases h)) (fun h1 => ?_)
  have hlen := hs h1
  refine zC ((show Wp _ (fun s : Bool => s = false → x.2.2.1 ≠ 0 → x.2.1 ≠ 0) from ?_).mono (fun s hs => ?_))
  ·refine zF (fun hz => ?_) (fun hz => ?_)
   ·have hz : x.2.2.1 = 0 := by simpa using hz
    repeat' (first
     | exact zB (fun _ hne => absurd hz hne)
     | refine zF (fun _ => ?_) (fun _ => ?_))
   ·refine zF (fun _ => zB (fun h' _ => by simpa using h')) (fun h' => zB (fun _ hne => ?_))
    rw [hz] at *
    exact absurd (show x.2.2.1 = 0 by simpa using h') hne
  refine zF (fun _ => zB (fun h => by cases h)) (fun h2 => ?_)
  have haddr := hs h2
  refine zC ((show Wp _ (fun s : Bool => s = false → x.2.2.2.2.2.1 = true → (0 ≤ x.2.2.2.2.2.2.1 ∧ x.2.2.2.2.2.2.1 ≤ 255) ∧ 1 ≤ x.2.2.2.2.2.2.2.1 ∧ x.2.2.2.2.2.2.2.1 ≤ 65535) from ?_).mono (fun s hs => ?_))
  ·refine zF (fun hz => ?_) (fun hz => ?_)
   ·refine zC (qU (jQ _ _ _) (zF (fun _ => zB (fun h => by cases h)) (fun h3 => zC (qU (jQ _ _ _) (zF (fun _ => zB (fun h => by cases h)) (fun h4 => ?_))))))
    have h3 : 0 ≤ x.2.2.2.2.2.2.1 ∧ x.2.2.2.2.2.2.1 ≤ 255 := by simpa using h3
    have h4 : 1 ≤ x.2.2.2.2.2.2.2.1 ∧ x.2.2.2.2.2.2.2.1 ≤ 65535 := by simpa using h4
    repeat' (first
     | exact zB (fun _ _ => ⟨h3, h4⟩)
     | refine zF (fun _ => ?_) (fun _ => ?_))
   ·repeat' (first
     | exact zB (fun _ ht => by rw [hz] at ht; cases ht)
     | refine zF (fun _ => ?_) (fun _ => ?_))
  refine zF (fun _ => zB (fun h => by cases h)) (fun h3 => ?_)
  have hls := hs h3
  refine zHk (n := i) (P := fun j => ∀ y, l[j]? = some y → x.2.2.1 ≠ 0 → y.2.2.1 ≠ 0 → ovB (zBL x.2.1 x.2.2.1) (zBL y.2.1 y.2.2.1) = false) (by omega) ?_ (fun hap => ?_)
  ·intro j hjl
   have hy : l[j]? = some l[j] := by simp
   simp only [zN hy, Option.bind_some]
   refine zC ((show Wp _ (fun s : Bool => s = false → x.2.2.1 ≠ 0 → l[j].2.2.1 ≠ 0 → ovB (zBL x.2.1 x.2.2.1) (zBL l[j].2.1 l[j].2.2.1) = false) from ?_).mono (fun s hs => ?_))
   ·refine zF (fun _ => zF (fun _ => ?_) (fun hz => zB (fun _ _ hne => ?_))) (fun hz => zB (fun _ hne => ?_))
    ·exact zC (qU (wJ _ _) (zC (qU (wJ _ _) (zC (qU (zGH _ _) (zB (fun h _ _ => h)))))))
    ·exact absurd (show l[j].2.2.1 = 0 by simpa using hz) hne
    ·exact absurd (show x.2.2.1 = 0 by simpa using hz) hne
   ·refine zF (fun _ => zB (fun h => by cases h)) (fun hn => zB (e2l ⟨rfl, ?_⟩))
    intro y hy'
    rw [hy] at hy'
    cases hy'
    exact hs hn
  ·refine e2l (zB (e2l ⟨rfl, ?_⟩))
   intro m z hm hz
   rcases Nat.lt_or_ge m i with h' | h'
   ·exact hj m z h' hz
   ·have : m = i := by omega
    subst this
    rw [hx] at hz
    cases hz
    exact ⟨fun j y hjl hy => hname j hjl y hy, hlen, haddr, hls, fun j y hjl hy => hap j hjl y hy⟩
structure zWu (r : Ty.El zH) (x : Ty.El zHu) : Prop where
 pre : zGu x.1 = true
 admin : 1 ≤ x.2.2.2.2.1 ∧ x.2.2.2.2.1 ≤ 255
 tag : 0 ≤ x.2.2.2.2.2.1 ∧ x.2.2.2.2.2.1 ≤ 65535
 one : (x.2.1 ≠ 0 ∧ x.2.2.1 = { data := #[] } ∧ x.2.2.2.1 = false) ∨ (x.2.1 = 0 ∧ x.2.2.1 ≠ { data := #[] } ∧ x.2.2.2.1 = false) ∨ (x.2.1 = 0 ∧ x.2.2.1 = { data := #[] } ∧ x.2.2.2.1 = true)
 iface : x.2.2.1 ≠ { data := #[] } → 0 ≤ zSr r x.2.2.1
def zWt (r : Ty.El zH) : Prop := ∀ x, x ∈ r.2.2.2.2.2.2.2.1 → zWu r x
theorem zQs (r : Ty.El zH) (hr : SmR r) : Wp (yT (r, ())) (fun e => e = 0 → zWt r) := by
 have hs6 := hr.i6
 unfold yT
 dsimp only
 refine zI (fun _ => zB (fun h => by cases h)) (fun h => ?_)
 refine zDA (P := zWu r) (by omega) ?_ (fun hj => zB (fun _ => hj))
 intro i x hx
 have hi := (List.getElem?_eq_some_iff.1 hx).1
 simp only [zN hx, Option.bind_some]
 refine qD ?_
 have w1 : IntKind.wrap .i64 ((0 : Int) + 1) = 1 := by decide
 have w2 : IntKind.wrap .i64 ((1 : Int) + 1) = 2 := by decide
 have w3 : IntKind.wrap .i64 ((2 : Int) + 1) = 3 := by decide
 refine zC ((show Wp _ (fun k : Int => k = if x.2.1 ≠ 0 then 1 else 0) from ?_).mono (fun k1 hk1 => ?_))
 ·refine zF (fun h => zB ?_) (fun h => zB ?_)
  ·rw [w1, if_pos (by simpa using h)]
  ·rw [if_neg (by simpa using h)]
 refine zC ((show Wp _ (fun k : Int => k = k1 + if x.2.2.1 ≠ { data := #[] } then 1 else 0) from ?_).mono (fun k2 hk2 => ?_))
 ·refine zF (fun h => zB ?_) (fun h => zB ?_)
  ·rw [if_pos (by simpa using h)]
   split at hk1 <;> (subst hk1; first | exact w1 | exact w2)
  ·rw [if_neg (by simpa using h)]; omega
 refine zC ((show Wp _ (fun k : Int => k = k2 + if x.2.2.2.1 = true then 1 else 0) from ?_).mono (fun k3 hk3 => ?_))
 ·refine zF (fun h => zB ?_) (fun h => zB ?_)
  ·have h : x.2.2.2.1 = true := h
   rw [if_pos h]
   split at hk1 <;> split at hk2 <;> (subst hk1; subst hk2; first | exact w1 | exact w2 | exact w3)
  ·have h : x.2.2.2.1 = false := h
   rw [if_neg (by rw [h]; simp)]; omega
 refine zC ((show Wp _ (fun s : Bool => s = false → zGu x.1 = true ∧ k3 = 1 ∧ (1 ≤ x.2.2.2.2.1 ∧ x.2.2.2.2.1 ≤ 255) ∧ 0 ≤ x.2.2.2.2.2.1 ∧ x.2.2.2.2.2.1 ≤ 65535) from ?_).mono (fun s hs => ?_))
 ·refine zC (qU (zEk _) (zF (fun _ => zB (fun h => by cases h)) (fun h1 => zF (fun _ => zB (fun h => by cases h)) (fun h2 => ?_))))
  have h1 : zGu x.1 = true := by simpa using h1
  have h2 : k3 = 1 := by simpa using h2
  refine zF (fun _ => zC ((zAZ r x.2.1 hr).mono (fun k _ => zI (fun _ => zB (fun h => by cases h)) (fun _ => ?_)))) (fun _ => ?_)
  all_goals
   refine zC (qU (jQ _ _ _) (zF (fun _ => zB (fun h => by cases h)) (fun h3 => zC (qU (jQ _ _ _) (zB (fun h4 => ⟨h1, h2, ?_, ?_⟩))))))
   ·simpa using h3
   ·simpa using h4
 refine zF (fun _ => zB (fun h => by cases h)) (fun h1 => ?_)
 obtain ⟨g1, g2, g3, g4⟩ := hs h1
 refine zVu (fun _ : Unit => x.2.2.1 ≠ { data := #[] } → 0 ≤ zSr r x.2.2.1) ?_ (fun _ hif => ?_)
 ·refine zF (fun hne => ?_) (fun hne => zB (e2l (fun h => absurd h (by simpa using hne))))
  refine zC ((zFX r _ hr).mono (fun k hk => ?_))
  subst hk
  refine zI (fun _ => zB (fun h => by cases h)) (fun hk => ?_)
  have hk0 : 0 ≤ zSr r x.2.2.1 := Int.not_lt.1 hk
  obtain ⟨y, hy, _⟩ := zFL (p := fun x' : Ty.El qB => x'.1 == x.2.2.1) (xs := r.2.2.1) hk0
  refine zC (qU (zVX hk0 hy) (zF (fun _ => zB (fun h => by cases h)) (fun _ => zB (e2l (fun _ => hk0)))))
 ·refine zHk (n := i) (P := fun _ => True) (by omega) ?_ (fun _ => e2l (zB (e2l ⟨rfl, g1, g3, g4, ?_, hif⟩)))
  ·intro j hjl
   have hy : r.2.2.2.2.2.2.2.1[j]? = some r.2.2.2.2.2.2.2.1[j] := by simp
   simp only [zN hy, Option.bind_some]
   refine zC ((show Wp _ (fun _ : Bool => True) from ?_).mono (fun s _ => zF (fun _ => zB (fun h => by cases h)) (fun _ => zB (e2l ⟨rfl, trivial⟩))))
   exact zF (fun _ => zB trivial) (fun _ => zB trivial)
  ·rw [hk3, hk2, hk1] at g2
   by_cases c1 : x.2.1 = 0 <;> by_cases c2 : x.2.2.1 = { data := #[] } <;> cases c3 : x.2.2.2.1 <;> simp [c1, c2, c3] at g2 ⊢
end Go.Ve

namespace Go.Ve
open Go
set_option maxRecDepth 1000000
set_option maxHeartbeats 4000000
def zVl (r : Ty.El zH) (a : Int) : Int := zAR (fun x : Ty.El qB => x.2.2.1 != 0 && x.2.1 == a) r.2.2.1
theorem zHy (r : Ty.El zH) (a : Int) (hr : SmR r) : Wp (uC (r, a, ())) (fun k => k = zVl r a) := by
 unfold uC
 dsimp only
 have := hr.i1
 refine zBH (p := fun x : Ty.El qB => x.2.2.1 != 0 && x.2.1 == a) (by omega) ?_ rfl
 intro i x hx
 simp only [zN hx, Option.bind_some]
 cases x.2.2.1 != 0 <;> cases x.2.1 == a <;> rfl
structure zXc (r : Ty.El zH) : Prop where
 asn : 0 ≤ r.2.1 ∧ r.2.1 ≤ 65535
 ifs : zWw r.2.2.1
 sts : zWt r
 lists : kJ (r.2.2.2.1, ()) = some 0
 maps : u4 (r, ()) = some 0
 acls : kK (r.2.2.2.2.2.1, ()) = some 0
 nat : vL (r, ()) = some 0
 filters : zAB (r, ()) = some 0
 ls : u5 (r, ()) = some 0
 dv : xL (r, ()) = some 0
 pv : uK (r, ()) = some 0
 ifl : r.2.2.1.length ≤ 8
theorem zKD (r : Ty.El zH) (hr : SmR r) : Wp (wZ (r, ())) (fun e => e = 0 → zXc r) := by
 have hr0 := hr
 obtain ⟨i1, i2, i3, i4, i5, i6, i7, i8, i9, i10, i11, i12, i13, i14, n1, n2, n3⟩ := hr0
 unfold wZ
 dsimp only
 refine zC ((vT _).mono (fun b _ => ?_))
 refine zF (fun _ => zB (fun h => by cases h)) (fun _ => ?_)
 refine zC (qU (jQ _ _ _) (zF (fun _ => zB (fun h => by cases h)) (fun has => ?_)))
 have has : 0 ≤ r.2.1 ∧ r.2.1 ≤ 65535 := by simpa using has
 refine zC ((zMk _ i1).mono (fun y12 h12 => ?_))
 refine uY ((zBf _ i2 n1).mono (fun _ _ => trivial)) (fun y13 h13 => ?_)
 refine uY ((zBV _ hr).mono (fun _ _ => trivial)) (fun y14 h14 => ?_)
 refine uY ((zBg _ i4 n3).mono (fun _ _ => trivial)) (fun y15 h15 => ?_)
 refine uY ((zAS _ hr).mono (fun _ _ => trivial)) (fun y16 h16 => ?_)
 refine uY ((zC8 _ hr).mono (fun _ _ => trivial)) (fun y17 h17 => ?_)
 refine zC ((zQs _ hr).mono (fun y18 h18 => ?_))
 refine uY ((zBW _ hr).mono (fun _ _ => trivial)) (fun y19 h19 => ?_)
 refine uY ((zCy _ hr).mono (fun _ _ => trivial)) (fun y20 h20 => ?_)
 refine uY ((zBy _ hr).mono (fun _ _ => trivial)) (fun y21 h21 => ?_)
 refine zDA (P := fun x : Int => x = 0) (xs := [y12, y13, y14, y15, y16, y17, y18, y19, y20, y21]) (by simp) ?_ (fun hall => zB (fun _ => ?_))
 ·intro i x hx
  simp only [zN hx, Option.bind_some]
  refine zF (fun hne => zB (fun h => ?_)) (fun h => zB (e2l ⟨rfl, by simpa using h⟩))
  have h : x = 0 := h
  rw [h] at hne
  cases hne
 ·have e12 := hall y12 (by simp)
  have e13 := hall y13 (by simp)
  have e14 := hall y14 (by simp)
  have e15 := hall y15 (by simp)
  have e16 := hall y16 (by simp)
  have e17 := hall y17 (by simp)
  have e18 := hall y18 (by simp)
  have e19 := hall y19 (by simp)
  have e20 := hall y20 (by simp)
  have e21 := hall y21 (by simp)
  exact ⟨has, (h12 e12).1, h18 e18, e13 ▸ h13, e14 ▸ h14, e15 ▸ h15, e16 ▸ h16, e17 ▸ h17, e19 ▸ h19, e20 ▸ h20, e21 ▸ h21, (h12 e12).2⟩
structure zWv (n : Ty.El zS) : Prop where
 len : n.1.length ≤ 8
 rt : ∀ r, r ∈ n.1 → zXc r
 name : ∀ (i j : Nat) r q, j < i → n.1[i]? = some r → n.1[j]? = some q → q.1 ≠ r.1
 addr : ∀ (i j : Nat) r q, i ≠ j → n.1[i]? = some r → n.1[j]? = some q → ∀ x y, x ∈ r.2.2.1 → y ∈ q.2.2.1 → x.2.2.1 ≠ 0 → y.2.2.1 ≠ 0 → x.2.1 ≠ y.2.1
theorem zTC (n : Ty.El zS) (hs : ∀ y, y ∈ n.1 → SmR y) : Wp (vV (n, ())) (fun e => e = 0 → zWv n) := by
 unfold vV
 dsimp only
 refine zI (fun _ => zB (fun h => by cases h)) (fun hl => ?_)
 refine zBa (by omega) (fun i => ∀ m r, m < i → n.1[m]? = some r → zXc r ∧ (∀ j q, j < m → n.1[j]? = some q → q.1 ≠ r.1 ∧ ∀ x y, x ∈ r.2.2.1 → y ∈ q.2.2.1 → x.2.2.1 ≠ 0 → y.2.2.1 ≠ 0 → x.2.1 ≠ y.2.1)) (fun m x hm => by omega) ?_ (fun hj => zB (fun _ => ?_))
 ·intro i r hr hj
  have hi := (List.getElem?_eq_some_iff.1 hr).1
  have hsm := hs r (List.mem_of_getElem? hr)
  have hs1 := hsm.i1
  simp only [zN hr, Option.bind_some]
  refine qD (zC ((zKD r hsm).mono (fun e he => ?_)))
  refine zF (fun hne => zB (fun h => ?_)) (fun h => ?_)
  ·have h : e = 0 := h
   rw [h] at hne
   cases hne
  have hrt := he (by simpa using h)
  refine qD (zHk (n := i) (P := fun j => ∀ q, n.1[j]? = some q → q.1 ≠ r.1) (by omega) ?_ (fun hname => ?_))
  ·intro j hjl
   have hq : n.1[j]? = some n.1[j] := by simp
   simp only [zN hq, Option.bind_some]
   refine zF (fun _ => zB (fun h => by cases h)) (fun hn => zB (e2l ⟨rfl, ?_⟩))
   intro q hq'
   rw [hq] at hq'
   cases hq'
   simpa using hn
  refine e2l (zSc (P := fun x : Ty.El qB => ∀ j q, j < i → n.1[j]? = some q → ∀ y, y ∈ q.2.2.1 → x.2.2.1 ≠ 0 → y.2.2.1 ≠ 0 → x.2.1 ≠ y.2.1) (by omega) ?_ (fun hall => ?_))
  ·intro k x hx
   simp only [zN hx, Option.bind_some]
   refine qD (zHk (n := i) (P := fun j => ∀ q, n.1[j]? = some q → ∀ y, y ∈ q.2.2.1 → x.2.2.1 ≠ 0 → y.2.2.1 ≠ 0 → x.2.1 ≠ y.2.1) (by omega) ?_ (fun hall => e2l (zB (e2l ⟨rfl, fun j q hjl hq => hall j hjl q hq⟩))))
   intro j hjl
   have hq : n.1[j]? = some n.1[j] := by simp
   simp only [zN hq, Option.bind_some]
   refine zC ((show Wp _ (fun s : Bool => s = false → ∀ y, y ∈ n.1[j].2.2.1 → x.2.2.1 ≠ 0 → y.2.2.1 ≠ 0 → x.2.1 ≠ y.2.1) from ?_).mono (fun s hs' => ?_))
   ·refine zF (fun _ => zC ((zHy _ _ (hs _ (List.getElem_mem _))).mono (fun k hk => zB ?_))) (fun hz => zB (fun _ y _ hne => absurd (show x.2.2.1 = 0 by simpa using hz) hne))
    subst hk
    intro hlt y hy _ hyz hxy
    have hlt : ¬ (zVl n.1[j] x.2.1 ≥ 0) := of_decide_eq_false hlt
    apply hlt
    unfold zVl
    rw [zCR]
    refine List.any_eq_true.2 ⟨y, hy, ?_⟩
    have h1 : (y.2.2.1 != 0) = true := by simpa using hyz
    have h2 : (y.2.1 == x.2.1) = true := beq_iff_eq.2 hxy.symm
    rw [h1, h2]; rfl
   ·refine zF (fun _ => zB ⟨(fun u h => by cases h), (fun h => by cases h)⟩) (fun hn => zB (e2l ⟨rfl, ?_⟩))
    intro q hq'
    rw [hq] at hq'
    cases hq'
    exact hs' hn
  ·refine e2l (zB (e2l ⟨rfl, ?_⟩))
   intro m z hm hz
   rcases Nat.lt_or_ge m i with h' | h'
   ·exact hj m z h' hz
   ·have : m = i := by omega
    subst this
    rw [hr] at hz
    cases hz
    exact ⟨hrt, fun j q hjl hq => ⟨hname j hjl q hq, fun x y hx hy => hall x hx j q hjl hq y hy⟩⟩
 ·have hall : ∀ m r, n.1[m]? = some r → _ := fun m r hr => hj m r (List.getElem?_eq_some_iff.1 hr).1 hr
  refine ⟨by omega, ?_, ?_, ?_⟩
  ·intro r hr
   obtain ⟨m, hm, rfl⟩ := List.getElem_of_mem hr
   exact (hall m _ (by simp [hm])).1
  ·intro i j r q hji hr hq
   exact ((hall i r hr).2 j q hji hq).1
  ·intro i j r q hne hr hq x y hx hy hx0 hy0
   rcases Nat.lt_or_ge j i with h' | h'
   ·exact ((hall i r hr).2 j q h' hq).2 x y hx hy hx0 hy0
   ·exact fun h => ((hall j q hq).2 i r (by omega) hr).2 y x hy hx hy0 hx0 h.symm
theorem zRf {n : Ty.El zS} {d : List Int} {v : Ty.El zV} (h : zA7 n d v) : zWv n := by
 obtain ⟨e, h1, h2⟩ := zTC n h.sm
 have h3 := h.chk
 rw [h1] at h3
 exact h2 (Option.some.inj h3)
end Go.Ve

namespace Go.Ve
open Go
set_option maxRecDepth 1000000
set_option maxHeartbeats 4000000
def rlt (x y : Ty.El zA) : Prop := plt x.1 y.1
theorem zOg : Ord rlt where
 asym := fun x y h => zFE.asym _ _ h
 tr := fun x y z h1 h2 => zFE.tr _ _ _ h1 h2
end Go.Ve

namespace Go.Ve
open Go
set_option maxRecDepth 1000000
set_option maxHeartbeats 4000000
theorem zLP {α β : Type} {f : α → Option β} {xs : List α} {i : Nat} {x : α} (h : xs[i]? = some x) : (xs.take (i + 1)).filterMap f = (xs.take i).filterMap f ++ (f x).toList := by
 rw [List.take_add_one, h, Option.toList_some, List.filterMap_append, List.filterMap_cons, List.filterMap_nil]
 cases f x <;> rfl
end Go.Ve

namespace Go.Ve
open Go
set_option maxRecDepth 1000000
set_option maxHeartbeats 4000000
theorem zKq {β : Type} {f : Nat → Option β} (i : Nat) : (List.range (i + 1)).filterMap f = (List.range i).filterMap f ++ (f i).toList := by
 rw [List.range_succ, List.filterMap_append, List.filterMap_cons, List.filterMap_nil]
 cases f i <;> rfl
theorem zPE {xs ys : List (Ty.El zA)} (hp : xs.Perm ys) (hs : xs.Pairwise (fun x y => ¬ rlt y x)) (ha : ys.Pairwise (fun x y => x.1 ≠ y.1)) : xs.Pairwise rlt := by
 have h2 : xs.Pairwise (fun x y => x.1 ≠ y.1) := hp.symm.pairwise ha (fun h => h.symm)
 exact (hs.and h2).imp (fun h => zOj h.1 h.2)
end Go.Ve

namespace Go.Ve
open Go
theorem zJO {α : Type} {p : α → Bool} {xs : List α} {i : Nat} {x : α} (h : xs[i]? = some x) : (xs.take (i + 1)).filter p = (xs.take i).filter p ++ (if p x then [x] else []) := by
 obtain ⟨hi, he⟩ := List.getElem?_eq_some_iff.1 h
 rw [List.take_add_one, h, List.filter_append]
 simp only [Option.toList_some, List.filter_cons, List.filter_nil]
theorem zEr {α : Type} {p : α → Bool} {xs : List α} (i : Nat) : ((xs.take i).filter p).length ≤ xs.length :=
 Nat.le_trans (List.length_filter_le _ _) (List.length_take_le' _ _)
def x9 (v : Ty.El zV) (r i : Int) : List (Ty.El zJ) := match v.2.1.1[(kU v r i).toNat]? with
 | some d => d.2.2.1
 | none => []
def zDn (v : Ty.El zV) (r i : Int) (p : Ty.El zJ → Bool) : List (Ty.El zJ) := bif upB v r i then (x9 v r i).filter p else []
theorem zMf {v : Ty.El zV} {r i : Int} (h : upB v r i = true) : ∃ d, v.2.1.1[(kU v r i).toNat]? = some d ∧ 0 ≤ kU v r i ∧ x9 v r i = d.2.2.1 := by
 unfold upB at h
 simp only [Bool.and_eq_true, decide_eq_true_eq] at h
 obtain ⟨d, hd, _⟩ := zFL (p := fun d : Ty.El k8 => d.2.2.1.any (zFl (r, i, ()))) (xs := v.2.1.1) h.1
 refine ⟨d, hd, h.1, ?_⟩
 unfold x9
 have hd' : v.2.1.1[(kU v r i).toNat]? = some d := hd
 rw [hd']
theorem zL4 {v : Ty.El zV} (hv : zAX v) (r i : Int) : (x9 v r i).length ≤ 360 := by
 unfold x9
 split
 ·rename_i d hd
  exact hv.ends d (List.mem_of_getElem? hd)
 ·exact Nat.zero_le _
theorem zE1 (v : Ty.El zV) (r i : Int) (hv : zAX v) : Wp (xZ (v, r, i, ())) (fun l => l = zDn v r i (fun e => e.1 != r)) := by
 unfold xZ zDn
 dsimp only
 refine zC ((zMz v r i hv).mono (fun b hb => ?_))
 subst hb
 refine zF (fun h => zB ?_) (fun h => ?_)
 ·have h : upB v r i = false := by simpa using h
  rw [h]; rfl
 ·have h : upB v r i = true := by simpa using h
  rw [h]
  obtain ⟨d, hd, h0, he⟩ := zMf h
  have hl : d.2.2.1.length ≤ 360 := by rw [← he]; exact zL4 hv r i
  refine zC ((zAw v r i hv).mono (fun k hk => ?_))
  subst hk
  simp only [jG hd h0, Option.bind_some]
  refine zC (zA9 (xs := d.2.2.1) (by omega) (fun j (g : List (Ty.El zJ)) => g = (d.2.2.1.take j).filter (fun e => e.1 != r)) (by simp) ?_ (fun g hg => zB ?_))
  ·intro j x g hx hg
   have hgl : g.length ≤ 360 := by rw [hg]; exact Nat.le_trans (zEr j) hl
   simp only [zN hx, Option.bind_some]
   rw [zJO hx, ← hg]
   refine zF (fun h => zC (zAq (by simp only [List.length_singleton]; omega) (zB ?_))) (fun h => zB ?_)
   ·rw [if_pos h]
   ·rw [if_neg (by rw [h]; decide), List.append_nil]
  ·rw [hg, List.take_length, he]; rfl
theorem zFV (v : Ty.El zV) (r i : Int) (hv : zAX v) : Wp (zAs (v, r, i, ())) (fun l => l = zDn v r i (fun e => e.1 != r || e.2.1 != i)) := by
 unfold zAs zDn
 dsimp only
 refine zC ((zHx v r i hv).mono (fun b hb => ?_))
 subst hb
 refine zF (fun h => zB ?_) (fun h => ?_)
 ·have h : upB v r i = false := by simpa using h
  rw [h]; rfl
 ·have h : upB v r i = true := by simpa using h
  rw [h]
  obtain ⟨d, hd, h0, he⟩ := zMf h
  have hl : d.2.2.1.length ≤ 360 := by rw [← he]; exact zL4 hv r i
  refine zC (zC ((zA1 v r i hv).mono (fun k hk => ?_)))
  subst hk
  simp only [jG hd h0, Option.bind_some]
  refine zA9 (xs := d.2.2.1) (by omega) (fun j (g : List (Ty.El zJ)) => g = (d.2.2.1.take j).filter (fun e => e.1 != r || e.2.1 != i)) (by simp) ?_ (fun g hg => zB ?_)
  ·intro j x g hx hg
   have hgl : g.length ≤ 360 := by rw [hg]; exact Nat.le_trans (zEr j) hl
   simp only [zN hx, Option.bind_some]
   rw [zJO hx, ← hg]
   refine zC ((show Wp _ (fun s : Bool × List (Ty.El zJ) => s.1 = (x.1 != r || x.2.1 != i) ∧ s.2 = g) from ?_).mono (fun s hs => ?_))
   ·refine zF (fun h => zB ⟨?_, rfl⟩) (fun h => zB ⟨?_, rfl⟩)
    ·rw [h]; rfl
    ·rw [h]; rfl
   ·obtain ⟨s1, s2⟩ := s
    obtain ⟨h1, h2⟩ := hs
    simp only at h1 h2
    subst h2
    refine zF (fun h => zC (zAq (by simp only [List.length_singleton]; omega) (zB ?_))) (fun h => zB ?_)
    ·have h : s1 = true := h
     rw [← h1, if_pos h]
    ·have h : s1 = false := h
     rw [← h1, if_neg (by rw [h]; decide), List.append_nil]
  ·rw [hg, List.take_length, he]; rfl
end Go.Ve

namespace Go.Ve
open Go
theorem zOF {n : Ty.El zS} {d : List Int} {v : Ty.El zV} (hv : zA7 n d v) {r i : Int} (h : upB v r i = true) : ∃ dm : Ty.El k8, zEz n dm.1 dm.2.1 (r, i, ()) ∧ (∀ e, e ∈ x9 v r i → zEz n dm.1 dm.2.1 e) := by
 have h0 := h
 unfold upB at h0
 simp only [Bool.and_eq_true, decide_eq_true_eq] at h0
 obtain ⟨dm, h1, h2⟩ := zFL (p := fun d : Ty.El k8 => d.2.2.1.any (zFl (r, i, ()))) (xs := v.2.1.1) h0.1
 obtain ⟨e, he, h3⟩ := List.any_eq_true.1 h2
 have h4 := zU6.1 h3
 subst h4
 have hall := (hv.topo.ends dm (List.mem_of_getElem? h1)).2
 refine ⟨dm, hall _ he, ?_⟩
 intro e' he'
 obtain ⟨d', hd', _, hee⟩ := zMf h
 have h1' : v.2.1.1[(kU v r i).toNat]? = some dm := h1
 rw [hd'] at h1'
 cases h1'
 rw [hee] at he'
 exact hall e' he'
theorem zTt {n : Ty.El zS} {d : List Int} {v : Ty.El zV} (hv : zA7 n d v) {r i : Int} (h : upB v r i = true) {e : Ty.El zJ} (he : e ∈ x9 v r i) (hr : e.1 = r) : e.2.1 = i := by
 obtain ⟨dm, ⟨a0, a1, rt, x, a2, a3, a4, _, a5, _⟩, hall⟩ := zOF hv h
 obtain ⟨b0, b1, rt', y, b2, b3, b4, _, b5, _⟩ := hall e he
 have a0 : (0 : Int) ≤ r := a0
 have a1 : (0 : Int) ≤ i := a1
 have a2 : n.1[r.toNat]? = some rt := a2
 have a3 : rt.2.2.1[i.toNat]? = some x := a3
 rw [hr, a2] at b2
 cases b2
 have hok := (zRf hv).rt rt (List.mem_of_getElem? a2)
 have c1 : some (zBL x.2.1 x.2.2.1) = some dm.1 := (wJ x.2.1 x.2.2.1).symm.trans a5
 have c2 : some (zBL y.2.1 y.2.2.1) = some dm.1 := (wJ y.2.1 y.2.2.1).symm.trans b5
 have hn : zBL x.2.1 x.2.2.1 = zBL y.2.1 y.2.2.1 := Option.some.inj (c1.trans c2.symm)
 have b1 : (0 : Int) ≤ e.2.1 := b1
 rcases Nat.lt_trichotomy i.toNat e.2.1.toNat with hlt | heq | hgt
 ·have := (hok.ifs _ y b3).apart _ x hlt a3 b4 a4
  rw [hn, zHP] at this
  cases this
 ·exact (show ∀ (p q : Int), 0 ≤ p → 0 ≤ q → p.toNat = q.toNat → q = p from fun p q h1 h2 h3 => by omega) i e.2.1 a1 b1 heq
 ·have := (hok.ifs _ x a3).apart _ y hgt b3 a4 b4
  rw [hn, zHP] at this
  cases this
theorem zUB {n : Ty.El zS} {d : List Int} {v : Ty.El zV} (hv : zA7 n d v) (r i : Int) : zDn v r i (fun e => e.1 != r || e.2.1 != i) = zDn v r i (fun e => e.1 != r) := by
 unfold zDn
 cases h : upB v r i with
 | false => rfl
 | true =>
  show (x9 v r i).filter _ = (x9 v r i).filter _
  refine List.filter_congr (fun e he => ?_)
  cases hb : (e.1 != r) with
  | true => rfl
  | false =>
   have hr : e.1 = r := by simpa using hb
   have := zTt hv h he hr
   simp [this]
end Go.Ve

namespace Go.Ve
open Go
def prB (x : Ty.El zBs) (p : Ty.El zG) : Bool := (decide (x.2.1.2.1 ≤ p.2.1) && zCV x.2.1 p.1) && (decide (x.2.2.1 ≤ p.2.1) && decide (p.2.1 ≤ x.2.2.2.1))
theorem zIQ (p q : Ty.El zG) : zBr (p, q, ()) = some (decide (p.2.1 ≤ q.2.1) && zCV p q.1) := by
 unfold zBr
 dsimp only
 rw [show xV (p, q.1, ()) = some (zCV p q.1) from zGJ p q.1]
 cases decide (p.2.1 ≤ q.2.1) <;> rfl
theorem zFY (x : Ty.El zBs) (p : Ty.El zG) : yB (x, p, ()) = some (prB x p) := by
 unfold yB prB
 dsimp only
 rw [show zBr (x.2.1, p, ()) = some (decide (x.2.1.2.1 ≤ p.2.1) && zCV x.2.1 p.1) from zIQ x.2.1 p]
 simp only [Option.bind_some]
 cases (decide (x.2.1.2.1 ≤ p.2.1) && zCV x.2.1 p.1) <;> cases decide (x.2.2.1 ≤ p.2.1) <;> rfl
theorem zHz (l : Ty.El wG) (p : Ty.El zG) (hl : l.2.1.length ≤ 20) : Wp (zBJ (l, p, ())) (fun k => k = zAR (fun x => prB x p) l.2.1) := by
 unfold zBJ
 dsimp only
 refine zBH (p := fun x : Ty.El zBs => prB x p) (by omega) ?_ rfl
 intro i x hx
 simp only [zN hx, Option.bind_some]
 rw [show yB (x, p, ()) = some (prB x p) from zFY x p]
 cases prB x p <;> rfl
def zJH (r : Ty.El zH) (nm : Ty.El .str) : Int := zAR (fun x : Ty.El wG => x.1 == nm) r.2.2.2.1
theorem zED (r : Ty.El zH) (nm : Ty.El .str) (hr : SmR r) : Wp (yV (r, nm, ())) (fun k => k = zJH r nm) := by
 unfold yV j7 xG
 dsimp only
 have := hr.i2
 refine zC (zBH (p := fun x : Ty.El wG => x.1 == nm) (by omega) ?_ (zB rfl))
 intro i x hx
 simp only [zN hx, Option.bind_some]
 cases x.1 == nm <;> rfl
def zGl (r : Ty.El zH) (nm : Ty.El .str) (p : Ty.El zG) : Bool :=
 bif nm == ({ data := #[] } : ByteArray) then true else
 bif decide (zJH r nm < 0) then false else
 match r.2.2.2.1[(zJH r nm).toNat]? with
 | some l => bif decide (zAR (fun x => prB x p) l.2.1 ≥ 0) then (match l.2.1[(zAR (fun x => prB x p) l.2.1).toNat]? with
  | some z => z.1
  | none => false) else false
 | none => false
theorem zBA (r : Ty.El zH) (nm : Ty.El .str) (p : Ty.El zG) (hr : SmR r) : Wp (yA (r, nm, p, ())) (fun b => b = zGl r nm p) := by
 unfold yA zGl
 dsimp only
 refine zF (fun h => zB (by rw [h]; rfl)) (fun h => ?_)
 rw [h]
 refine zC ((zED r nm hr).mono (fun k hk => ?_))
 subst hk
 refine zI (fun h1 => zB ?_) (fun h1 => ?_)
 ·have h1 : zJH r nm < 0 := h1
  simp [h1]
 ·have h1 : ¬ zJH r nm < 0 := h1
  obtain ⟨l, hl, _⟩ := zFL (p := fun x : Ty.El wG => x.1 == nm) (xs := r.2.2.2.1) (show 0 ≤ zJH r nm by omega)
  have hl : r.2.2.2.1[(zJH r nm).toNat]? = some l := hl
  simp only [jG hl (show 0 ≤ zJH r nm by omega), Option.bind_some]
  refine zC ((zHz l p (hr.n1 l (List.mem_of_getElem? hl))).mono (fun k hk => ?_))
  subst hk
  rw [hl]
  simp only [decide_eq_false h1, cond_false]
  refine zC (zI (fun h2 => ?_) (fun h2 => zB (zB ?_)))
  ·have h2 : zAR (fun x => prB x p) l.2.1 ≥ 0 := h2
   obtain ⟨z, hz, _⟩ := zFL h2
   simp only [jG hz h2, Option.bind_some]
   refine zB (zB ?_)
   simp only [hz, decide_eq_true h2, cond_true]
  ·have h2 : ¬ zAR (fun x => prB x p) l.2.1 ≥ 0 := h2
   simp only [decide_eq_false h2, cond_false]
end Go.Ve

namespace Go.Ve
open Go
theorem uS (v : Ty.El zV) (r i : Nat) (rt : Ty.El zH) (x : Ty.El qB) (hr : v.1.1[r]? = some rt) (hx : rt.2.2.1[i]? = some x) :
  Wp (jZ (v, (r : Int), (i : Int), ())) (fun y => y = (x, true, ())) := by
 unfold jZ
 dsimp only
 have hrl := (List.getElem?_eq_some_iff.1 hr).1
 have hil := (List.getElem?_eq_some_iff.1 hx).1
 have q0 : ¬ ((r : Int) < 0) := by omega
 have q1 : ¬ ((r : Int) ≥ (List.length v.1.1 : Int)) := by omega
 have q2 : ¬ ((i : Int) < 0) := by omega
 refine zC ((show Wp _ (fun s : Bool => s = false) from ?_).mono (fun s hs => ?_))
 ·refine zI (fun h => absurd h q0) (fun _ => zI (fun h => absurd h q1) (fun _ => zI (fun h => absurd h q2) (fun _ => ?_)))
  simp only [zN hr, Option.bind_some]
  refine zB ?_
  have : ¬ ((i : Int) ≥ (List.length rt.2.2.1 : Int)) := by omega
  exact decide_eq_false this
 ·subst hs
  simp only [cond_false, zN hr, zN hx, Option.bind_some]
  exact zB rfl
def yC (v : Ty.El zV) (rt : Ty.El zH) (x : Ty.El qB) (r i : Int) : Bool := rt.2.2.2.2.2.2.2.2.2.1.1 && (x.2.2.2.2.2.2.2.2.1 && upB v r i)
theorem vF (v : Ty.El zV) (r i : Nat) (rt : Ty.El zH) (x : Ty.El qB) (hv : zAX v) (hr : v.1.1[r]? = some rt) (hx : rt.2.2.1[i]? = some x) :
  Wp (jU (v, (r : Int), (i : Int), ())) (fun b => b = yC v rt x r i) := by
 unfold jU yC
 dsimp only
 refine zC ((uS v r i rt x hr hx).mono (fun y hy => ?_))
 subst hy
 simp only [cond_true, zN hr, Option.bind_some]
 refine zC ?_
 refine zF (fun h => ?_) (fun h => zB (zB ?_))
 ·rw [h]
  refine zF (fun h => ?_) (fun h => zB (zB ?_))
  ·rw [h]
   exact zC ((zHx v r i hv).mono (fun b hb => zB (zB (by rw [hb]; rfl))))
  ·rw [h]; rfl
 ·rw [h]; rfl
def zMG (rt from' : Ty.El zH) (y : Ty.El qB) (i : Int) (x : Ty.El zA) : Option (Ty.El zA) :=
 bif decide (x.2.2.2.2.1 < 15) && (zGl from' from'.2.2.2.2.2.2.2.2.2.1.2.2.2.1 x.1 && zGl rt rt.2.2.2.2.2.2.2.2.2.1.2.2.1 x.1) then
  some (x.1, (4 : Int), (3 : Int), rt.2.2.2.2.2.2.2.2.2.1.2.1, IntKind.wrap IntKind.i64 (x.2.2.2.2.1 + (1 : Int)), (0 : Int), x.2.2.2.2.2.2.1, (0 : Int), [], (0 : Int), (0 : Int), [(i, y.2.1, ())], false, ())
 else none
theorem zDe (v : Ty.El zV) (t : List (Ty.El zA)) (r q k : Nat) (i : Int) (rt from' : Ty.El zH) (y : Ty.El qB) (hr : v.1.1[r]? = some rt) (hq : v.1.1[q]? = some from') (hy : from'.2.2.1[k]? = some y)
  (h1 : SmR rt) (h2 : SmR from') (hl : t.length ≤ 12) :
  Wp (uF (v, t, (r : Int), i, ((q : Int), (k : Int), ()), ())) (fun l => l = t.filterMap (zMG rt from' y i)) := by
 unfold uF
 dsimp only
 simp only [zN hr, zN hq, Option.bind_some]
 refine zC ((uS v q k from' y hq hy).mono (fun z hz => ?_))
 subst hz
 refine zC (zA9 (xs := t) (by omega) (fun j (g : List (Ty.El zA)) => g = (t.take j).filterMap (zMG rt from' y i)) (by simp) ?_ (fun g hg => zB (by rw [hg, List.take_length])))
 intro j x g hx hg
 have hgl : g.length ≤ 12 := by rw [hg]; exact Nat.le_trans (List.length_filterMap_le _ _) (Nat.le_trans (List.length_take_le' _ _) hl)
 simp only [zN hx, Option.bind_some]
 rw [zLP hx, ← hg]
 refine zC ((show Wp _ (fun s : Bool × List (Ty.El zA) => s.1 = !(decide (x.2.2.2.2.1 < 15) && (zGl from' from'.2.2.2.2.2.2.2.2.2.1.2.2.2.1 x.1 && zGl rt rt.2.2.2.2.2.2.2.2.2.1.2.2.1 x.1)) ∧ s.2 = g) from ?_).mono (fun s hs => ?_))
 ·refine zI (fun h => zB ⟨?_, rfl⟩) (fun h => ?_)
  ·have h : ¬ x.2.2.2.2.1 < 15 := Int.not_lt.2 h
   rw [decide_eq_false h]; rfl
  ·have h : x.2.2.2.2.1 < 15 := Int.not_le.1 h
   rw [decide_eq_true h]
   refine zC ((zBA from' _ _ h2).mono (fun b hb => ?_))
   refine zF (fun hb' => zB ⟨?_, rfl⟩) (fun hb' => ?_)
   ·have hb' : b = false := by simpa using hb'
    rw [← hb, hb']; rfl
   ·have hb' : b = true := by simpa using hb'
    rw [← hb, hb']
    refine zC ((zBA rt _ _ h1).mono (fun c hc => zB ⟨?_, rfl⟩))
    rw [hc]; rfl
 ·obtain ⟨s1, s2⟩ := s
  obtain ⟨g1, g2⟩ := hs
  simp only at g1 g2
  subst g2
  unfold zMG
  refine zF (fun h => zB ?_) (fun h => ?_)
  ·have h : s1 = true := h
   rw [h] at g1
   have g1 := (Bool.not_eq_eq_eq_not).1 g1.symm
   rw [g1]; simp
  ·have h : s1 = false := h
   rw [h] at g1
   have g1 := (Bool.not_eq_eq_eq_not).1 g1.symm
   rw [g1]
   exact zC (zAq (by simp only [List.length_singleton]; omega) (zB rfl))
end Go.Ve

namespace Go.Ve
open Go
def zKb (v : Ty.El zV) (dv : List (List (Ty.El zA))) (rt : Ty.El zH) (i : Int) (e : Ty.El zJ) : List (Ty.El zA) :=
 match v.1.1[Int.toNat e.1]? with
 | some q => match q.2.2.1[Int.toNat e.2.1]?, dv[Int.toNat e.1]? with
  | some y, some t => bif yC v q y e.1 e.2.1 then t.filterMap (zMG rt q y i) else []
  | _, _ => []
 | none => []
def zKa (v : Ty.El zV) (dv : List (List (Ty.El zA))) (r : Int) (rt : Ty.El zH) (i : Nat) : List (Ty.El zA) :=
 match rt.2.2.1[i]? with
 | some x => bif yC v rt x r i then (zDn v r i (fun e => e.1 != r || e.2.1 != (i : Int))).flatMap (zKb v dv rt i) else []
 | none => []
def zDS (v : Ty.El zV) (dv : List (List (Ty.El zA))) (r : Int) (rt : Ty.El zH) : List (Ty.El zA) := (List.range rt.2.2.1.length).flatMap (zKa v dv r rt)
theorem zAi {α β : Type} {f : α → List β} {k : Nat} : ∀ {xs : List α}, (∀ x, x ∈ xs → (f x).length ≤ k) → (xs.flatMap f).length ≤ xs.length * k
 | [], _ => by simp
 | x :: xs, h => by
  have h1 := h x (by simp)
  have h2 := zAi (xs := xs) (fun y hy => h y (List.mem_cons_of_mem _ hy))
  simp only [List.flatMap_cons, List.length_append, List.length_cons, Nat.succ_mul]
  omega
theorem zIf {α β : Type} {f : α → List β} {xs : List α} {i : Nat} {x : α} (h : xs[i]? = some x) : (xs.take (i + 1)).flatMap f = (xs.take i).flatMap f ++ f x := by
 rw [List.take_add_one, h, List.flatMap_append]
 simp
theorem zPC {v : Ty.El zV} {dv : List (List (Ty.El zA))} {rt : Ty.El zH} {i : Int} {e : Ty.El zJ} (h : ∀ t, t ∈ dv → t.length ≤ 12) : (zKb v dv rt i e).length ≤ 12 := by
 unfold zKb
 split
 ·split
  ·rename_i q _ _ _ y t _ ht
   cases yC v q y e.1 e.2.1
   ·exact Nat.zero_le _
   ·exact Nat.le_trans (List.length_filterMap_le _ _) (h t (List.mem_of_getElem? ht))
  ·exact Nat.zero_le _
 ·exact Nat.zero_le _
theorem zLz {v : Ty.El zV} (hv : zAX v) (r i : Int) (p : Ty.El zJ → Bool) : (zDn v r i p).length ≤ 360 := by
 unfold zDn
 cases upB v r i
 ·exact Nat.zero_le _
 ·exact Nat.le_trans (List.length_filter_le _ _) (zL4 hv r i)
theorem zPB {v : Ty.El zV} (hv : zAX v) {dv : List (List (Ty.El zA))} {r : Int} {rt : Ty.El zH} {i : Nat} (h : ∀ t, t ∈ dv → t.length ≤ 12) : (zKa v dv r rt i).length ≤ 4320 := by
 unfold zKa
 split
 ·rename_i x _
  cases yC v rt x r i
  ·exact Nat.zero_le _
  ·have h1 := zLz hv r i (fun e => e.1 != r || e.2.1 != (i : Int))
   have h2 := zAi (xs := zDn v r i (fun e => e.1 != r || e.2.1 != (i : Int))) (f := zKb v dv rt i) (k := 12) (fun e _ => zPC h)
   show (List.flatMap _ _).length ≤ _
   omega
 ·exact Nat.zero_le _
theorem xJ (v : Ty.El zV) (hs : zAX v) (hE : ∀ (r i : Int) (e : Ty.El zJ), upB v r i = true → e ∈ x9 v r i → (0 : Int) ≤ e.1 ∧ (0 : Int) ≤ e.2.1 ∧ ∃ q y, v.1.1[Int.toNat e.1]? = some q ∧ q.2.2.1[Int.toNat e.2.1]? = some y) (dv : List (List (Ty.El zA))) (hdv : dv.length = v.1.1.length) (h12 : ∀ t, t ∈ dv → t.length ≤ 12) (r : Nat) (rt : Ty.El zH) (hr : v.1.1[r]? = some rt) :
  Wp (j9 (v, dv, (r : Int), ())) (fun l => l = zDS v dv r rt) := by
 unfold j9
 dsimp only
 have hrl := (List.getElem?_eq_some_iff.1 hr).1
 have hsm := hs.sm rt (List.mem_of_getElem? hr)
 have hil : rt.2.2.1.length ≤ 20 := hsm.i1
 have q0 : ¬ ((r : Int) < 0) := by omega
 have q1 : ¬ ((r : Int) ≥ (List.length v.1.1 : Int)) := by omega
 refine zC (zI (fun h => absurd h q0) (fun _ => zB ?_))
 refine zI (fun h => absurd h q1) (fun _ => ?_)
 simp only [zN hr, Option.bind_some]
 have hfl : ∀ i, ((List.range i).flatMap (zKa v dv r rt)).length ≤ i * 4320 := fun i => by
  have := zAi (xs := List.range i) (f := zKa v dv r rt) (k := 4320) (fun e _ => zPB hs h12)
  rwa [List.length_range] at this
 refine zC (zA9 (xs := rt.2.2.1) (by omega) (fun i (g : List (Ty.El zA)) => g = (List.range i).flatMap (zKa v dv r rt)) rfl ?_ (fun g hg => zB hg))
 intro i x g hx hg
 have hi := (List.getElem?_eq_some_iff.1 hx).1
 have hgl : g.length ≤ i * 4320 := by rw [hg]; exact hfl i
 have yE : (List.range (i + 1)).flatMap (zKa v dv r rt) = g ++ zKa v dv r rt i := by
  rw [List.range_succ, List.flatMap_append, ← hg]
  simp
 rw [yE]
 have hI : zKa v dv r rt i = bif yC v rt x r i then (zDn v r i (fun e => e.1 != (r : Int) || e.2.1 != (i : Int))).flatMap (zKb v dv rt i) else [] := by unfold zKa; rw [hx]
 rw [hI]
 refine zC ((vF v r i rt x hs hr hx).mono (fun b hb => ?_))
 subst hb
 refine zF (fun h => zB ?_) (fun h => ?_)
 ·have h : yC v rt x r i = false := by simpa using h
  rw [h]; simp
 have h : yC v rt x r i = true := by simpa using h
 rw [h]
 refine zC ((zFV v r i hs).mono (fun ns hns => ?_))
 have hnl : ns.length ≤ 360 := by rw [hns]; exact zLz hs _ _ _
 have hup : upB v r i = true := by
  unfold yC at h
  simp only [Bool.and_eq_true] at h
  exact h.2.2
 have hmem : ∀ e, e ∈ ns → e ∈ x9 v r i := by
  intro e he
  rw [hns] at he
  unfold zDn at he
  rw [hup] at he
  exact (List.mem_filter.1 he).1
 refine (zA9 (xs := ns) (by omega) (fun j (g' : List (Ty.El zA)) => g' = g ++ (ns.take j).flatMap (zKb v dv rt i)) (by simp) ?_ (fun g' hg' => by rw [hg', List.take_length, hns]; rfl))
 intro j e g' he hg'
 have hj := (List.getElem?_eq_some_iff.1 he).1
 have hg'l : g'.length ≤ i * 4320 + 4320 := by
  have h2 := zAi (xs := ns.take j) (f := zKb v dv rt i) (k := 12) (fun e _ => zPC h12)
  have h3 := List.length_take_le' j ns
  rw [hg', List.length_append]
  omega
 simp only [zN he, Option.bind_some]
 rw [zIf he, ← List.append_assoc, ← hg']
 obtain ⟨b0, b1, q, y, b2, b3⟩ := hE _ _ e hup (hmem e (List.mem_of_getElem? he))
 obtain ⟨e1, e2, ⟨⟩⟩ := e
 obtain ⟨qn, rfl⟩ := Int.eq_ofNat_of_zero_le (show (0 : Int) ≤ e1 from b0)
 obtain ⟨kn, rfl⟩ := Int.eq_ofNat_of_zero_le (show (0 : Int) ≤ e2 from b1)
 have b2 : v.1.1[qn]? = some q := b2
 have b3 : q.2.2.1[kn]? = some y := b3
 have c2 : v.1.1[qn]? = some q := b2
 have hql := (List.getElem?_eq_some_iff.1 b2).1
 have hqd : qn < dv.length := by omega
 have ht : dv[qn]? = some dv[qn] := by simp [hqd]
 have hE : zKb v dv rt i ((qn : Int), (kn : Int), ()) = bif yC v q y qn kn then dv[qn].filterMap (zMG rt q y i) else [] := by
  unfold zKb
  simp only [Int.toNat_natCast, c2, b3, ht]
 rw [hE]
 refine zC ((show Wp _ (fun s : Bool × List (Ty.El zA) => s.1 = yC v q y qn kn ∧ s.2 = g') from ?_).mono (fun s hs' => ?_))
 ·refine zC ((vF v qn kn q y hs c2 b3).mono (fun b hb => ?_))
  subst hb
  refine zF (fun hb => zB ⟨?_, rfl⟩) (fun hb => zB ⟨?_, rfl⟩)
  ·rw [hb]
   have : ((qn : Int) < (dv.length : Int)) := by omega
   exact decide_eq_true this
  ·rw [hb]
 ·obtain ⟨s1, s2⟩ := s
  obtain ⟨k1, k2⟩ := hs'
  simp only at k1 k2
  subst k2
  refine zF (fun hb => ?_) (fun hb => zB ?_)
  ·have hb : s1 = true := hb
   rw [← k1, hb]
   simp only [zN ht, Option.bind_some]
   have h12' := h12 dv[qn] (List.getElem_mem _)
   refine zC ((zDe v dv[qn] r qn kn i rt q y hr c2 b3 hsm (hs.sm q (List.mem_of_getElem? c2)) h12').mono (fun l hl => ?_))
   subst hl
   have := Nat.le_trans (List.length_filterMap_le (zMG rt q y i) dv[qn]) h12'
   exact zC (zAq (by omega) (zB rfl))
  ·have hb : s1 = false := hb
   rw [← k1, hb]; simp
theorem zDf (n : Ty.El zS) (d : List Int) (v : Ty.El zV) (hv : zA7 n d v) (dv : List (List (Ty.El zA))) (hdv : dv.length = n.1.length) (h12 : ∀ t, t ∈ dv → t.length ≤ 12) (r : Nat) (rt : Ty.El zH) (hr : v.1.1[r]? = some rt) :
  Wp (j9 (v, dv, (r : Int), ())) (fun l => l = zDS v dv r rt) := by
 refine xJ v hv.s ?_ dv (by rw [hv.net]; exact hdv) h12 r rt hr
 intro r i e hup he
 obtain ⟨dm, _, hall⟩ := zOF hv hup
 obtain ⟨b0, b1, q, y, b2, b3, _⟩ := hall e he
 exact ⟨b0, b1, q, y, by rw [hv.net]; exact b2, b3⟩
end Go.Ve

namespace Go.Ve
open Go
set_option maxRecDepth 1000000
set_option maxHeartbeats 4000000
structure zIE (l : List (Ty.El zA)) (proto : Int) : Prop where
 val : ∀ x, x ∈ l → wV (x, ()) = some true
 pr : proto ≠ 0 → ∀ x, x ∈ l → x.2.1 = proto
 so : ∀ i x y, l[i]? = some x → l[i + 1]? = some y → rlt x y
theorem zTA (l : List (Ty.El zA)) (proto : Int) (hl : l.length ≤ 1048576) (hs : ∀ y, y ∈ l → RtS y) : Wp (zCH (l, proto, ())) (fun b => b = true → zIE l proto) := by
 unfold zCH
 dsimp only
 refine zBa (by omega) (fun i => ∀ m x, m < i → l[m]? = some x → wV (x, ()) = some true ∧ (proto ≠ 0 → x.2.1 = proto) ∧ (∀ j y, m = j + 1 → l[j]? = some y → rlt y x)) (fun m x hm => by omega) ?_ (fun hj => zB (fun _ => ?_))
 ·intro i x hx hj
  have hi := (List.getElem?_eq_some_iff.1 hx).1
  simp only [zN hx, Option.bind_some]
  have hcmp : (i : Int) > 0 → Wp (Option.bind (idx l (IntKind.wrap IntKind.i64 ((i : Int) - (1 : Int)))) fun (y44 : Ty.El zA) => Option.bind (vN (y44.1, x.1, ())) fun (y46 : Int) => some (decide (y46 ≥ (0 : Int)))) (fun s => s = false → ∀ j y, i = j + 1 → l[j]? = some y → rlt y x) := by
   intro h0
   rw [zD (by omega) (by omega), show ((i : Int) - 1) = ((i - 1 : Nat) : Int) by omega]
   obtain ⟨yy, hy⟩ : ∃ yy, l[i - 1]? = some yy := ⟨l[i - 1]'(by omega), by simp⟩
   refine zC (qU (zN hy) (zC (qU (zCC _ _) (zB ?_))))
   intro h j y hji hyj
   rw [show i - 1 = j by omega] at hy
   rw [hy] at hyj
   cases hyj
   have h := of_decide_eq_false h
   exact zIx.1 (Int.not_le.1 h)
  refine zC ((show Wp _ (fun s : Bool => s = false → wV (x, ()) = some true ∧ (proto ≠ 0 → x.2.1 = proto) ∧ (∀ j y, i = j + 1 → l[j]? = some y → rlt y x)) from ?_).mono (fun s hs' => ?_))
  ·refine uY ((zJ3 x (hs x (List.mem_of_getElem? hx))).mono (fun _ _ => trivial)) (fun b hb => zF (fun _ => zB (fun h => by cases h)) (fun hb' => ?_))
   have hv : wV (x, ()) = some true := by
    rw [hb]
    have h : (!b) = false := hb'
    cases b
    ·cases h
    ·rfl
   refine zF (fun hp => zF (fun _ => zB (fun h => by cases h)) (fun hpe => ?_)) (fun hp => ?_)
   ·have hpe : x.2.1 = proto := by simpa using hpe
    refine zI (fun h => (hcmp h).mono (fun s h2 h3 => ⟨hv, fun _ => hpe, h2 h3⟩)) (fun h => zB (fun _ => ⟨hv, fun _ => hpe, fun j y hj' => ?_⟩))
    omega
   ·have hp : proto = 0 := by simpa using hp
    refine zI (fun h => (hcmp h).mono (fun s h2 h3 => ⟨hv, fun hh => absurd hp hh, h2 h3⟩)) (fun h => zB (fun _ => ⟨hv, fun hh => absurd hp hh, fun j y hj' => ?_⟩))
    omega
  ·refine zF (fun _ => zB (fun h => by cases h)) (fun h => zB (e2l ⟨rfl, ?_⟩))
   intro m z hm hz
   rcases Nat.lt_or_ge m i with h' | h'
   ·exact hj m z h' hz
   ·have : m = i := by omega
    subst this
    rw [hx] at hz
    cases hz
    exact hs' h
 ·have hall : ∀ m x, l[m]? = some x → _ := fun m x hx => hj m x (List.getElem?_eq_some_iff.1 hx).1 hx
  refine ⟨fun x hx => ?_, fun hp x hx => ?_, fun i x y hx hy => (hall (i + 1) y hy).2.2 i x rfl hx⟩
  ·obtain ⟨m, hm, rfl⟩ := List.getElem_of_mem hx
   exact (hall m _ (by simp [hm])).1
  ·obtain ⟨m, hm, rfl⟩ := List.getElem_of_mem hx
   exact (hall m _ (by simp [hm])).2.1 hp
structure DvR (x : Ty.El zA) : Prop where
 pre : zGu x.1 = true
 tag : 0 ≤ x.2.2.2.2.2.2.1 ∧ x.2.2.2.2.2.2.1 ≤ 65535
 met : 1 ≤ x.2.2.2.2.1 ∧ x.2.2.2.2.1 ≤ 15
 path : x.2.2.2.2.2.2.2.2.1 = []
theorem zTz (x : Ty.El zA) (c : Bool) : Wp (wU (x, false, false, c, ())) (fun b => b = true → x.2.2.2.2.2.2.2.2.1 = []) := by
 unfold wU
 dsimp only
 refine zC (zF (fun h => by cases h) (fun _ => zF (fun _ => zF (fun h => by cases h) (fun _ => zF (fun _ => zF (fun hp => ?_) (fun _ => ?_)) (fun _ => ?_))) (fun _ => ?_)))
 ·have hp : x.2.2.2.2.2.2.2.2.1 = [] := by
   have : (x.2.2.2.2.2.2.2.2.1.length : Int) = 0 := by simpa using hp
   exact List.length_eq_zero_iff.1 (by omega)
  repeat' (first
   | exact zB (zB (fun _ => hp))
   | refine zF (fun _ => ?_) (fun _ => ?_))
 all_goals exact zB (zB (fun h => by cases h))
theorem zRS (x : Ty.El zA) (hs : RtS x) (h4 : x.2.1 = 4) : Wp (wV (x, ())) (fun b => b = true → DvR x) := by
 unfold wV
 dsimp only
 refine zC ((show Wp _ (fun s : Bool => s = false → zGu x.1 = true ∧ (0 ≤ x.2.2.2.2.2.2.1 ∧ x.2.2.2.2.2.2.1 ≤ 65535) ∧ x.2.2.2.2.2.2.2.2.1.length ≤ 64) from ?_).mono (fun s hs' => ?_))
 ·refine zC (qU (zEk _) (zF (fun _ => zB (fun h => by cases h)) (fun h1 => zC (qU (uR _ _ _) (zF (fun _ => zB (fun h => by cases h)) (fun h2 => zB (fun h3 => ⟨by simpa using h1, by simpa using h2, ?_⟩)))))))
  have := of_decide_eq_false h3
  omega
 refine zF (fun _ => zB (fun h => by cases h)) (fun h => ?_)
 obtain ⟨g1, g2, g3⟩ := hs' h
 refine zDA (P := fun _ => True) (by omega) ?_ (fun _ => ?_)
 ·intro i y hy
  simp only [zN hy, Option.bind_some]
  exact zC (qU (uR _ _ _) (zF (fun _ => zB (fun h => by cases h)) (fun _ => zB (e2l ⟨rfl, trivial⟩))))
 ·have k1 : (x.2.1 == (1 : Int)) = false := by rw [h4]; rfl
  have k2 : (x.2.1 == (2 : Int)) = false := by rw [h4]; rfl
  have k3 : (x.2.1 == (3 : Int)) = false := by rw [h4]; rfl
  have k4 : (x.2.1 == (4 : Int)) = true := by rw [h4]; rfl
  rw [k1, k2, k3, k4]
  simp only [cond_false, cond_true]
  refine zC (Wp.mono (Q := fun b => b = true → DvR x) ?_ (fun b hb => zB hb))
  unfold wN
  dsimp only
  refine zC ((show Wp _ (fun s : Bool => s = false → (1 ≤ x.2.2.2.2.1 ∧ x.2.2.2.2.1 ≤ 15) ∧ x.2.2.2.2.2.2.2.2.1 = []) from ?_).mono (fun s hs2 => ?_))
  ·refine zC (qU (uR _ _ _) (zF (fun _ => zB (fun h => by cases h)) (fun _ => ?_)))
   refine zC (qU (uR _ _ _) (zF (fun _ => zB (fun h => by cases h)) (fun h2 => ?_)))
   refine zC ((zTz x false).mono (fun b hb => zF (fun _ => zB (fun h => by cases h)) (fun h3 => zB (fun _ => ?_))))
   exact ⟨by simpa using h2, hb (by simpa using h3)⟩
  refine zF (fun _ => zB (fun h => by cases h)) (fun h5 => ?_)
  obtain ⟨g4, g5⟩ := hs2 h5
  have fin : DvR x := ⟨g1, g2, g4, g5⟩
  have hh := hs.hops
  have hho : ∀ d, Wp (w7 (x.2.2.2.2.2.2.2.2.2.2.2.1, d, ())) (fun _ => True) := fun d => kF _ _ hh
  repeat' (first
   | exact zB (fun _ => fin)
   | refine zC ((hho _).mono (fun _ _ => ?_))
   | refine zC (Wp.mono (Q := fun _ => True) ?_ (fun _ _ => zB (fun _ => fin)))
   | exact zB trivial
   | refine zF (fun _ => ?_) (fun _ => ?_))
end Go.Ve

namespace Go.Ve
open Go
theorem zJ7 (t : List (Ty.El zA)) (p : Ty.El zG) (hl : t.length < 4611686018427387904) : Wp (zDQ (t, p, ())) (fun k => k = zAR (fun x => zCu x.1 p) t) := by
 unfold zDQ
 dsimp only
 refine zBH (p := fun x : Ty.El zA => zCu x.1 p) hl ?_ rfl
 intro i x hx
 simp only [zN hx, Option.bind_some]
 show (bif zCu x.1 p then _ else _) = _
 cases zCu x.1 p <;> rfl
structure zSH (m : Nat) (dv : List (List (Ty.El zA))) : Prop where
 len : dv.length = m
 one : ∀ t, t ∈ dv → t.length ≤ 12 ∧ zIE t 4 ∧ ∀ x, x ∈ t → DvR x
theorem zTB (v : Ty.El zV) (dv : List (List (Ty.El zA))) (hs : ∀ t, t ∈ dv → ∀ y, y ∈ t → RtS y) (hl : v.1.1.length ≤ 9) : Wp (zCN (v, dv, ())) (fun b => b = true → zSH v.1.1.length dv) := by
 unfold zCN
 dsimp only
 refine zF (fun _ => zB (fun h => by cases h)) (fun h => ?_)
 have hlen : dv.length = v.1.1.length := by
  have h' : ((List.length dv : Int) == (List.length v.1.1 : Int)) = true := by simpa using h
  have := (beq_iff_eq).1 h'
  omega
 refine zBa (by omega) (fun i => ∀ m t, m < i → dv[m]? = some t → t.length ≤ 12 ∧ zIE t 4 ∧ ∀ x, x ∈ t → DvR x) (fun m t hm => by omega) ?_ (fun hj => zB (fun _ => ⟨hlen, fun t ht => ?_⟩))
 ·intro i t ht hj
  have hst := hs t (List.mem_of_getElem? ht)
  simp only [zN ht, Option.bind_some]
  refine zC ((show Wp _ (fun s : Bool => s = false → t.length ≤ 12 ∧ zIE t 4 ∧ ∀ x, x ∈ t → DvR x) from ?_).mono (fun s hs' => ?_))
  ·refine zI (fun _ => zB (fun h => by cases h)) (fun h => ?_)
   have h12 : t.length ≤ 12 := by
    have : ¬ ((List.length t : Int) > 12) := h
    omega
   refine zC ((zTA t 4 (by omega) hst).mono (fun b hb => zB (fun h => ?_)))
   have htab := hb (by simpa using h)
   refine ⟨h12, htab, fun x hx => ?_⟩
   have hx4 := htab.pr (by decide) x hx
   obtain ⟨b', hb1, hb2⟩ := zRS x (hst x hx) hx4
   rw [htab.val x hx] at hb1
   exact hb2 (Option.some.inj hb1).symm
  ·refine zF (fun _ => zB ?_) (fun h => zB ?_)
   ·exact fun h => by cases h
   ·have h : s = false := h
    refine ⟨rfl, ?_⟩
    intro m t' hm ht'
    by_cases hmi : m = i
    ·subst hmi
     rw [ht] at ht'
     cases ht'
     exact hs' h
    ·exact hj m t' (by omega) ht'
 ·obtain ⟨m, hm, hme⟩ := List.getElem_of_mem ht
  exact hj m t hm (by rw [List.getElem?_eq_getElem hm, hme])
end Go.Ve

namespace Go.Ve
open Go
def zOV (v : Ty.El zV) (e : Ty.El zJ) : Option Int := match v.1.1[Int.toNat e.1]? with
 | some q => match q.2.2.1[Int.toNat e.2.1]? with
  | some y => some y.2.1
  | none => none
 | none => none
theorem zU5 {n : Ty.El zS} {d : List Int} {v : Ty.El zV} (hv : zA7 n d v) {p : Ty.El zG} {vl : Int} {e e' : Ty.El zJ} (h : zEz n p vl e) (h' : zEz n p vl e') {a : Int} (ha : zOV v e = some a) (ha' : zOV v e' = some a) : e' = e := by
 obtain ⟨a0, a1, rt, x, a2, a3, a4, _, a5, _⟩ := h
 obtain ⟨b0, b1, rt', y, b2, b3, b4, _, b5, _⟩ := h'
 have a2' : v.1.1[Int.toNat e.1]? = some rt := by rw [hv.net]; exact a2
 have b2' : v.1.1[Int.toNat e'.1]? = some rt' := by rw [hv.net]; exact b2
 unfold zOV at ha ha'
 rw [a2'] at ha
 rw [b2'] at ha'
 simp only [a3, Option.some.injEq] at ha
 simp only [b3, Option.some.injEq] at ha'
 have key : ∀ (p q : Int), 0 ≤ p → 0 ≤ q → p.toNat = q.toNat → q = p := fun p q h1 h2 h3 => by omega
 by_cases hr : Int.toNat e.1 = Int.toNat e'.1
 ·have hr1 : e'.1 = e.1 := key e.1 e'.1 a0 b0 hr
  rw [← hr, a2] at b2
  cases b2
  have hok := (zRf hv).rt rt (List.mem_of_getElem? a2)
  have c1 : some (zBL x.2.1 x.2.2.1) = some p := (wJ x.2.1 x.2.2.1).symm.trans a5
  have c2 : some (zBL y.2.1 y.2.2.1) = some p := (wJ y.2.1 y.2.2.1).symm.trans b5
  have hn : zBL x.2.1 x.2.2.1 = zBL y.2.1 y.2.2.1 := Option.some.inj (c1.trans c2.symm)
  have hi : e'.2.1 = e.2.1 := by
   rcases Nat.lt_trichotomy (Int.toNat e.2.1) (Int.toNat e'.2.1) with hlt | heq | hgt
   ·have := (hok.ifs _ y b3).apart _ x hlt a3 b4 a4
    rw [hn, zHP] at this
    cases this
   ·exact key e.2.1 e'.2.1 a1 b1 heq
   ·have := (hok.ifs _ x a3).apart _ y hgt b3 a4 b4
    rw [hn, zHP] at this
    cases this
  obtain ⟨e1, e2, ⟨⟩⟩ := e
  obtain ⟨f1, f2, ⟨⟩⟩ := e'
  exact Prod.ext hr1 (Prod.ext hi rfl)
 ·exact absurd (ha.trans ha'.symm) ((zRf hv).addr _ _ rt rt' hr a2 b2 x y (List.mem_of_getElem? a3) (List.mem_of_getElem? b3) a4 b4)
theorem zMA (v : Ty.El zV) (e : Ty.El zJ) (q : Ty.El zH) (y : Ty.El qB) (h0 : (0 : Int) ≤ e.1) (h1 : (0 : Int) ≤ e.2.1) (hq : v.1.1[Int.toNat e.1]? = some q) (hy : q.2.2.1[Int.toNat e.2.1]? = some y) : Wp (zHI (v, e, ())) (fun x => x = y) := by
 unfold zHI
 dsimp only
 simp only [jG hq h0, jG hy h1, Option.bind_some]
 exact zB rfl
end Go.Ve

namespace Go.Ve
open Go
theorem zIP (n : Ty.El zS) (d : List Int) (v : Ty.El zV) (hv : zA7 n d v) (r i : Int) (a : Int) (e : Ty.El zJ) (he : e ∈ zDn v r i (fun e => e.1 != r)) (ha : zOV v e = some a) :
  Wp (zCI (v, r, i, a, ())) (fun z => z = (e, true, ())) := by
 unfold zCI
 dsimp only
 have hs := hv.s
 have hup : upB v r i = true := by
  unfold zDn at he
  cases h : upB v r i with
  | true => rfl
  | false => rw [h] at he; cases he
 obtain ⟨dm, _, hall⟩ := zOF hv hup
 have hin : ∀ e, e ∈ zDn v r i (fun e => e.1 != r) → zEz n dm.1 dm.2.1 e := by
  intro e he
  unfold zDn at he
  rw [hup] at he
  exact hall e (List.mem_filter.1 he).1
 refine zC ((zE1 v r i hs).mono (fun ns hns => ?_))
 have hnl : ns.length ≤ 360 := by rw [hns]; exact zLz hs _ _ _
 rw [← hns] at he hin
 refine qD ?_
 refine wD (fun (s : Int × Ty.El zJ) => ∃ j : Nat, s.1 = (j : Int) ∧ j ≤ ns.length ∧ ∀ m e', m < j → ns[m]? = some e' → zOV v e' ≠ some a) (fun (s : Int × Ty.El zJ) => ((ns.length : Int) - s.1).toNat) ⟨(0 : Nat), rfl, Nat.zero_le _, fun m e' hm => by omega⟩ ?_
 rintro ⟨s, c⟩ ⟨j, hj, hle, hJ⟩
 simp only at hj
 subst hj
 refine zI ?_ ?_
 ·intro hc
  have hc : (j : Int) < (ns.length : Int) := hc
  have hjl : j < ns.length := by omega
  have hx : ns[j]? = some ns[j] := by simp [hjl]
  generalize ns[j] = x at hx
  have hxok := hin x (List.mem_of_getElem? hx)
  have hxok' := hxok
  obtain ⟨b0, b1, q, y, b2, b3, _⟩ := hxok
  have c2 : v.1.1[Int.toNat x.1]? = some q := by rw [hv.net]; exact b2
  have hadr : zOV v x = some y.2.1 := by unfold zOV; rw [c2]; simp only [b3]
  simp only [zN hx, Option.bind_some]
  refine zC ((zMA v x q y b0 b1 c2 b3).mono (fun z hz => ?_))
  rw [hz]
  refine zF (fun h => zB ?_) (fun h => zB ?_)
  ·have h : y.2.1 = a := by simpa using h
   have := zU5 hv (hin e he) hxok' (a := a) ha (by rw [hadr, h])
   show (x, true, ()) = (e, true, ())
   rw [this]
  ·have h : ¬ y.2.1 = a := by simpa using h
   have hw : IntKind.wrap IntKind.i64 ((j : Int) + 1) = ((j + 1 : Nat) : Int) := by rw [zD (by omega) (by omega)]; omega
   refine ⟨⟨j + 1, hw, by omega, ?_⟩, ?_⟩
   ·intro m e' hm he'
    by_cases hmj : m = j
    ·subst hmj
     rw [hx] at he'
     cases he'
     rw [hadr]
     intro hh
     exact h (Option.some.inj hh)
    ·exact hJ m e' (by omega) he'
   ·show ((ns.length : Int) - IntKind.wrap IntKind.i64 ((j : Int) + 1)).toNat < ((ns.length : Int) - (j : Int)).toNat
    rw [hw]; omega
 ·intro hc
  have hc : ¬ (j : Int) < (ns.length : Int) := hc
  have hjl : j = ns.length := by omega
  obtain ⟨m, hm, hme⟩ := List.getElem_of_mem he
  exact absurd ha (hJ m e (by omega) (by rw [List.getElem?_eq_getElem hm, hme]))
end Go.Ve

namespace Go.Ve
open Go
theorem zPR {v : Ty.El zV} {dv : List (List (Ty.El zA))} {rt : Ty.El zH} {i : Int} {e : Ty.El zJ} {x : Ty.El zA} (h : x ∈ zKb v dv rt i e) :
  ∃ q y t x0, v.1.1[Int.toNat e.1]? = some q ∧ q.2.2.1[Int.toNat e.2.1]? = some y ∧ dv[Int.toNat e.1]? = some t ∧ yC v q y e.1 e.2.1 = true ∧ x0 ∈ t ∧ zMG rt q y i x0 = some x := by
 unfold zKb at h
 cases hq : v.1.1[Int.toNat e.1]? with
 | none => rw [hq] at h; cases h
 | some q =>
  rw [hq] at h
  simp only at h
  cases hy : q.2.2.1[Int.toNat e.2.1]? with
  | none => rw [hy] at h; cases h
  | some y =>
   cases ht : dv[Int.toNat e.1]? with
   | none => rw [hy, ht] at h; cases h
   | some t =>
    rw [hy, ht] at h
    simp only at h
    cases hp : yC v q y e.1 e.2.1 with
    | false => rw [hp] at h; cases h
    | true =>
     rw [hp] at h
     obtain ⟨x0, h1, h2⟩ := List.mem_filterMap.1 h
     exact ⟨q, y, t, x0, rfl, hy, rfl, hp, h1, h2⟩
theorem zPQ {v : Ty.El zV} {dv : List (List (Ty.El zA))} {r : Int} {rt : Ty.El zH} {x : Ty.El zA} (h : x ∈ zDS v dv r rt) :
  ∃ (i : Nat) (z : Ty.El qB) (e : Ty.El zJ), rt.2.2.1[i]? = some z ∧ yC v rt z r i = true ∧ e ∈ zDn v r i (fun e => e.1 != r || e.2.1 != (i : Int)) ∧ x ∈ zKb v dv rt i e := by
 unfold zDS at h
 obtain ⟨i, _, hi⟩ := List.mem_flatMap.1 h
 unfold zKa at hi
 cases hz : rt.2.2.1[i]? with
 | none => rw [hz] at hi; cases hi
 | some z =>
  rw [hz] at hi
  simp only at hi
  cases hp : yC v rt z r i with
  | false => rw [hp] at hi; cases hi
  | true =>
   rw [hp] at hi
   obtain ⟨e, h1, h2⟩ := List.mem_flatMap.1 hi
   exact ⟨i, z, e, hz, hp, h1, h2⟩
end Go.Ve

namespace Go.Ve
open Go
theorem zV4 {t : List (Ty.El zA)} {x : Ty.El zA} (hx : x ∈ t) (ha : ∀ y, y ∈ t → y.1 = x.1 → y = x) : 0 ≤ zAR (fun y => zCu y.1 x.1) t ∧ t[(zAR (fun y => zCu y.1 x.1) t).toNat]? = some x := by
 have h0 : 0 ≤ zAR (fun y : Ty.El zA => zCu y.1 x.1) t := zCR.2 (List.any_eq_true.2 ⟨x, hx, zAD.2 rfl⟩)
 obtain ⟨y, hy, hp⟩ := zFL h0
 have := ha y (List.mem_of_getElem? hy) (zAD.1 hp)
 rw [this] at hy
 exact ⟨h0, hy⟩
end Go.Ve

namespace Go.Ve
open Go
set_option maxRecDepth 1000000
set_option maxHeartbeats 4000000
theorem tt {α : Type} {c : Bool} {x y : Option α} {Q : α → Prop} (hc : c = true) (h : Wp x Q) : Wp (bif c then x else y) Q := by rw [hc]; exact h
theorem ff {α : Type} {c : Bool} {x y : Option α} {Q : α → Prop} (hc : c = false) (h : Wp y Q) : Wp (bif c then x else y) Q := by rw [hc]; exact h
end Go.Ve

namespace Go.Ve
open Go
def zU9 {α : Type} (f : List V → Option (α × List V)) : List V → Option (List α)
 | [] => some []
 | e :: r => match f e.cells with
  | some (x, []) => match zU9 f r with
   | some xs => some (x :: xs)
   | none => none
  | _ => none
def Ty.unc : (t : Ty) → List V → Option (t.El × List V)
 | .pair a b, cs => match a.unc cs with
  | some (x, r) => match b.unc r with
   | some (y, r) => some ((x, y), r)
   | none => none
  | none => none
 | .sl t, cs => match cs with
  | .sl es :: r => match zU9 t.unc es with
   | some xs => some (xs, r)
   | none => none
  | cs => zGB t cs
 | .int k, cs => zDG k cs
 | .bool, cs => zBY cs
 | .str, cs => zDF cs
 | .unit, cs => some ((), cs)
 | .rf, cs => zGC cs
theorem zQl {α : Type} {f : List V → Option (α × List V)} : ∀ {es : List V} {xs : List α}, zU9 f es = some xs → es.length = xs.length ∧ ∀ (i : Nat) (x : α), xs[i]? = some x → ∃ e, es[i]? = some e ∧ f e.cells = some (x, [])
 | [], xs, h => by simp only [zU9, Option.some.injEq] at h; subst h; exact ⟨rfl, fun i x h => by simp at h⟩
 | e :: r, xs, h => by
  simp only [zU9] at h
  split at h
  ·rename_i x hx
   split at h
   ·rename_i xs' hxs
    simp only [Option.some.injEq] at h
    subst h
    obtain ⟨h1, h2⟩ := zQl hxs
    refine ⟨by simp [h1], fun i y hy => ?_⟩
    cases i with
    | zero => simp only [List.getElem?_cons_zero, Option.some.injEq] at hy; subst hy; exact ⟨e, rfl, hx⟩
    | succ i => exact h2 i y (by simpa using hy)
   ·cases h
  ·cases h
theorem zVw {t : Ty} {es : List V} {xs : List t.El} (hl : es.length = xs.length) (h : ∀ (i : Nat) (e : V) (x : t.El), es[i]? = some e → xs[i]? = some x → j5 e.cells (t.cells x)) : WkV (.sl es) (.tl t xs) := by
 intro w F v hr
 refine .tl t xs v ?_
 cases hr with
 | slemp a cap =>
  have : xs = [] := List.eq_nil_of_length_eq_zero hl.symm
  subst this
  exact .slemp a cap
 | sl b off cap k _ g hFb hcap hk hg hr =>
  have hel : es.length = (xs.map t.enc).length := by simpa using hl
  rw [hel] at hg hcap ⊢
  refine .sl b off cap k _ g hFb hcap ?_ hg ?_
  ·intro e he
   simp only [List.mem_map] at he
   obtain ⟨x, hx, rfl⟩ := he
   obtain ⟨j, hj⟩ := List.getElem?_of_mem hx
   have hjl : j < es.length := by rw [hl]; exact (List.getElem?_eq_some_iff.1 hj).1
   have h1 := (h j es[j] x (by simp [hjl]) hj).len
   rw [qM, ← h1]
   exact hk _ (List.getElem_mem hjl)
  ·intro i j e d hi hj
   simp only [List.getElem?_map, Option.map_eq_some_iff] at hi
   obtain ⟨x, hx, rfl⟩ := hi
   rw [qM] at hj
   have hil : i < es.length := by rw [hl]; exact (List.getElem?_eq_some_iff.1 hx).1
   have h1 := h i es[i] x (by simp [hil]) hx
   have hjl : j < (es[i]).cells.length := by rw [h1.len]; exact (List.getElem?_eq_some_iff.1 hj).1
   exact h1.get j _ d (List.getElem?_eq_getElem hjl) hj w F _ (hr i j es[i] _ (by simp [hil]) (List.getElem?_eq_getElem hjl))
theorem zNd : ∀ (t : Ty) (cs : List V) (x : t.El) (r : List V), t.unc cs = some (x, r) → ∃ cs1, cs = cs1 ++ r ∧ j5 cs1 (t.cells x) := by
 intro t
 induction t with
 | int k => exact fun cs x r h => q8 (.int k) cs x r h
 | bool => exact fun cs x r h => q8 .bool cs x r h
 | str => exact fun cs x r h => q8 .str cs x r h
 | unit => exact fun cs x r h => q8 .unit cs x r h
 | rf => exact fun cs x r h => q8 .rf cs x r h
 | pair a b iha ihb =>
  intro cs x r h
  simp only [Ty.unc] at h
  split at h
  ·rename_i xa r1 h1
   split at h
   ·rename_i xb r2 h2
    simp only [Option.some.injEq, Prod.mk.injEq] at h
    obtain ⟨rfl, rfl⟩ := h
    obtain ⟨c1, rfl, k1⟩ := iha cs xa r1 h1
    obtain ⟨c2, rfl, k2⟩ := ihb r1 xb r2 h2
    exact ⟨c1 ++ c2, by rw [List.append_assoc], k1.append k2⟩
   ·cases h
  ·cases h
 | sl t ih =>
  intro cs x r h
  simp only [Ty.unc] at h
  split at h
  ·rename_i es r'
   split at h
   ·rename_i xs hxs
    simp only [Option.some.injEq, Prod.mk.injEq] at h
    obtain ⟨rfl, rfl⟩ := h
    obtain ⟨h1, h2⟩ := zQl hxs
    refine ⟨[.sl es], rfl, zVw h1 ?_, trivial⟩
    intro i e y he hy
    obtain ⟨e', he', hf⟩ := h2 i y hy
    rw [he] at he'
    simp only [Option.some.injEq] at he'
    subst he'
    obtain ⟨c1, hc, hw⟩ := ih e.cells y [] hf
    rw [List.append_nil] at hc
    rw [hc]; exact hw
   ·cases h
  ·exact q8 (.sl t) _ x r h
def Ty.decW (t : Ty) (d : V) : Option t.El :=
 match t with
 | .pair a b => match d with
  | .agg cs => match (Ty.pair a b).unc cs with
   | some (x, []) => some x
   | _ => none
  | _ => none
 | .unit => none
 | .sl t => match (Ty.sl t).unc [d] with
  | some (x, []) => some x
  | _ => none
 | .int k => (Ty.int k).dec d
 | .bool => Ty.bool.dec d
 | .str => Ty.str.dec d
 | .rf => Ty.rf.dec d
theorem zRO {t : Ty} {d : V} {x : t.El} (h : t.decW d = some x) : WkV d (t.enc x) := by
 cases t with
 | pair a b =>
  simp only [Ty.decW] at h
  split at h
  ·rename_i cs
   split at h
   ·rename_i x' hx
    simp only [Option.some.injEq] at h
    subst h
    obtain ⟨c1, h1, h2⟩ := zNd (.pair a b) cs x' [] hx
    simp only [List.append_nil] at h1
    subst h1
    exact WkV.agg h2
   ·cases h
  ·cases h
 | unit => simp [Ty.decW] at h
 | sl t =>
  simp only [Ty.decW] at h
  split at h
  ·rename_i x' hx
   simp only [Option.some.injEq] at h
   subst h
   obtain ⟨c1, h1, h2⟩ := zNd (.sl t) [d] x' [] hx
   rw [List.append_nil] at h1
   subst h1
   exact h2.1
  ·cases h
 | int k => exact w6 h
 | bool => exact w6 h
 | str => exact w6 h
 | rf => exact w6 h
def zEv : (ts : List Ty) → List V → Option (ElS ts)
 | [], [] => some ()
 | t :: ts, d :: ds => match t.decW d with
  | some x => match zEv ts ds with
   | some xs => some (x, xs)
   | none => none
  | none => none
 | _, _ => none
theorem zJS : ∀ (ts : List Ty) (ds : List V) (x : ElS ts), zEv ts ds = some x → j5 ds (vD ts x)
 | [], [], _, _ => trivial
 | [], _ :: _, _, h => by simp [zEv] at h
 | _ :: _, [], _, h => by simp [zEv] at h
 | t :: ts, d :: ds, x, h => by
  simp only [zEv] at h
  split at h
  ·rename_i y hy
   split at h
   ·rename_i ys hys
    simp only [Option.some.injEq] at h
    subst h
    exact ⟨zRO hy, zJS ts ds ys hys⟩
   ·cases h
  ·cases h
theorem zND {Γ : Sig} {P : Program} {G : Nat → Option (List V)} {f : FuncId} {ts : List Ty} {R : RTy} {g : ElS ts → Option R.El} (h : j6 Γ P G f (qG (jM ts R g))) : j6 Γ P G f (qG (wH (zEv ts) R g)) := by
 intro w F O s args ds s' r hsig hG hF hlen hrd hspec
 simp only [qG, wH] at hspec
 cases hx : zEv ts ds with
 | none => rw [hx] at hspec; cases hspec
 | some x =>
  rw [hx] at hspec
  have hwk := zJS ts ds x hx
  refine h w F O s args (vD ts x) s' r hsig hG hF (hlen.trans hwk.len) ?_ ?_
  ·intro i u d hu hd
   have hlt : i < ds.length := by rw [hwk.len]; exact (List.getElem?_eq_some_iff.1 hd).1
   exact hwk.get i ds[i] d (by simp [hlt]) hd w F u (hrd i u ds[i] hu (by simp [hlt]))
  ·simp only [qG, jM, wH, zCi]; exact hspec
end Go.Ve

namespace Go.Ve
open Go
def zPT {α : Type} (f : α → α → Bool) : List α → List α → Bool
 | [], [] => true
 | x :: xs, y :: ys => f x y && zPT f xs ys
 | _, _ => false
theorem zFe {α : Type} {f : α → α → Bool} (hf : ∀ x y, f x y = true → x = y) : ∀ {xs ys : List α}, zPT f xs ys = true → xs = ys
 | [], [], _ => rfl
 | x :: xs, y :: ys, h => by
  simp only [zPT, Bool.and_eq_true] at h
  rw [hf x y h.1, zFe hf h.2]
 | [], _ :: _, h => by cases h
 | _ :: _, [], h => by cases h
def Ty.eqb : (t : Ty) → t.El → t.El → Bool
 | .int _, a, b => decide (a = b)
 | .bool, a, b => match a, b with
  | true, true => true
  | false, false => true
  | _, _ => false
 | .str, a, b => zPT (fun (x y : UInt8) => Nat.beq x.toNat y.toNat) a.data.toList b.data.toList
 | .unit, _, _ => true
 | .pair s t, a, b => s.eqb a.1 b.1 && t.eqb a.2 b.2
 | .sl t, a, b => zPT t.eqb a b
 | .rf, _, _ => false
theorem zTs : ∀ (t : Ty) (a b : t.El), t.eqb a b = true → a = b := by
 intro t
 induction t with
 | int k => exact fun a b h => of_decide_eq_true h
 | bool =>
  intro a b h
  cases a <;> cases b <;> first | rfl | cases h
 | str =>
  intro a b h
  have h := zFe (fun (x y : UInt8) h => UInt8.toNat_inj.1 (Nat.eq_of_beq_eq_true h)) h
  cases a; cases b
  simp only at h
  rw [Array.toList_inj.1 h]
 | unit => exact fun _ _ _ => rfl
 | pair s t ihs iht =>
  intro a b h
  simp only [Ty.eqb, Bool.and_eq_true] at h
  exact Prod.ext (ihs _ _ h.1) (iht _ _ h.2)
 | sl t ih => exact fun a b h => zFe ih h
 | rf => exact fun _ _ h => by cases h
def eqS : (ts : List Ty) → ElS ts → ElS ts → Bool
 | [], _, _ => true
 | t :: ts, a, b => t.eqb a.1 b.1 && eqS ts a.2 b.2
theorem zNM : ∀ (ts : List Ty) (a b : ElS ts), eqS ts a b = true → a = b
 | [], _, _, _ => rfl
 | t :: ts, a, b, h => by
  simp only [eqS, Bool.and_eq_true] at h
  exact Prod.ext (zTs t _ _ h.1) (zNM ts _ _ h.2)
def atP (ts : List Ty) {α : Type} (x0 : ElS ts) (y0 : α) (f : ElS ts → Option α) : ElS ts → Option α := fun x => bif eqS ts x x0 then some y0 else f x
def noF {X α : Type} : X → Option α := fun _ => none
theorem zSu {Γ : Sig} {P : Program} {G : Nat → Option (List V)} {f : FuncId} {ts : List Ty} {R : RTy} {g h : ElS ts → Option R.El} (hg : j6 Γ P G f (qG (jM ts R g))) (hh : ∀ x y, h x = some y → g x = some y) :
  j6 Γ P G f (qG (wH (zEv ts) R h)) := by
 refine zP3 (zND hg) ?_
 intro s ds r hr
 simp only [qG, wH] at hr ⊢
 cases hx : zEv ts ds with
 | none => rw [hx] at hr; cases hr
 | some x =>
  rw [hx] at hr
  simp only [Option.map_eq_some_iff] at hr ⊢
  obtain ⟨y, hy, e⟩ := hr
  exact ⟨y, hh x y hy, e⟩
theorem zQB {ts : List Ty} {α : Type} {x0 : ElS ts} {y0 : α} {f g : ElS ts → Option α} (h0 : g x0 = some y0) (hf : ∀ x y, f x = some y → g x = some y) : ∀ x y, atP ts x0 y0 f x = some y → g x = some y := by
 intro x y h
 unfold atP at h
 cases he : eqS ts x x0 with
 | false => rw [he] at h; exact hf x y h
 | true =>
  rw [he] at h
  rw [zNM ts x x0 he, h0]
  exact h
theorem zSE {X α : Type} {g : X → Option α} : ∀ x y, noF (X := X) (α := α) x = some y → g x = some y := fun _ _ h => by cases h
end Go.Ve

namespace Go.Ve
open Go
def zJV (t : Ty) (ds : List V) : Option (t.El × List t.El) :=
 match zCx [.sl t] ds with
 | some (y :: r, _) => some (y, r)
 | _ => none
theorem zJU {t : Ty} {ds : List V} {q : t.El × List t.El} (h : zJV t ds = some q) : j5 ds [.tl t (q.1 :: q.2)] := by
 unfold zJV at h
 split at h
 ·rename_i y r u hd
  simp only [Option.some.injEq] at h
  subst h
  exact w9 [.sl t] ds (y :: r, u) hd
 ·cases h
open Classical in
noncomputable def zEw (v : Value) (ds : List V) : Option Unit := if ds = [.val v] then some () else none
theorem zCT {v : Value} {ds : List V} {q : Unit} (h : zEw v ds = some q) : j5 ds [.val v] := by
 unfold zEw at h
 split at h
 ·rename_i hd
  subst hd
  exact ⟨.refl _, trivial⟩
 ·cases h
theorem zPz {w : World} {F : Blk → Prop} {v : Value} {t : Ty} (h : Rd w F v (.tl t [])) : ∃ a c, v = .slice a 0 c := by
 have h2 := Rd.untl h
 simp only [List.map_nil] at h2
 generalize hd : V.sl [] = d at h2
 cases h2 with
 | slemp a c => exact ⟨a, c, rfl⟩
 | sl b off cap k es g hF hcap hk hg hr =>
  simp only [V.sl.injEq] at hd
  subst hd
  exact ⟨_, _, rfl⟩
 | _ => cases hd
theorem zRt {P : Program} {G : Nat → Option (List V)} {f : FuncId} {t : Ty} {bytes : Nat}
  (h1 : j6 jB P G f (qG (wH (zJV t) (.p (.sl t)) (fun q => Option.bind (app bytes [] (q.1 :: q.2)) fun z => some z))))
  (h2 : ∀ c, j6 jB P G f (qG (wH (zEw (.slice none 0 c)) (.p (.sl t)) (fun _ => some []))))
  (h3 : ∀ a c, j6 jB P G f (qG (wH (zEw (.slice (some a) 0 c)) (.p (.sl t)) (fun _ => some [])))) :
  j6 jB P G f (qG (jM [.sl t] (.p (.sl t)) (fun x => Option.bind (app bytes [] x.1) fun z => some z))) := by
 intro w F O s args ds s' r hsig hG hF hlen hrd hspec
 simp only [qG, jM, wH] at hspec
 cases hx : zCx [.sl t] ds with
 | none => rw [hx] at hspec; cases hspec
 | some x =>
  rw [hx] at hspec
  have hwk := w9 [.sl t] ds x hx
  have hdl : ds.length = 1 := hwk.len
  have hal : args.size = 1 := hlen.trans hdl
  obtain ⟨xs, u⟩ := x
  have hv : Rd w F args[0] (.tl t xs) := hwk.get 0 (ds[0]'(by omega)) (.tl t xs) (by simp) rfl w F _ (hrd 0 _ _ (by simp) (by simp))
  cases xs with
  | cons y r0 =>
   refine h1 w F O s args [.tl t (y :: r0)] s' r hsig hG hF (by simpa using hal) ?_ ?_
   ·intro i v d hi hd
    match i with
    | 0 =>
     simp at hd
     subst hd
     have : v = args[0] := by
      rw [Array.getElem?_eq_getElem (by omega)] at hi
      exact (Option.some.inj hi).symm
     rw [this]; exact hv
    | i + 1 => simp at hd
   ·have hde : zJV t [.tl t (y :: r0)] = some (y, r0) := by
     unfold zJV
     rw [show zCx [.sl t] [.tl t (y :: r0)] = some (y :: r0, ()) from zCi [.sl t] (y :: r0, ())]
    simp only [qG, wH, hde]
    exact hspec
  | nil =>
   obtain ⟨a, c, ha⟩ := zPz hv
   have hres : some (s', r) = some (s, (RTy.p (.sl t)).res []) := by
    have : (app bytes ([] : List t.El) []) = some [] ∨ app bytes ([] : List t.El) [] = none := by
     unfold app; split
     ·exact .inl rfl
     ·exact .inr rfl
    rcases this with h | h
    ·simp only [h, Option.bind_some, Option.map_some] at hspec
     exact hspec.symm
    ·simp only [h, Option.bind_none, Option.map_none] at hspec
     cases hspec
   simp only [Option.some.injEq, Prod.mk.injEq] at hres
   obtain ⟨rfl, rfl⟩ := hres
   have go : ∀ v, args[0] = v → j6 jB P G f (qG (wH (zEw v) (.p (.sl t)) (fun _ => some []))) → Calls P f args w fun e w' => ∃ (v : Value) (F' : Blk → Prop) (O' : Nat → Prop), e = .returned v ∧ jB.R s' F' O' w' ∧ zCt O w w' ∧
     (∀ b, O' b → O b ∨ w.heap.size ≤ b) ∧ (∀ b, F b → F' b) ∧ (∀ b : Nat, F' b → (F b ∨ w.heap.size ≤ b) ∧ b < w'.heap.size ∧ ¬ O' b) ∧ uQ w.heap.size w' F' O' v ((RTy.p (.sl t)).res []) := by
    intro v hv0 h
    refine h w F O s' args [.val v] s' _ hsig hG hF (by simpa using hal) ?_ ?_
    ·intro i u d hi hd
     match i with
     | 0 =>
      simp at hd
      subst hd
      have : u = args[0] := by
       rw [Array.getElem?_eq_getElem (by omega)] at hi
       exact (Option.some.inj hi).symm
      rw [this, hv0]; exact .val _
     | i + 1 => simp at hd
    ·have hde : zEw v [.val v] = some () := by unfold zEw; rw [if_pos rfl]
     simp only [qG, wH, hde]
     rfl
   cases a with
   | none => exact go _ ha (h2 c)
   | some a => exact go _ ha (h3 a c)
theorem zP5 {P : Program} {G : Nat → Option (List V)} {f : FuncId} {t : Ty} {bytes : Nat}
  (h1 : j6 jB P G f (qG (wH (zJV t) (.o t) (fun q => Option.bind (app bytes [] (q.1 :: q.2)) fun z => some z))))
  (h2 : ∀ c, j6 jB P G f (qG (wH (zEw (.slice none 0 c)) (.o t) (fun _ => some []))))
  (h3 : ∀ a c, j6 jB P G f (qG (wH (zEw (.slice (some a) 0 c)) (.o t) (fun _ => some [])))) :
  j6 jB P G f (qG (jM [.sl t] (.o t) (fun x => Option.bind (app bytes [] x.1) fun z => some z))) := by
 intro w F O s args ds s' r hsig hG hF hlen hrd hspec
 simp only [qG, jM, wH] at hspec
 cases hx : zCx [.sl t] ds with
 | none => rw [hx] at hspec; cases hspec
 | some x =>
  rw [hx] at hspec
  have hwk := w9 [.sl t] ds x hx
  have hdl : ds.length = 1 := hwk.len
  have hal : args.size = 1 := hlen.trans hdl
  obtain ⟨xs, u⟩ := x
  have hv : Rd w F args[0] (.tl t xs) := hwk.get 0 (ds[0]'(by omega)) (.tl t xs) (by simp) rfl w F _ (hrd 0 _ _ (by simp) (by simp))
  cases xs with
  | cons y r0 =>
   refine h1 w F O s args [.tl t (y :: r0)] s' r hsig hG hF (by simpa using hal) ?_ ?_
   ·intro i v d hi hd
    match i with
    | 0 =>
     simp at hd
     subst hd
     have : v = args[0] := by
      rw [Array.getElem?_eq_getElem (by omega)] at hi
      exact (Option.some.inj hi).symm
     rw [this]; exact hv
    | i + 1 => simp at hd
   ·have hde : zJV t [.tl t (y :: r0)] = some (y, r0) := by
     unfold zJV
     rw [show zCx [.sl t] [.tl t (y :: r0)] = some (y :: r0, ()) from zCi [.sl t] (y :: r0, ())]
    simp only [qG, wH, hde]
    exact hspec
  | nil =>
   obtain ⟨a, c, ha⟩ := zPz hv
   have hres : some (s', r) = some (s, (RTy.o t).res []) := by
    have : (app bytes ([] : List t.El) []) = some [] ∨ app bytes ([] : List t.El) [] = none := by
     unfold app; split
     ·exact .inl rfl
     ·exact .inr rfl
    rcases this with h | h
    ·simp only [h, Option.bind_some, Option.map_some] at hspec
     exact hspec.symm
    ·simp only [h, Option.bind_none, Option.map_none] at hspec
     cases hspec
   simp only [Option.some.injEq, Prod.mk.injEq] at hres
   obtain ⟨rfl, rfl⟩ := hres
   have go : ∀ v, args[0] = v → j6 jB P G f (qG (wH (zEw v) (.o t) (fun _ => some []))) → Calls P f args w fun e w' => ∃ (v : Value) (F' : Blk → Prop) (O' : Nat → Prop), e = .returned v ∧ jB.R s' F' O' w' ∧ zCt O w w' ∧
     (∀ b, O' b → O b ∨ w.heap.size ≤ b) ∧ (∀ b, F b → F' b) ∧ (∀ b : Nat, F' b → (F b ∨ w.heap.size ≤ b) ∧ b < w'.heap.size ∧ ¬ O' b) ∧ uQ w.heap.size w' F' O' v ((RTy.o t).res []) := by
    intro v hv0 h
    refine h w F O s' args [.val v] s' _ hsig hG hF (by simpa using hal) ?_ ?_
    ·intro i u d hi hd
     match i with
     | 0 =>
      simp at hd
      subst hd
      have : u = args[0] := by
       rw [Array.getElem?_eq_getElem (by omega)] at hi
       exact (Option.some.inj hi).symm
      rw [this, hv0]; exact .val _
     | i + 1 => simp at hd
    ·have hde : zEw v [.val v] = some () := by unfold zEw; rw [if_pos rfl]
     simp only [qG, wH, hde]
     rfl
   cases a with
   | none => exact go _ ha (h2 c)
   | some a => exact go _ ha (h3 a c)
theorem zWd {P : Program} {G : Nat → Option (List V)} {f : FuncId} {t : Ty} {ds : List V} (h : ∀ a : Option Addr, ∃ S, j6 jB P G f S ∧ S () (.val (.slice a 0 0) :: ds) = some ((), .p (.tup []))) :
  zMu jB P G f () t [] ds () [] (.tup []) := by
 intro w F O b v0 args hR hG hF hown _ hsz ha0 hrest
 have hv : ∃ a, v0 = .slice a 0 0 := by
  rcases hown with ⟨_, h⟩ | ⟨h, _⟩
  ·exact h
  ·exact absurd rfl h
 obtain ⟨a, rfl⟩ := hv
 obtain ⟨S, hS, hs⟩ := h a
 have hcall := hS w F O () args (.val (.slice a 0 0) :: ds) () (.p (.tup [])) hR hG hF (by simpa using hsz) (by
  intro i v d hi hd
  match i with
  | 0 =>
   simp at hd
   subst hd
   rw [ha0] at hi
   cases hi
   exact .val _
  | i + 1 => exact hrest i v d hi (by simpa using hd)) hs
 refine hcall.mono ?_
 rintro e w' ⟨v, F', O', rfl, h1, h2, h3, h4, h5, h6⟩
 exact ⟨v, F', O', rfl, h1, ⟨h2.os, h2.tape, h2.output, h2.size, fun c hc ho => h2.block c hc (fun hh => ho (.inl hh)), h2.drawn⟩, h3, h4, h5, zEi.of (.inl ⟨rfl, a, rfl⟩) h6⟩
end Go.Ve

namespace Go.Ve
open Go
set_option maxRecDepth 1000000
set_option maxHeartbeats 4000000
def zB9 (x : Ty.El zA) : Int × Int × Int × Int × Int × Int × Int :=
 bif x.2.1 == (3 : Int) then (x.2.2.1, x.2.2.2.2.1, x.2.2.2.2.2.1, x.2.2.2.2.2.2.1, (0 : Int), (0 : Int), (0 : Int))
 else bif x.2.1 == (4 : Int) then (x.2.2.2.2.1, x.2.2.1, x.2.2.2.2.2.2.1, (0 : Int), (0 : Int), (0 : Int), (0 : Int))
 else bif x.2.1 == (5 : Int) then (if (3 : Int) < x.2.2.1 then (3 : Int) else x.2.2.1, IntKind.wrap IntKind.i64 ((1000000 : Int) - x.2.2.2.2.2.2.2.1), (x.2.2.2.2.2.2.2.2.1.length : Int), x.2.2.2.2.1, x.2.2.1, IntKind.wrap IntKind.i64 x.2.2.2.2.2.2.2.2.2.1, (0 : Int))
 else (x.2.2.2.1, (0 : Int), (0 : Int), (0 : Int), (0 : Int), (0 : Int), (0 : Int))
def zTx : List (Int × Int) → Int
 | [] => 0
 | (a, b) :: r => if a < b then -1 else if b < a then 1 else zTx r
def zAU (x y : Ty.El zA) : Int :=
 zTx [((zB9 x).1, (zB9 y).1), ((zB9 x).2.1, (zB9 y).2.1), ((zB9 x).2.2.1, (zB9 y).2.2.1), ((zB9 x).2.2.2.1, (zB9 y).2.2.2.1), ((zB9 x).2.2.2.2.1, (zB9 y).2.2.2.2.1), ((zB9 x).2.2.2.2.2.1, (zB9 y).2.2.2.2.2.1), ((zB9 x).2.2.2.2.2.2, (zB9 y).2.2.2.2.2.2)]
section
variable {α : Type} {lt eq : α → α → Bool}
def zEK (lt eq : α → α → Bool) (h : α) : List α → List α
 | [] => [h]
 | x :: r => bif lt x h then x :: zEK lt eq h r else bif eq x h then x :: r else h :: x :: r
theorem zH9 (heq : ∀ x y, eq x y = true ↔ x = y) {h z : α} : ∀ {l : List α}, z ∈ zEK lt eq h l ↔ z ∈ l ∨ z = h
 | [] => by simp [zEK]
 | x :: r => by
  simp only [zEK]
  cases lt x h with
  | true => simp only [cond_true, List.mem_cons, zH9 heq (l := r)]; exact or_assoc.symm
  | false =>
   simp only [cond_false]
   cases he : eq x h with
   | true =>
    have := (heq x h).1 he
    subst this
    simp only [cond_true, List.mem_cons]
    exact ⟨fun h => .inl h, fun h => h.elim id .inl⟩
   | false => simp only [cond_false, List.mem_cons]; exact ⟨fun h => h.elim .inr .inl, fun h => h.elim .inr .inl⟩
theorem zFh {R : α → α → Prop} (ho : Ord R) (hlt : ∀ x y, lt x y = true ↔ R x y) (heq : ∀ x y, eq x y = true ↔ x = y) (htot : ∀ x y, ¬ R x y → x ≠ y → R y x) {h : α} : ∀ {l : List α}, l.Pairwise R → (zEK lt eq h l).Pairwise R
 | [], _ => by simp [zEK]
 | x :: r, hp => by
  rw [List.pairwise_cons] at hp
  simp only [zEK]
  cases hx : lt x h with
  | true =>
   simp only [cond_true]
   rw [List.pairwise_cons]
   refine ⟨fun z hz => ?_, zFh ho hlt heq htot hp.2⟩
   rcases (zH9 heq).1 hz with hz | rfl
   ·exact hp.1 z hz
   ·exact (hlt _ _).1 hx
  | false =>
   simp only [cond_false]
   have hn : ¬ R x h := fun hh => by rw [(hlt _ _).2 hh] at hx; cases hx
   cases he : eq x h with
   | true => simp only [cond_true]; rw [List.pairwise_cons]; exact hp
   | false =>
    simp only [cond_false]
    have hne : x ≠ h := fun e => by rw [(heq _ _).2 e] at he; cases he
    have hr := htot _ _ hn hne
    have tr : ∀ z, R x z → R h z := by
     intro z hz
     exact Classical.byContradiction (fun hnz => ho.tr x z h (ho.asym _ _ hz) hnz hr)
    rw [List.pairwise_cons, List.pairwise_cons]
    refine ⟨fun z hz => ?_, hp⟩
    rcases List.mem_cons.1 hz with rfl | hz
    ·exact hr
    ·exact tr z (hp.1 z hz)
end
end Go.Ve

namespace Go.Ve
open Go
set_option maxRecDepth 1000000
set_option maxHeartbeats 4000000
theorem zTY {α : Type} {xs : List α} {k : Nat} (h : k ≤ xs.length) : sub xs (k : Int) (xs.length : Int) = some (xs.drop k) := by
 unfold sub
 rw [if_pos (by omega), Int.toNat_natCast, Int.toNat_natCast, List.take_length]
def zMH (p q : Ty.El zG) : Bool := decide (zWa p q < 0)
theorem zUr {p q : Ty.El zG} : zMH p q = true ↔ plt p q := by
 unfold zMH; rw [decide_eq_true_eq]; exact zIx
theorem zPZ {α : Type} {lt eq : α → α → Bool} {h : α} : ∀ {l : List α}, (zEK lt eq h l).length ≤ l.length + 1
 | [] => by simp [zEK]
 | x :: r => by
  have := zPZ (lt := lt) (eq := eq) (h := h) (l := r)
  simp only [zEK]
  cases lt x h <;> cases eq x h <;> simp <;> omega
def zPD (l : List (Ty.El zA)) : List (Ty.El zG) := l.foldl (fun acc x => zEK zMH zCu x.1 acc) []
theorem zHO : ∀ (l : List (Ty.El zA)) (acc : List (Ty.El zG)), (l.foldl (fun acc x => zEK zMH zCu x.1 acc) acc).length ≤ acc.length + l.length
 | [], acc => by simp
 | x :: l, acc => by
  have h1 := zHO l (zEK zMH zCu x.1 acc)
  have h2 := zPZ (lt := zMH) (eq := zCu) (h := x.1) (l := acc)
  simp only [List.foldl_cons, List.length_cons]
  omega
theorem zUq (l : List (Ty.El zA)) : (zPD l).length ≤ l.length := by
 have := zHO l []
 simpa [zPD] using this
theorem zLh : ∀ (l : List (Ty.El zA)) (acc : List (Ty.El zG)), acc.Pairwise plt →
  (l.foldl (fun acc x => zEK zMH zCu x.1 acc) acc).Pairwise plt ∧ ∀ p, p ∈ l.foldl (fun acc x => zEK zMH zCu x.1 acc) acc ↔ p ∈ acc ∨ ∃ x, x ∈ l ∧ x.1 = p
 | [], acc, h => ⟨h, fun p => by simp⟩
 | x :: l, acc, h => by
  have h2 := zLh l (zEK zMH zCu x.1 acc) (zFh zFE (fun _ _ => zUr) (fun _ _ => zAD) (fun p q h1 h2 => zOj h1 (fun e => h2 e.symm)) h)
  refine ⟨h2.1, fun p => ?_⟩
  rw [List.foldl_cons, h2.2 p, zH9 (fun _ _ => zAD)]
  constructor
  ·rintro ((h | rfl) | ⟨y, hy, rfl⟩)
   ·exact .inl h
   ·exact .inr ⟨x, by simp, rfl⟩
   ·exact .inr ⟨y, by simp [hy], rfl⟩
  ·rintro (h | ⟨y, hy, rfl⟩)
   ·exact .inl (.inl h)
   ·rcases List.mem_cons.1 hy with rfl | hy
    ·exact .inl (.inr rfl)
    ·exact .inr ⟨y, hy, rfl⟩
theorem zE9 (l : List (Ty.El zA)) : (zPD l).Pairwise plt := (zLh l [] List.Pairwise.nil).1
theorem zHN (l : List (Ty.El zA)) (p : Ty.El zG) : p ∈ zPD l ↔ ∃ x, x ∈ l ∧ x.1 = p := by
 have := (zLh l [] List.Pairwise.nil).2 p
 rw [show zPD l = l.foldl (fun acc x => zEK zMH zCu x.1 acc) [] from rfl, this]
 simp
def hlt (a b : Ty.El qT) : Prop := zCv a.1 a.2.1 b.1 b.2.1
theorem zIc : Ord hlt where
 asym := fun x y h => by unfold hlt zCv at *; omega
 tr := fun x y z h1 h2 => by unfold hlt zCv at *; omega
theorem zUH {p q : Ty.El qT} (h : ¬ hlt q p) (hne : p ≠ q) : hlt p q := by
 refine zSo h (fun e => hne ?_)
 obtain ⟨a, b, ⟨⟩⟩ := p
 obtain ⟨c, d, ⟨⟩⟩ := q
 obtain ⟨rfl, rfl⟩ := e
 rfl
def zWU (a b : Ty.El qT) : Bool := decide (zIy a.1 a.2.1 b.1 b.2.1 < 0)
theorem zUI {a b : Ty.El qT} : zWU a b = true ↔ hlt a b := by
 unfold zWU; rw [decide_eq_true_eq]; exact zOQ
def zMV (a b : Ty.El qT) : Bool := a.1 == b.1 && (a.2.1 == b.2.1 && true)
def zEh (l : List (Ty.El qT)) (h : Ty.El qT) : List (Ty.El qT) := zEK zWU zMV h l
end Go.Ve

namespace Go.Ve
open Go
set_option maxRecDepth 1000000
set_option maxHeartbeats 4000000
def zRW (x : Ty.El zA) (b : Option (Ty.El zA)) : Bool :=
 match b with
 | none => true
 | some y => decide (zAU x y < 0)
def zJX (p : Ty.El zG) (b : Option (Ty.El zA)) (x : Ty.El zA) : Option (Ty.El zA) :=
 bif zCu x.1 p && zRW x b then some x else b
def zCm (l : List (Ty.El zA)) (p : Ty.El zG) : Option (Ty.El zA) := l.foldl (zJX p) none
def yE (p : Ty.El zG) (b : Ty.El zA) (hs : List (Ty.El qT)) (x : Ty.El zA) : List (Ty.El qT) :=
 bif zCu x.1 p && (zAU x b == 0) then x.2.2.2.2.2.2.2.2.2.2.2.1.foldl zEh hs else hs
def zC3 (l : List (Ty.El zA)) (p : Ty.El zG) (b : Ty.El zA) : List (Ty.El qT) := l.foldl (yE p b) []
def zVD (b : Ty.El zA) (hs : List (Ty.El qT)) : Ty.El zA :=
 ((b.1.1, b.1.2.1, ()), b.2.1, b.2.2.1, b.2.2.2.1, b.2.2.2.2.1, b.2.2.2.2.2.1, b.2.2.2.2.2.2.1, b.2.2.2.2.2.2.2.1, b.2.2.2.2.2.2.2.2.1, b.2.2.2.2.2.2.2.2.2.1, b.2.2.2.2.2.2.2.2.2.2.1, hs, b.2.2.2.2.2.2.2.2.2.2.2.2.1, ())
def mrg (l : List (Ty.El zA)) (p : Ty.El zG) : Option (Ty.El zA) := (zCm l p).map (fun b => zVD b (zC3 l p b))
def x8 (l : List (Ty.El zA)) : List (Ty.El zA) := (zPD l).filterMap (mrg l)
end Go.Ve

namespace Go.Ve
open Go
set_option maxRecDepth 1000000
set_option maxHeartbeats 4000000
theorem zQA {p : Ty.El zG} {b : Ty.El zA} : ∀ (l : List (Ty.El zA)) (c : Option (Ty.El zA)), l.foldl (zJX p) c = some b → c = some b ∨ (b ∈ l ∧ b.1 = p)
 | [], c, h => .inl h
 | x :: l, c, h => by
  rw [List.foldl_cons] at h
  rcases zQA l _ h with h | ⟨h1, h2⟩
  ·unfold zJX at h
   cases hc : zCu x.1 p && zRW x c with
   | true =>
    rw [hc, cond_true] at h
    cases h
    simp only [Bool.and_eq_true] at hc
    exact .inr ⟨by simp, zAD.1 hc.1⟩
   | false => rw [hc, cond_false] at h; exact .inl h
  ·exact .inr ⟨List.mem_cons_of_mem _ h1, h2⟩
theorem zVh {l : List (Ty.El zA)} {p : Ty.El zG} {b : Ty.El zA} (h : zCm l p = some b) : b ∈ l ∧ b.1 = p := by
 rcases zQA l none h with h | h
 ·cases h
 ·exact h
theorem zKL {l : List (Ty.El zA)} {p : Ty.El zG} {z : Ty.El zA} (h : mrg l p = some z) : z.1 = p := by
 unfold mrg at h
 cases hb : zCm l p with
 | none => rw [hb] at h; cases h
 | some b => rw [hb] at h; cases h; exact (zVh hb).2
theorem zGm (l : List (Ty.El zA)) : (x8 l).Pairwise rlt := by
 unfold x8
 refine List.Pairwise.filterMap _ ?_ (zE9 l)
 intro p q hpq y hy z hz
 unfold rlt
 rw [zKL hy, zKL hz]
 exact hpq
end Go.Ve

namespace Go.Ve
open Go
set_option maxHeartbeats 4000000
section
variable {α : Type}
def swF (a b n : Nat) (xs : List α) (k : Nat) : Option α :=
 if a ≤ k ∧ k < a + n then xs[b + (k - a)]? else if b ≤ k ∧ k < b + n then xs[a + (k - b)]? else xs[k]?
def kZ (lo m hi : Nat) (xs : List α) (k : Nat) : Option α :=
 if lo ≤ k ∧ k < lo + (hi - m) then xs[k + (m - lo)]? else if lo + (hi - m) ≤ k ∧ k < hi then xs[k - (hi - m)]? else xs[k]?
theorem zTW {a b : Nat} {xs : List α} {k : Nat} : swF a b 0 xs k = xs[k]? := by
 unfold swF
 rw [if_neg (by omega), if_neg (by omega)]
theorem zTX {a b n : Nat} {xs zs : List α} (hab : a + n < b) (hb : b + n < xs.length) (hl : zs.length = xs.length) (h : ∀ k, zs[k]? = swF a b n xs k) {x y : α} (hx : zs[a + n]? = some x) (hy : zs[b + n]? = some y) :
  ∀ k, ((zs.set (a + n) y).set (b + n) x)[k]? = swF a b (n + 1) xs k := by
 intro k
 have h1 := h (a + n)
 have h2 := h (b + n)
 unfold swF at h1 h2
 rw [if_neg (by omega), if_neg (by omega), hx] at h1
 rw [if_neg (by omega), if_neg (by omega), hy] at h2
 unfold swF
 by_cases e1 : k = b + n
 ·subst e1
  rw [List.getElem?_set_self (by rw [List.length_set]; omega), if_neg (by omega), if_pos (by omega), h1]
  congr 1; omega
 ·rw [List.getElem?_set_ne (by omega)]
  by_cases e2 : k = a + n
  ·subst e2
   rw [List.getElem?_set_self (by omega), if_pos (by omega), h2]
   congr 1; omega
  ·rw [List.getElem?_set_ne (by omega), h k]
   unfold swF
   by_cases c1 : a ≤ k ∧ k < a + n
   ·rw [if_pos c1, if_pos (by omega)]
   ·rw [if_neg c1]
    by_cases c2 : b ≤ k ∧ k < b + n
    ·rw [if_pos c2, if_neg (by omega), if_pos (by omega)]
    ·rw [if_neg c2, if_neg (by omega), if_neg (by omega)]
theorem xH {xs : List α} {i j : Nat} (h : i = j) : xs[i]? = xs[j]? := by rw [h]
theorem zUc {lo m hi : Nat} {xs zs : List α} (h1 : lo < m) (h2 : m < hi) (hij : hi - m < m - lo) (h : ∀ k, zs[k]? = swF lo m (hi - m) xs k) (k : Nat) : kZ (lo + (hi - m)) m hi zs k = kZ lo m hi xs k := by
 unfold kZ
 rw [h, h, h]
 unfold swF
 repeat' split
 all_goals first
  | rfl
  | exact xH (by omega)
  | (exfalso; omega)
theorem zSX {lo m hi : Nat} {xs zs : List α} (h1 : lo < m) (h2 : m < hi) (hij : m - lo < hi - m) (h : ∀ k, zs[k]? = swF lo (hi - (m - lo)) (m - lo) xs k) (k : Nat) : kZ lo m (hi - (m - lo)) zs k = kZ lo m hi xs k := by
 unfold kZ
 rw [h, h, h]
 unfold swF
 repeat' split
 all_goals first
  | rfl
  | exact xH (by omega)
  | (exfalso; omega)
theorem zUd {lo m hi : Nat} {xs zs : List α} (h1 : lo ≤ m) (h2 : m ≤ hi) (hij : m - lo = hi - m) (h : ∀ k, zs[k]? = swF lo m (m - lo) xs k) (k : Nat) : zs[k]? = kZ lo m hi xs k := by
 rw [h]
 unfold kZ swF
 repeat' split
 all_goals first
  | rfl
  | exact xH (by omega)
  | (exfalso; omega)
end
end Go.Ve
