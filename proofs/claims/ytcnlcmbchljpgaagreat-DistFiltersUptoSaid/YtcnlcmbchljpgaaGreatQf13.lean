/-
  Plain laws: interfaces that are up.
  Plain laws: masks, networks, and what prefixes contain.
  Plain laws: what the checks of a network say of its interfaces and static routes.
  Plain laws: what the checks of a network say.
  Plain laws: prefixes in order; the sorting of routes; connected routes.
  Plain laws: static routes that are active.
  Plain laws: connected routes: sorted, and valid; static routes are valid.
  Plain laws of distance-vector routing: the neighbors of an interface.
  Plain laws of distance-vector routing: a router has one interface in a domain.
  Plain laws of distance-vector routing: what a prefix list permits.
  Plain laws of distance-vector routing: who takes part, what is made of a neighbor's table.
  Plain laws of distance-vector routing: what a router receives.
  Plain laws: what a table is.
  Plain laws of distance-vector routing: tables of neighbors, finding a prefix.
  Plain laws of distance-vector routing: the owner of an address.
  Plain laws of distance-vector routing: Owner finds the neighbor with an address.
  Plain laws of distance-vector routing: where a received route comes from.
  Plain laws of distance-vector routing: the index of a prefix in a table.
  Plain laws: valid routes.
  The law as a function: law17_DistFilters.
  Functions out of code, part 10: typed data out of data without types, lists too.
  Contracts at one point: what a function answers at given data.
  slices.Clone: the contract over typed lists, out of three that tell nil, empty and the rest apart.
  Plain laws: preference of routes; insertion into ordered lists; the prefixes of routes; hops added.
  Plain laws: the prefixes of routes; hops added; routes merged.
  Plain laws: routes merged.
  Plain laws: merging where prefixes differ; the reference's connected and active routes.
  Plain laws: ranges swapped and rotated, stated place by place.
-/
import Derived.Test.YtcnlcmbchljpgaaGreatQf12
import Derived.Test.YtcnlcmbchljpgaaGreatQf11
set_option linter.unusedVariables false
namespace Go.Ve
open Go
set_option maxRecDepth 1000000
set_option maxHeartbeats 4000000
def zDG (e y : Ty.El zJ) : Bool := y.1 == e.1 && (y.2.1 == e.2.1 && true)
theorem zMv {e y : Ty.El zJ} : zDG e y = true ↔ y = e := ⟨fun h => zD4 h, fun h => by subst h; simp [zDG]⟩
def wK (v : Ty.El zW) (r i : Int) : Int := zBg (fun d : Ty.El kC => d.2.2.1.any (zDG (r, i, ()))) v.2.1.1
def zBV (v : Ty.El zW) (r i : Int) : Int := zBg (fun l : Int => decide (wK v r i ≥ 0) && l == wK v r i) v.2.1.2.1
def upB (v : Ty.El zW) (r i : Int) : Bool := decide (0 ≤ wK v r i) && v.2.2.1.all (fun x : Int => !(x == zBV v r i))
structure zA4 (v : Ty.El zW) : Prop where
 rs : v.1.1.length ≤ 9
 sm : ∀ y, y ∈ v.1.1 → SmR y
 doms : v.2.1.1.length ≤ 360
 ends : ∀ d, d ∈ v.2.1.1 → d.2.2.1.length ≤ 360
 links : v.2.1.2.1.length ≤ 12
 link0 : ∀ l, l ∈ v.2.1.2.1 → (0 : Int) ≤ l
 down : v.2.2.1.length ≤ 2
 down0 : ∀ l, l ∈ v.2.2.1 → (0 : Int) ≤ l
theorem uY.s {n : Ty.El zQ} {d : List Int} {v : Ty.El zW} (h : uY n d v) : zA4 v where
 rs := by rw [h.net]; exact h.rs
 sm := by rw [h.net]; exact h.sm
 doms := h.topo.doms
 ends := fun d hd => (h.topo.ends d hd).1
 links := h.topo.links
 link0 := fun l hl => (h.topo.link l hl).1
 down := by rw [h.dn]; exact h.down.len
 down0 := by rw [h.dn]; exact fun l hl => (h.down.lo l hl).1
theorem zFz {α : Type} {p : α → Bool} {xs : List α} : zBg p xs ≥ 0 ↔ xs.any p = true := by
 rcases zHk p xs with ⟨h, h2⟩ | ⟨i, x, h, h2, h3, _⟩
 ·rw [h]
  constructor
  ·intro h'; omega
  ·intro h'
   obtain ⟨x, hx, hp⟩ := List.any_eq_true.1 h'
   rw [h2 x hx] at hp
   cases hp
 ·rw [h]
  exact ⟨fun _ => List.any_eq_true.2 ⟨x, List.mem_of_getElem? h2, h3⟩, fun _ => by omega⟩
theorem zEh {α : Type} {p : α → Bool} {xs : List α} (h : 0 ≤ zBg p xs) : ∃ x, xs[(zBg p xs).toNat]? = some x ∧ p x = true := by
 rcases zHk p xs with ⟨h1, h2⟩ | ⟨i, x, h1, h2, h3, _⟩
 ·omega
 ·rw [h1]; exact ⟨x, by simpa using h2, h3⟩
theorem zEN (l : List (Ty.El zJ)) (e : Ty.El zJ) (hl : l.length ≤ 1048576) : Wp (yZ (l, e, ())) (fun k => k = zBg (zDG e) l) := by
 unfold yZ
 dsimp only
 refine zBj (p := zDG e) (by omega) ?_ rfl
 intro i x hx
 simp only [zM hx, Option.bind_some]
 have : (e.1 == x.1 && (e.2.1 == x.2.1 && true)) = zDG e x := by
  unfold zDG
  rw [Bool.eq_iff_iff]
  simp only [Bool.and_true, Bool.and_eq_true, beq_iff_eq]
  exact ⟨fun h => ⟨h.1.symm, h.2.symm⟩, fun h => ⟨h.1.symm, h.2.symm⟩⟩
 rw [this]
 cases zDG e x <;> rfl
theorem zDc (l : List (Ty.El zJ)) (e : Ty.El zJ) (hl : l.length ≤ 1048576) : Wp (kF (l, e, ())) (fun b => b = l.any (zDG e)) := by
 unfold kF
 dsimp only
 refine zC ((zEN l e hl).mono (fun k hk => zB ?_))
 subst hk
 rw [Bool.eq_iff_iff, decide_eq_true_eq]
 exact zFz
theorem zA9 (v : Ty.El zW) (r i : Int) (hv : zA4 v) : Wp (zAl (v, r, i, ())) (fun k => k = wK v r i) := by
 unfold zAl
 dsimp only
 have := hv.doms
 refine zBj (p := fun d : Ty.El kC => d.2.2.1.any (zDG (r, i, ()))) (by omega) ?_ rfl
 intro k x hx
 simp only [zM hx, Option.bind_some]
 have := hv.ends x (List.mem_of_getElem? hx)
 have h1 := vH (zDc x.2.2.1 (r, i, ()) (by omega))
 refine (congrArg (fun m => Option.bind m _) h1).trans ?_
 simp only [Option.bind_some]
 cases List.any x.2.2.1 (zDG (r, i, ())) <;> rfl
theorem zAE (v : Ty.El zW) (r i : Int) (hv : zA4 v) : Wp (xD (v, r, i, ())) (fun k => k = wK v r i) := by
 unfold xD
 dsimp only
 have := hv.doms
 refine zBi (by omega) (fun k => ∀ j y, j < k → v.2.1.1[j]? = some y → y.2.2.1.any (zDG (r, i, ())) = false) (fun j y hj => by omega) ?_ ?_
 ·intro k x hx hj
  have hends := hv.ends x (List.mem_of_getElem? hx)
  simp only [zM hx, Option.bind_some]
  refine zBi (xs := x.2.2.1) (by omega) (fun m => ∀ y, y ∈ x.2.2.1.take m → zDG (r, i, ()) y = false) (fun y hy => by simp at hy) ?_ ?_
  ·intro m y hy hm
   simp only [zM hy, Option.bind_some]
   refine zF (fun h => zB (e2r (e2r (e2r (e2r ?_))))) (fun h => zB (e2l ⟨rfl, ?_⟩))
   ·have h1 : x.2.2.1.any (zDG (r, i, ())) = true := List.any_eq_true.2 ⟨y, List.mem_of_getElem? hy, h⟩
    exact (zSP (p := fun d : Ty.El kC => d.2.2.1.any (zDG (r, i, ()))) hx h1 hj).symm
   ·intro z hz
    rw [List.take_add_one, hy] at hz
    simp only [Option.toList_some, List.mem_append, List.mem_singleton] at hz
    rcases hz with hz | rfl
    ·exact hm z hz
    ·exact h
  ·intro hm
   rw [List.take_length] at hm
   refine zB (e2l ⟨rfl, ?_⟩)
   intro j y hj' hy
   rcases Nat.lt_or_ge j k with h' | h'
   ·exact hj j y h' hy
   ·have : j = k := by omega
    subst this
    rw [hx] at hy
    cases hy
    rw [Bool.eq_false_iff]
    intro h
    obtain ⟨z, hz, hz2⟩ := List.any_eq_true.1 h
    rw [hm z hz] at hz2
    cases hz2
 ·intro hj
  refine zB (zJC ?_).symm
  intro x hx
  obtain ⟨j, hjl, rfl⟩ := List.getElem_of_mem hx
  exact hj j _ hjl (by simp [hjl])
theorem zA0 (l : List Int) (e : Int) (hl : l.length ≤ 1048576) : Wp (kR (l, e, ())) (fun k => k = zBg (fun x => x == e) l) := by
 unfold kR
 dsimp only
 refine zBj (p := fun x : Int => x == e) (by omega) ?_ rfl
 intro i (x : Int) hx
 simp only [zM hx, Option.bind_some]
 have : (e == x) = (x == e) := by rw [Bool.eq_iff_iff, beq_iff_eq, beq_iff_eq]; exact eq_comm
 rw [this]
 cases x == e <;> rfl
theorem zDb (l : List Int) (e : Int) (hl : l.length ≤ 1048576) : Wp (kE (l, e, ())) (fun b => b = l.any (fun x => x == e)) := by
 unfold kE
 dsimp only
 refine zC ((zA0 l e hl).mono (fun k hk => zB ?_))
 subst hk
 rw [Bool.eq_iff_iff, decide_eq_true_eq]
 exact zFz
theorem zLv (v : Ty.El zW) (r i : Int) (hv : zA4 v) : Wp (zFT (v, r, i, ())) (fun k => k = zBV v r i) := by
 unfold zFT
 dsimp only
 refine zC ((zA9 v r i hv).mono (fun k hk => ?_))
 subst hk
 refine zI (fun h => zB ?_) (fun h => ?_)
 ·unfold zBV
  rw [zJC]
  intro x _
  have : ¬ (wK v r i ≥ 0) := by omega
  simp [this]
 ·have := hv.links
  refine zC ((zA0 _ _ (by omega)).mono (fun k hk => zB ?_))
  rw [hk]
  unfold zBV
  have h2 : wK v r i ≥ 0 := by omega
  congr 1
  funext l
  simp [h2]
theorem zKy (v : Ty.El zW) (r i : Int) (hv : zA4 v) : Wp (zD2 (v, r, i, ())) (fun k => k = zBV v r i) := by
 unfold zD2
 dsimp only
 refine zC ((zAE v r i hv).mono (fun k hk => ?_))
 subst hk
 have := hv.links
 refine zBj (p := fun l : Int => decide (wK v r i ≥ 0) && l == wK v r i) (by omega) ?_ rfl
 intro i' (x : Int) hx
 simp only [zM hx, Option.bind_some]
 cases decide (wK v r i ≥ 0) <;> cases x == wK v r i <;> rfl
theorem zQ2 {α : Type} {p : α → Bool} (l : List α) : (!l.any p) = l.all (fun x => !p x) := by
 induction l with
 | nil => rfl
 | cons x l ih => simp [← ih]
theorem zHV (v : Ty.El zW) (r i : Int) (hv : zA4 v) : Wp (zHN (v, r, i, ())) (fun b => b = upB v r i) := by
 unfold zHN
 dsimp only
 refine zC ((zA9 v r i hv).mono (fun k hk => ?_))
 subst hk
 refine zI (fun h => zB ?_) (fun h => ?_)
 ·unfold upB
  have : ¬ (0 ≤ wK v r i) := by omega
  simp [this]
 ·refine zC ((zLv v r i hv).mono (fun k hk => ?_))
  subst hk
  have h0 : 0 ≤ wK v r i := by omega
  have hd := hv.down
  refine zC (zI (fun h => zB (zB ?_)) (fun h => ?_))
  ·unfold upB
   simp only [h0, decide_true, Bool.true_and]
   symm
   rw [List.all_eq_true]
   intro x hx
   have := hv.down0 x hx
   simp only [Bool.not_eq_true', beq_eq_false_iff_ne]
   omega
  ·refine zC ((zDb _ _ (by omega)).mono (fun b hb => zB (zB ?_)))
   subst hb
   unfold upB
   simp only [h0, decide_true, Bool.true_and]
   exact zQ2 _
theorem zMY (v : Ty.El zW) (r i : Int) (hv : zA4 v) : Wp (zH5 (v, r, i, ())) (fun b => b = upB v r i) := by
 unfold zH5
 dsimp only
 refine zC ((zAE v r i hv).mono (fun k hk => ?_))
 subst hk
 refine zI (fun h => zB ?_) (fun h => ?_)
 ·unfold upB
  have : ¬ (0 ≤ wK v r i) := by omega
  simp [this]
 ·refine zC ((zKy v r i hv).mono (fun k hk => ?_))
  subst hk
  have h0 : 0 ≤ wK v r i := by omega
  have hd := hv.down
  refine zDN (P := fun x : Int => (x == zBV v r i) = false) (by omega) ?_ (fun hall => zB ?_)
  ·intro i' (x : Int) hx
   simp only [zM hx, Option.bind_some]
   refine zF (fun h => zB (e2r (e2r ?_))) (fun h => zB (e2l ⟨rfl, h⟩))
   unfold upB
   simp only [h0, decide_true, Bool.true_and]
   symm
   rw [Bool.eq_false_iff]
   intro hh
   have := List.all_eq_true.1 hh x (List.mem_of_getElem? hx)
   simp [h] at this
  ·unfold upB
   simp only [h0, decide_true, Bool.true_and]
   symm
   rw [List.all_eq_true]
   intro x hx
   simp [hall x hx]
def zSK (r : Ty.El zH) (nm : Ty.El .str) : Int := zBg (fun x : Ty.El qA => x.1 == nm) r.2.2.1
theorem zGe (r : Ty.El zH) (nm : Ty.El .str) (hr : SmR r) : Wp (kW (r, nm, ())) (fun k => k = zSK r nm) := by
 unfold kW
 dsimp only
 have := hr.i1
 refine zBj (p := fun x : Ty.El qA => x.1 == nm) (by omega) ?_ rfl
 intro i x hx
 simp only [zM hx, Option.bind_some]
 cases x.1 == nm <;> rfl
end Go.Ve

namespace Go.Ve
open Go
set_option maxRecDepth 1000000
set_option maxHeartbeats 4000000
def wD (n : Int) : Nat := min n.toNat 32
def zBM (k : Nat) : BitVec 32 := BitVec.allOnes 32 <<< (32 - k)
theorem zOb (n : Int) : wD n ≤ 32 := Nat.min_le_right _ _
theorem zT7 {x : Int} (h0 : 0 ≤ x) (h1 : x < 4294967296) : IntKind.wrap .u32 x = x := by
 have e1 : ((2 : Int) ^ IntKind.bits .u32) = 4294967296 := by decide
 simp only [IntKind.wrap, IntKind.signed, Bool.false_and, Bool.false_eq_true, if_false, e1]
 omega
theorem zOj (x : BitVec 32) : IntKind.wrap .u32 (x.toNat : Int) = (x.toNat : Int) := zT7 (by omega) (by have := x.isLt; omega)
theorem zIq (x : BitVec 32) : BitVec.ofInt 32 (x.toNat : Int) = x := by
 rw [BitVec.ofInt_natCast, BitVec.ofNat_toNat, BitVec.setWidth_eq]
theorem zS8 : ∀ i, i < 32 → zBM i ||| BitVec.ofInt 32 (IntKind.wrap .u32 (1 * 2 ^ min (31 - i) 32)) = zBM (i + 1) := by decide +kernel
theorem zTq : zBM 0 = 0#32 := by decide +kernel
theorem zPe : ∀ k, k < 33 → IntKind.wrap .u32 (4294967295 * 2 ^ min (32 - k) 32) = ((zBM k).toNat : Int) := by decide +kernel
theorem zCb (n : Int) : Wp (zAo (n, ())) (fun m => m = ((zBM (wD n)).toNat : Int)) := by
 unfold zAo
 dsimp only
 refine zC ((zPi (n := 32) (by omega) (fun i (m : Int) => m = ((zBM (min i (wD n))).toNat : Int)) (by simp [zTq]) (fun i g _ => by simp) ?_ (Q := fun m => m = ((zBM (wD n)).toNat : Int)) (fun g hg => by
  rw [hg, Nat.min_eq_right (zOb n)])).mono (fun m hm => zB hm))
 intro i g hi hg
 subst hg
 refine zI (fun h => ?_) (fun h => zB ?_)
 ·have h : (i : Int) < n := h
  have hk : i < wD n := by unfold wD; omega
  refine zI (fun _ => zB ?_) (fun h' => absurd ?_ h')
  ·have e1 : min i (wD n) = i := by omega
   have e2 : min (i + 1) (wD n) = i + 1 := by omega
   rw [e1, e2]
   dsimp only
   rw [zD (by omega) (by omega), zHF (by omega) (by omega), show ((31 : Int) - (i : Int)).toNat = 31 - i by omega]
   change IntKind.wrap .u32 (((BitVec.ofInt 32 ((zBM i).toNat : Int) ||| BitVec.ofInt 32 (IntKind.wrap .u32 (1 * 2 ^ min (31 - i) 32))).toNat : Nat) : Int) = _
   rw [zIq, zS8 i hi, zOj]
  ·simp only
   rw [zD (by omega) (by omega), zHF (by omega) (by omega)]
   omega
 ·have h : ¬ ((i : Int) < n) := h
  have hk : wD n ≤ i := by unfold wD; omega
  rw [Nat.min_eq_right hk, Nat.min_eq_right (by omega)]
theorem zQJ (n : Int) : (if (if (32 : Int) < n then (32 : Int) else n) > (0 : Int) then if (32 : Int) < n then (32 : Int) else n else (0 : Int)) = (wD n : Int) := by
 unfold wD
 split <;> split <;> omega
theorem zTU (n : Int) : (if (0 : Int) > if (32 : Int) < n then (32 : Int) else n then (0 : Int) else if (32 : Int) < n then (32 : Int) else n) = (wD n : Int) := by
 unfold wD
 split <;> split <;> omega
theorem zMJ (n : Int) : wD ((wD n : Nat) : Int) = wD n := by
 unfold wD
 omega
theorem zFi (n : Int) : zDK (n, ()) = some ((zBM (wD n)).toNat : Int) := by
 have hle := zOb n
 unfold zDK zCE
 simp only [zQJ, Option.bind_some]
 rw [zD (by omega) (by omega)]
 have h0 : (0 : Int) ≤ 32 - ((wD n : Nat) : Int) := by omega
 simp only [h0, decide_true, cond_true]
 rw [show ((32 : Int) - ((wD n : Nat) : Int)).toNat = 32 - wD n by omega]
 exact congrArg some (zPe _ (by omega))
def zBU (a n : Int) : Ty.El zG := (((BitVec.ofInt 32 a &&& zBM (wD n)).toNat : Int), (wD n : Int), ())
def zBP (p : Ty.El zG) (a : Int) : Bool := (((BitVec.ofInt 32 a &&& zBM (wD p.2.1)).toNat : Nat) : Int) == p.1
theorem zPc (a : Int) (k : Nat) : IntKind.wrap .u32 (((BitVec.ofInt (IntKind.bits .u32) a &&& BitVec.ofInt (IntKind.bits .u32) ((zBM k).toNat : Int)).toNat : Nat) : Int) = ((BitVec.ofInt 32 a &&& zBM k).toNat : Int) := by
 change IntKind.wrap .u32 (((BitVec.ofInt 32 a &&& BitVec.ofInt 32 ((zBM k).toNat : Int)).toNat : Nat) : Int) = _
 rw [zIq, zOj]
theorem zHY (a n : Int) : zBZ (a, n, ()) = some (zBU a n) := by
 refine vH ?_
 unfold zBZ
 dsimp only
 refine zC (qV (zFi _) ?_)
 unfold zCE
 simp only [zQJ, Option.bind_some]
 refine zB ?_
 unfold zBU
 rw [zPc]
theorem wL (a n : Int) : wG (a, n, ()) = some (zBU a n) := by
 refine vH ?_
 unfold wG
 simp only [zTU]
 refine zC ((zCb _).mono (fun m hm => zB ?_))
 subst hm
 unfold zBU
 rw [zMJ, zPc]
theorem zG1 (p : Ty.El zG) (a : Int) : uW (p, a, ()) = some (zBP p a) := by
 refine vH ?_
 unfold uW
 dsimp only
 refine zC ((zCb _).mono (fun m hm => zB ?_))
 subst hm
 rw [zPc]
 rfl
theorem zG2 (p : Ty.El zG) (a : Int) : x9 (p, a, ()) = some (zBP p a) := by
 refine vH ?_
 unfold x9
 dsimp only
 refine zC (qV (zFi _) (zB ?_))
 rw [zPc]
 rfl
theorem zTp (a n : Int) : zBP (zBU a n) (zBU a n).1 = true := by
 unfold zBP zBU
 simp only [zMJ, zIq]
 rw [BitVec.and_assoc, BitVec.and_self]
 simp
theorem zBa (p q : Ty.El zG) : vQ (p, q, ()) = some (decide (p.2.1 ≤ q.2.1) && zBP p q.1) := by
 refine vH ?_
 unfold vQ
 dsimp only
 refine zC (zF (fun h => zC (qV (zG1 _ _) (zB (zB ?_)))) (fun h => zB (zB ?_))) <;> (rw [h]; rfl)
theorem zG0 (p q : Ty.El zG) : v6 (p, q, ()) = some ((decide (p.2.1 ≤ q.2.1) && zBP p q.1) || (decide (q.2.1 ≤ p.2.1) && zBP q p.1)) := by
 refine vH ?_
 unfold v6
 dsimp only
 refine zC (zC (qV (zBa _ _) (zF (fun h => zB (zB ?_)) (fun h => zC (qV (zBa _ _) (zB (zB ?_))))))) <;> (rw [h]; rfl)
def zGL (p : Ty.El zG) : Bool := decide (p.2.1 ≥ 0) && (decide (p.2.1 ≤ 32) && (BitVec.ofInt 32 p.1 &&& ~~~ zBM (wD p.2.1)) == 0#32)
theorem zEw (p : Ty.El zG) : wA (p, ()) = some (zGL p) := by
 refine vH ?_
 unfold wA zGL
 dsimp only
 refine zC (zF (fun h => zF (fun h' => zC ((zCb _).mono (fun m hm => zB (zB ?_)))) (fun h' => zB (zB ?_))) (fun h => zB (zB ?_)))
 ·subst hm
  rw [h, h']
  simp only [Bool.true_and]
  change (IntKind.wrap .u32 (((BitVec.ofInt 32 p.1 &&& ~~~ BitVec.ofInt 32 ((zBM (wD p.2.1)).toNat : Int)).toNat : Nat) : Int) == (0 : Int)) = _
  rw [zIq, zOj, Bool.eq_iff_iff, beq_iff_eq, beq_iff_eq]
  constructor
  ·intro h
   apply BitVec.eq_of_toNat_eq
   simp only [BitVec.toNat_ofNat]
   omega
  ·intro h
   rw [h]; rfl
 ·rw [h, h']; rfl
 ·rw [h]; rfl
end Go.Ve

namespace Go.Ve
open Go
set_option maxRecDepth 1000000
set_option maxHeartbeats 4000000
section
variable {ρ : Type}
theorem zVR {n : Nat} {body : Int → Option (Int ⊕ (Unit ⊕ ρ))} {Q : Unit ⊕ ρ → Prop} (hl : n < 4611686018427387904) (J : Nat → Prop) (h0 : J 0)
  (step : ∀ i, i < n → J i → Wp (body (i : Int)) (wU (fun s' => s' = IntKind.wrap IntKind.i64 ((i : Int) + 1) ∧ J (i + 1)) Q)) (fin : J n → Q (Sum.inl ())) :
  Wp (zO (fun s : Int => bif decide (s < (n : Int)) then body s else some (Sum.inr (Sum.inl ()))) (0 : Int)) Q := by
 refine wF (fun (s : Int) => ∃ i : Nat, s = (i : Int) ∧ i ≤ n ∧ J i) (fun (s : Int) => ((n : Int) - s).toNat) ⟨(0 : Nat), rfl, Nat.zero_le _, h0⟩ ?_
 rintro s ⟨i, hi, hle, hj⟩
 subst hi
 refine zI ?_ ?_
 ·intro hc
  have hlt : i < n := by omega
  refine (step i hlt hj).mono ?_
  intro o ho
  cases o with
  | inl s' =>
   obtain ⟨rfl, h2⟩ := ho
   rw [zD (by omega) (by omega)]
   exact ⟨⟨i + 1, by omega, hlt, h2⟩, by omega⟩
  | inr o => exact ho
 ·intro hc
  have : i = n := by omega
  subst this
  exact zB (e2r (fin hj))
theorem zHG {n : Nat} {P : Nat → Prop} {body : Int → Option (Int ⊕ (Unit ⊕ ρ))} {Q : Unit ⊕ ρ → Prop} (hl : n < 4611686018427387904)
  (step : ∀ i, i < n → Wp (body (i : Int)) (wU (fun s' => s' = IntKind.wrap IntKind.i64 ((i : Int) + 1) ∧ P i) Q)) (fin : (∀ i, i < n → P i) → Q (Sum.inl ())) :
  Wp (zO (fun s : Int => bif decide (s < (n : Int)) then body s else some (Sum.inr (Sum.inl ()))) (0 : Int)) Q := by
 refine zVR hl (fun i => ∀ j, j < i → P j) (fun j hj => by omega) ?_ fin
 intro i hi hj
 refine (step i hi).mono ?_
 intro o ho
 cases o with
 | inl s' =>
  refine ⟨ho.1, ?_⟩
  intro j hj'
  rcases Nat.lt_or_ge j i with h' | h'
  ·exact hj j h'
  ·have : j = i := by omega
   subst this
   exact ho.2
 | inr o => exact ho
end
theorem zVQ {σ ρ : Type} {m : Option (σ ⊕ ρ)} {K : σ → Option ρ} {Q : ρ → Prop} (P : σ → Prop) (h : Wp m (wU P Q)) (hK : ∀ s, P s → Wp (K s) Q) : Wp (qQ m K) Q := by
 refine z8 (h.mono ?_)
 intro o ho
 cases o with
 | inl s => exact hK s ho
 | inr r => exact ho
theorem jS (a lo hi : Int) : zU (a, lo, hi, ()) = some (decide (lo ≤ a) && decide (a ≤ hi)) := by
 refine vH ?_
 unfold zU
 dsimp only
 refine zC (zF (fun h => zB (zB ?_)) (fun h => zB (zB ?_))) <;> (rw [h]; rfl)
theorem u5 (a lo hi : Int) : qM (a, lo, hi, ()) = some (decide (lo ≤ a) && decide (a ≤ hi)) := by
 refine vH ?_
 unfold qM
 dsimp only
 refine zC (zF (fun h => zB (zB ?_)) (fun h => zB (zB ?_))) <;> (rw [h]; rfl)
def ovB (p q : Ty.El zG) : Bool := (decide (p.2.1 ≤ q.2.1) && zBP p q.1) || (decide (q.2.1 ≤ p.2.1) && zBP q p.1)
theorem zId (a n : Int) : ovB (zBU a n) (zBU a n) = true := by
 unfold ovB
 rw [zTp]
 simp
structure zWY (l : List (Ty.El qA)) (i : Nat) (x : Ty.El qA) : Prop where
 name : ∀ j y, j < i → l[j]? = some y → y.1 ≠ x.1
 len : 0 ≤ x.2.2.1 ∧ x.2.2.1 ≤ 32
 addr : x.2.2.1 ≠ 0 → x.2.1 ≠ 0
 ls : x.2.2.2.2.2.1 = true → (0 ≤ x.2.2.2.2.2.2.1 ∧ x.2.2.2.2.2.2.1 ≤ 255) ∧ 1 ≤ x.2.2.2.2.2.2.2.1 ∧ x.2.2.2.2.2.2.2.1 ≤ 65535
 apart : ∀ j y, j < i → l[j]? = some y → x.2.2.1 ≠ 0 → y.2.2.1 ≠ 0 → ovB (zBU x.2.1 x.2.2.1) (zBU y.2.1 y.2.2.1) = false
def zWX (l : List (Ty.El qA)) : Prop := ∀ i x, l[i]? = some x → zWY l i x
theorem zMK (l : List (Ty.El qA)) (h0 : l.length ≤ 20) : Wp (vL (l, ())) (fun e => e = 0 → zWX l ∧ l.length ≤ 8) := by
 unfold vL
 dsimp only
 refine zI (fun _ => zB (fun h => by cases h)) (fun h => ?_)
 refine zBi (by omega) (fun i => ∀ m x, m < i → l[m]? = some x → zWY l m x) (fun m x hm => by omega) ?_ (fun hj => zB (fun _ => ⟨fun i x hx => hj i x (List.getElem?_eq_some_iff.1 hx).1 hx, by omega⟩))
 intro i x hx hj
 have hi := (List.getElem?_eq_some_iff.1 hx).1
 simp only [zM hx, Option.bind_some]
 refine z8 (zC ((vY _).mono (fun b _ => ?_)))
 refine zF (fun _ => zB (fun h => by cases h)) (fun _ => ?_)
 refine z8 (zHG (n := i) (P := fun j => ∀ y, l[j]? = some y → y.1 ≠ x.1) (by omega) ?_ (fun hname => ?_))
 ·intro j hjl
  have hy : l[j]? = some l[j] := by simp
  simp only [zM hy, Option.bind_some]
  refine zF (fun _ => zB (fun h => by cases h)) (fun hn => zB (e2l ⟨rfl, ?_⟩))
  intro y hy'
  rw [hy] at hy'
  cases hy'
  simpa using hn
 ·refine e2l (zC ((show Wp _ (fun s : Bool => s = false → 0 ≤ x.2.2.1 ∧ x.2.2.1 ≤ 32) from ?_).mono (fun s hs => ?_)))
  ·refine zC (qV (jS _ _ _) (zF (fun _ => zB (fun h => by cases h)) (fun h1 => zC (qV (jS _ _ _) (zF (fun _ => zB (fun h => by cases h)) (fun _ => zC (qV (jS _ _ _) (zB (fun _ => ?_)))))))))
   simpa using h1
  refine zF (fun _ => zB (fun h => by cases h)) (fun h1 => ?_)
  have hlen := hs h1
  refine zC ((show Wp _ (fun s : Bool => s = false → x.2.2.1 ≠ 0 → x.2.1 ≠ 0) from ?_).mono (fun s hs => ?_))
  ·refine zF (fun hz => ?_) (fun hz => ?_)
   ·have hz : x.2.2.1 = 0 := by simpa using hz
    repeat' (first
     | exact zB (fun _ hne => absurd hz hne)
     | refine zF (fun _ => ?_) (fun _ => ?_))
   ·refine zF (fun _ => zB (fun h' _ => by simpa using h')) (fun h' => zB (fun _ hne => ?_))
    rw [hz] at *
    exact absurd (show x.2.2.1 = 0 by simpa using h') hne
  refine zF (fun _ => zB (fun h => by cases h)) (fun h2 => ?_)
  have haddr := hs h2
  refine zC ((show Wp _ (fun s : Bool => s = false → x.2.2.2.2.2.1 = true → (0 ≤ x.2.2.2.2.2.2.1 ∧ x.2.2.2.2.2.2.1 ≤ 255) ∧ 1 ≤ x.2.2.2.2.2.2.2.1 ∧ x.2.2.2.2.2.2.2.1 ≤ 65535) from ?_).mono (fun s hs => ?_))
  ·refine zF (fun hz => ?_) (fun hz => ?_)
   ·refine zC (qV (jS _ _ _) (zF (fun _ => zB (fun h => by cases h)) (fun h3 => zC (qV (jS _ _ _) (zF (fun _ => zB (fun h => by cases h)) (fun h4 => ?_))))))
    have h3 : 0 ≤ x.2.2.2.2.2.2.1 ∧ x.2.2.2.2.2.2.1 ≤ 255 := by simpa using h3
    have h4 : 1 ≤ x.2.2.2.2.2.2.2.1 ∧ x.2.2.2.2.2.2.2.1 ≤ 65535 := by simpa using h4
    repeat' (first
     | exact zB (fun _ _ => ⟨h3, h4⟩)
     | refine zF (fun _ => ?_) (fun _ => ?_))
   ·repeat' (first
     | exact zB (fun _ ht => by rw [hz] at ht; cases ht)
     | refine zF (fun _ => ?_) (fun _ => ?_))
  refine zF (fun _ => zB (fun h => by cases h)) (fun h3 => ?_)
  have hls := hs h3
  refine zHG (n := i) (P := fun j => ∀ y, l[j]? = some y → x.2.2.1 ≠ 0 → y.2.2.1 ≠ 0 → ovB (zBU x.2.1 x.2.2.1) (zBU y.2.1 y.2.2.1) = false) (by omega) ?_ (fun hap => ?_)
  ·intro j hjl
   have hy : l[j]? = some l[j] := by simp
   simp only [zM hy, Option.bind_some]
   refine zC ((show Wp _ (fun s : Bool => s = false → x.2.2.1 ≠ 0 → l[j].2.2.1 ≠ 0 → ovB (zBU x.2.1 x.2.2.1) (zBU l[j].2.1 l[j].2.2.1) = false) from ?_).mono (fun s hs => ?_))
   ·refine zF (fun _ => zF (fun _ => ?_) (fun hz => zB (fun _ _ hne => ?_))) (fun hz => zB (fun _ hne => ?_))
    ·exact zC (qV (wL _ _) (zC (qV (wL _ _) (zC (qV (zG0 _ _) (zB (fun h _ _ => h)))))))
    ·exact absurd (show l[j].2.2.1 = 0 by simpa using hz) hne
    ·exact absurd (show x.2.2.1 = 0 by simpa using hz) hne
   ·refine zF (fun _ => zB (fun h => by cases h)) (fun hn => zB (e2l ⟨rfl, ?_⟩))
    intro y hy'
    rw [hy] at hy'
    cases hy'
    exact hs hn
  ·refine e2l (zB (e2l ⟨rfl, ?_⟩))
   intro m z hm hz
   rcases Nat.lt_or_ge m i with h' | h'
   ·exact hj m z h' hz
   ·have : m = i := by omega
    subst this
    rw [hx] at hz
    cases hz
    exact ⟨fun j y hjl hy => hname j hjl y hy, hlen, haddr, hls, fun j y hjl hy => hap j hjl y hy⟩
structure zWU (r : Ty.El zH) (x : Ty.El zHR) : Prop where
 pre : zGL x.1 = true
 admin : 1 ≤ x.2.2.2.2.1 ∧ x.2.2.2.2.1 ≤ 255
 tag : 0 ≤ x.2.2.2.2.2.1 ∧ x.2.2.2.2.2.1 ≤ 65535
 one : (x.2.1 ≠ 0 ∧ x.2.2.1 = { data := #[] } ∧ x.2.2.2.1 = false) ∨ (x.2.1 = 0 ∧ x.2.2.1 ≠ { data := #[] } ∧ x.2.2.2.1 = false) ∨ (x.2.1 = 0 ∧ x.2.2.1 = { data := #[] } ∧ x.2.2.2.1 = true)
 iface : x.2.2.1 ≠ { data := #[] } → 0 ≤ zSK r x.2.2.1
def zWT (r : Ty.El zH) : Prop := ∀ x, x ∈ r.2.2.2.2.2.2.2.1 → zWU r x
theorem zQL (r : Ty.El zH) (hr : SmR r) : Wp (xB (r, ())) (fun e => e = 0 → zWT r) := by
 have hs6 := hr.i6
 unfold xB
 dsimp only
 refine zI (fun _ => zB (fun h => by cases h)) (fun h => ?_)
 refine zDN (P := zWU r) (by omega) ?_ (fun hj => zB (fun _ => hj))
 intro i x hx
 have hi := (List.getElem?_eq_some_iff.1 hx).1
 simp only [zM hx, Option.bind_some]
 refine z8 ?_
 have w1 : IntKind.wrap .i64 ((0 : Int) + 1) = 1 := by decide
 have w2 : IntKind.wrap .i64 ((1 : Int) + 1) = 2 := by decide
 have w3 : IntKind.wrap .i64 ((2 : Int) + 1) = 3 := by decide
 refine zC ((show Wp _ (fun k : Int => k = if x.2.1 ≠ 0 then 1 else 0) from ?_).mono (fun k1 hk1 => ?_))
 ·refine zF (fun h => zB ?_) (fun h => zB ?_)
  ·rw [w1, if_pos (by simpa using h)]
  ·rw [if_neg (by simpa using h)]
 refine zC ((show Wp _ (fun k : Int => k = k1 + if x.2.2.1 ≠ { data := #[] } then 1 else 0) from ?_).mono (fun k2 hk2 => ?_))
 ·refine zF (fun h => zB ?_) (fun h => zB ?_)
  ·rw [if_pos (by simpa using h)]
   split at hk1 <;> (subst hk1; first | exact w1 | exact w2)
  ·rw [if_neg (by simpa using h)]; omega
 refine zC ((show Wp _ (fun k : Int => k = k2 + if x.2.2.2.1 = true then 1 else 0) from ?_).mono (fun k3 hk3 => ?_))
 ·refine zF (fun h => zB ?_) (fun h => zB ?_)
  ·have h : x.2.2.2.1 = true := h
   rw [if_pos h]
   split at hk1 <;> split at hk2 <;> (subst hk1; subst hk2; first | exact w1 | exact w2 | exact w3)
  ·have h : x.2.2.2.1 = false := h
   rw [if_neg (by rw [h]; simp)]; omega
 refine zC ((show Wp _ (fun s : Bool => s = false → zGL x.1 = true ∧ k3 = 1 ∧ (1 ≤ x.2.2.2.2.1 ∧ x.2.2.2.2.1 ≤ 255) ∧ 0 ≤ x.2.2.2.2.2.1 ∧ x.2.2.2.2.2.1 ≤ 65535) from ?_).mono (fun s hs => ?_))
 ·refine zC (qV (zEw _) (zF (fun _ => zB (fun h => by cases h)) (fun h1 => zF (fun _ => zB (fun h => by cases h)) (fun h2 => ?_))))
  have h1 : zGL x.1 = true := by simpa using h1
  have h2 : k3 = 1 := by simpa using h2
  refine zF (fun _ => zC ((zA7 r x.2.1 hr).mono (fun k _ => zI (fun _ => zB (fun h => by cases h)) (fun _ => ?_)))) (fun _ => ?_)
  all_goals
   refine zC (qV (jS _ _ _) (zF (fun _ => zB (fun h => by cases h)) (fun h3 => zC (qV (jS _ _ _) (zB (fun h4 => ⟨h1, h2, ?_, ?_⟩))))))
   ·simpa using h3
   ·simpa using h4
 refine zF (fun _ => zB (fun h => by cases h)) (fun h1 => ?_)
 obtain ⟨g1, g2, g3, g4⟩ := hs h1
 refine zVQ (fun _ : Unit => x.2.2.1 ≠ { data := #[] } → 0 ≤ zSK r x.2.2.1) ?_ (fun _ hif => ?_)
 ·refine zF (fun hne => ?_) (fun hne => zB (e2l (fun h => absurd h (by simpa using hne))))
  refine zC ((zGe r _ hr).mono (fun k hk => ?_))
  subst hk
  refine zI (fun _ => zB (fun h => by cases h)) (fun hk => ?_)
  have hk0 : 0 ≤ zSK r x.2.2.1 := Int.not_lt.1 hk
  obtain ⟨y, hy, _⟩ := zEh (p := fun x' : Ty.El qA => x'.1 == x.2.2.1) (xs := r.2.2.1) hk0
  refine zC (qV (zWo hk0 hy) (zF (fun _ => zB (fun h => by cases h)) (fun _ => zB (e2l (fun _ => hk0)))))
 ·refine zHG (n := i) (P := fun _ => True) (by omega) ?_ (fun _ => e2l (zB (e2l ⟨rfl, g1, g3, g4, ?_, hif⟩)))
  ·intro j hjl
   have hy : r.2.2.2.2.2.2.2.1[j]? = some r.2.2.2.2.2.2.2.1[j] := by simp
   simp only [zM hy, Option.bind_some]
   refine zC ((show Wp _ (fun _ : Bool => True) from ?_).mono (fun s _ => zF (fun _ => zB (fun h => by cases h)) (fun _ => zB (e2l ⟨rfl, trivial⟩))))
   exact zF (fun _ => zB trivial) (fun _ => zB trivial)
  ·rw [hk3, hk2, hk1] at g2
   by_cases c1 : x.2.1 = 0 <;> by_cases c2 : x.2.2.1 = { data := #[] } <;> cases c3 : x.2.2.2.1 <;> simp [c1, c2, c3] at g2 ⊢
end Go.Ve

namespace Go.Ve
open Go
set_option maxRecDepth 1000000
set_option maxHeartbeats 4000000
def zVG (r : Ty.El zH) (a : Int) : Int := zBg (fun x : Ty.El qA => x.2.2.1 != 0 && x.2.1 == a) r.2.2.1
theorem zHW (r : Ty.El zH) (a : Int) (hr : SmR r) : Wp (uL (r, a, ())) (fun k => k = zVG r a) := by
 unfold uL
 dsimp only
 have := hr.i1
 refine zBj (p := fun x : Ty.El qA => x.2.2.1 != 0 && x.2.1 == a) (by omega) ?_ rfl
 intro i x hx
 simp only [zM hx, Option.bind_some]
 cases x.2.2.1 != 0 <;> cases x.2.1 == a <;> rfl
structure zXH (r : Ty.El zH) : Prop where
 asn : 0 ≤ r.2.1 ∧ r.2.1 ≤ 65535
 ifs : zWX r.2.2.1
 sts : zWT r
 lists : kS (r.2.2.2.1, ()) = some 0
 maps : yG (r, ()) = some 0
 acls : kU (r.2.2.2.2.2.1, ()) = some 0
 nat : vO (r, ()) = some 0
 filters : zAJ (r, ()) = some 0
 ls : yH (r, ()) = some 0
 dv : xW (r, ()) = some 0
 pv : uR (r, ()) = some 0
 ifl : r.2.2.1.length ≤ 8
theorem zK4 (r : Ty.El zH) (hr : SmR r) : Wp (w5 (r, ())) (fun e => e = 0 → zXH r) := by
 have hr0 := hr
 obtain ⟨i1, i2, i3, i4, i5, i6, i7, i8, i9, i10, i11, i12, i13, i14, n1, n2, n3⟩ := hr0
 unfold w5
 dsimp only
 refine zC ((vY _).mono (fun b _ => ?_))
 refine zF (fun _ => zB (fun h => by cases h)) (fun _ => ?_)
 refine zC (qV (jS _ _ _) (zF (fun _ => zB (fun h => by cases h)) (fun has => ?_)))
 have has : 0 ≤ r.2.1 ∧ r.2.1 ≤ 65535 := by simpa using has
 refine zC ((zMK _ i1).mono (fun y12 h12 => ?_))
 refine yE ((zBo _ i2 n1).mono (fun _ _ => trivial)) (fun y13 h13 => ?_)
 refine yE ((zB6 _ hr).mono (fun _ _ => trivial)) (fun y14 h14 => ?_)
 refine yE ((zBp _ i4 n3).mono (fun _ _ => trivial)) (fun y15 h15 => ?_)
 refine yE ((zAZ _ hr).mono (fun _ _ => trivial)) (fun y16 h16 => ?_)
 refine yE ((zDj _ hr).mono (fun _ _ => trivial)) (fun y17 h17 => ?_)
 refine zC ((zQL _ hr).mono (fun y18 h18 => ?_))
 refine yE ((zB7 _ hr).mono (fun _ _ => trivial)) (fun y19 h19 => ?_)
 refine yE ((zCM _ hr).mono (fun _ _ => trivial)) (fun y20 h20 => ?_)
 refine yE ((zBH _ hr).mono (fun _ _ => trivial)) (fun y21 h21 => ?_)
 refine zDN (P := fun x : Int => x = 0) (xs := [y12, y13, y14, y15, y16, y17, y18, y19, y20, y21]) (by simp) ?_ (fun hall => zB (fun _ => ?_))
 ·intro i x hx
  simp only [zM hx, Option.bind_some]
  refine zF (fun hne => zB (fun h => ?_)) (fun h => zB (e2l ⟨rfl, by simpa using h⟩))
  have h : x = 0 := h
  rw [h] at hne
  cases hne
 ·have e12 := hall y12 (by simp)
  have e13 := hall y13 (by simp)
  have e14 := hall y14 (by simp)
  have e15 := hall y15 (by simp)
  have e16 := hall y16 (by simp)
  have e17 := hall y17 (by simp)
  have e18 := hall y18 (by simp)
  have e19 := hall y19 (by simp)
  have e20 := hall y20 (by simp)
  have e21 := hall y21 (by simp)
  exact ⟨has, (h12 e12).1, h18 e18, e13 ▸ h13, e14 ▸ h14, e15 ▸ h15, e16 ▸ h16, e17 ▸ h17, e19 ▸ h19, e20 ▸ h20, e21 ▸ h21, (h12 e12).2⟩
structure zWW (n : Ty.El zQ) : Prop where
 len : n.1.length ≤ 8
 rt : ∀ r, r ∈ n.1 → zXH r
 name : ∀ (i j : Nat) r q, j < i → n.1[i]? = some r → n.1[j]? = some q → q.1 ≠ r.1
 addr : ∀ (i j : Nat) r q, i ≠ j → n.1[i]? = some r → n.1[j]? = some q → ∀ x y, x ∈ r.2.2.1 → y ∈ q.2.2.1 → x.2.2.1 ≠ 0 → y.2.2.1 ≠ 0 → x.2.1 ≠ y.2.1
theorem zTY (n : Ty.El zQ) (hs : ∀ y, y ∈ n.1 → SmR y) : Wp (v2 (n, ())) (fun e => e = 0 → zWW n) := by
 unfold v2
 dsimp only
 refine zI (fun _ => zB (fun h => by cases h)) (fun hl => ?_)
 refine zBi (by omega) (fun i => ∀ m r, m < i → n.1[m]? = some r → zXH r ∧ (∀ j q, j < m → n.1[j]? = some q → q.1 ≠ r.1 ∧ ∀ x y, x ∈ r.2.2.1 → y ∈ q.2.2.1 → x.2.2.1 ≠ 0 → y.2.2.1 ≠ 0 → x.2.1 ≠ y.2.1)) (fun m x hm => by omega) ?_ (fun hj => zB (fun _ => ?_))
 ·intro i r hr hj
  have hi := (List.getElem?_eq_some_iff.1 hr).1
  have hsm := hs r (List.mem_of_getElem? hr)
  have hs1 := hsm.i1
  simp only [zM hr, Option.bind_some]
  refine z8 (zC ((zK4 r hsm).mono (fun e he => ?_)))
  refine zF (fun hne => zB (fun h => ?_)) (fun h => ?_)
  ·have h : e = 0 := h
   rw [h] at hne
   cases hne
  have hrt := he (by simpa using h)
  refine z8 (zHG (n := i) (P := fun j => ∀ q, n.1[j]? = some q → q.1 ≠ r.1) (by omega) ?_ (fun hname => ?_))
  ·intro j hjl
   have hq : n.1[j]? = some n.1[j] := by simp
   simp only [zM hq, Option.bind_some]
   refine zF (fun _ => zB (fun h => by cases h)) (fun hn => zB (e2l ⟨rfl, ?_⟩))
   intro q hq'
   rw [hq] at hq'
   cases hq'
   simpa using hn
  refine e2l (zK5 (P := fun x : Ty.El qA => ∀ j q, j < i → n.1[j]? = some q → ∀ y, y ∈ q.2.2.1 → x.2.2.1 ≠ 0 → y.2.2.1 ≠ 0 → x.2.1 ≠ y.2.1) (by omega) ?_ (fun hall => ?_))
  ·intro k x hx
   simp only [zM hx, Option.bind_some]
   refine z8 (zHG (n := i) (P := fun j => ∀ q, n.1[j]? = some q → ∀ y, y ∈ q.2.2.1 → x.2.2.1 ≠ 0 → y.2.2.1 ≠ 0 → x.2.1 ≠ y.2.1) (by omega) ?_ (fun hall => e2l (zB (e2l ⟨rfl, fun j q hjl hq => hall j hjl q hq⟩))))
   intro j hjl
   have hq : n.1[j]? = some n.1[j] := by simp
   simp only [zM hq, Option.bind_some]
   refine zC ((show Wp _ (fun s : Bool => s = false → ∀ y, y ∈ n.1[j].2.2.1 → x.2.2.1 ≠ 0 → y.2.2.1 ≠ 0 → x.2.1 ≠ y.2.1) from ?_).mono (fun s hs' => ?_))
   ·refine zF (fun _ => zC ((zHW _ _ (hs _ (List.getElem_mem _))).mono (fun k hk => zB ?_))) (fun hz => zB (fun _ y _ hne => absurd (show x.2.2.1 = 0 by simpa using hz) hne))
    subst hk
    intro hlt y hy _ hyz hxy
    have hlt : ¬ (zVG n.1[j] x.2.1 ≥ 0) := of_decide_eq_false hlt
    apply hlt
    unfold zVG
    rw [zFz]
    refine List.any_eq_true.2 ⟨y, hy, ?_⟩
    have h1 : (y.2.2.1 != 0) = true := by simpa using hyz
    have h2 : (y.2.1 == x.2.1) = true := beq_iff_eq.2 hxy.symm
    rw [h1, h2]; rfl
   ·refine zF (fun _ => zB ⟨(fun u h => by cases h), (fun h => by cases h)⟩) (fun hn => zB (e2l ⟨rfl, ?_⟩))
    intro q hq'
    rw [hq] at hq'
    cases hq'
    exact hs' hn
  ·refine e2l (zB (e2l ⟨rfl, ?_⟩))
   intro m z hm hz
   rcases Nat.lt_or_ge m i with h' | h'
   ·exact hj m z h' hz
   ·have : m = i := by omega
    subst this
    rw [hr] at hz
    cases hz
    exact ⟨hrt, fun j q hjl hq => ⟨hname j hjl q hq, fun x y hx hy => hall x hx j q hjl hq y hy⟩⟩
 ·have hall : ∀ m r, n.1[m]? = some r → _ := fun m r hr => hj m r (List.getElem?_eq_some_iff.1 hr).1 hr
  refine ⟨by omega, ?_, ?_, ?_⟩
  ·intro r hr
   obtain ⟨m, hm, rfl⟩ := List.getElem_of_mem hr
   exact (hall m _ (by simp [hm])).1
  ·intro i j r q hji hr hq
   exact ((hall i r hr).2 j q hji hq).1
  ·intro i j r q hne hr hq x y hx hy hx0 hy0
   rcases Nat.lt_or_ge j i with h' | h'
   ·exact ((hall i r hr).2 j q h' hq).2 x y hx hy hx0 hy0
   ·exact fun h => ((hall j q hq).2 i r (by omega) hr).2 y x hy hx hy0 hx0 h.symm
theorem zRz {n : Ty.El zQ} {d : List Int} {v : Ty.El zW} (h : uY n d v) : zWW n := by
 obtain ⟨e, h1, h2⟩ := zTY n h.sm
 have h3 := h.chk
 rw [h1] at h3
 exact h2 (Option.some.inj h3)
end Go.Ve

namespace Go.Ve
open Go
set_option maxRecDepth 1000000
set_option maxHeartbeats 4000000
def rlt (x y : Ty.El zA) : Prop := plt x.1 y.1
theorem zOA : Ord rlt where
 asym := fun x y h => zFX.asym _ _ h
 tr := fun x y z h1 h2 => zFX.tr _ _ _ h1 h2
end Go.Ve

namespace Go.Ve
open Go
set_option maxRecDepth 1000000
set_option maxHeartbeats 4000000
theorem zMf {α β : Type} {f : α → Option β} {xs : List α} {i : Nat} {x : α} (h : xs[i]? = some x) : (xs.take (i + 1)).filterMap f = (xs.take i).filterMap f ++ (f x).toList := by
 rw [List.take_add_one, h, Option.toList_some, List.filterMap_append, List.filterMap_cons, List.filterMap_nil]
 cases f x <;> rfl
end Go.Ve

namespace Go.Ve
open Go
set_option maxRecDepth 1000000
set_option maxHeartbeats 4000000
theorem zKR {β : Type} {f : Nat → Option β} (i : Nat) : (List.range (i + 1)).filterMap f = (List.range i).filterMap f ++ (f i).toList := by
 rw [List.range_succ, List.filterMap_append, List.filterMap_cons, List.filterMap_nil]
 cases f i <;> rfl
theorem zPX {xs ys : List (Ty.El zA)} (hp : xs.Perm ys) (hs : xs.Pairwise (fun x y => ¬ rlt y x)) (ha : ys.Pairwise (fun x y => x.1 ≠ y.1)) : xs.Pairwise rlt := by
 have h2 : xs.Pairwise (fun x y => x.1 ≠ y.1) := hp.symm.pairwise ha (fun h => h.symm)
 exact (hs.and h2).imp (fun h => zOE h.1 h.2)
end Go.Ve

namespace Go.Ve
open Go
theorem zKg {α : Type} {p : α → Bool} {xs : List α} {i : Nat} {x : α} (h : xs[i]? = some x) : (xs.take (i + 1)).filter p = (xs.take i).filter p ++ (if p x then [x] else []) := by
 obtain ⟨hi, he⟩ := List.getElem?_eq_some_iff.1 h
 rw [List.take_add_one, h, List.filter_append]
 simp only [Option.toList_some, List.filter_cons, List.filter_nil]
theorem zED {α : Type} {p : α → Bool} {xs : List α} (i : Nat) : ((xs.take i).filter p).length ≤ xs.length :=
 Nat.le_trans (List.length_filter_le _ _) (List.length_take_le' _ _)
def uM (v : Ty.El zW) (r i : Int) : List (Ty.El zJ) := match v.2.1.1[(wK v r i).toNat]? with
 | some d => d.2.2.1
 | none => []
def zCK (v : Ty.El zW) (r i : Int) (p : Ty.El zJ → Bool) : List (Ty.El zJ) := bif upB v r i then (uM v r i).filter p else []
theorem zIT {v : Ty.El zW} {r i : Int} (h : upB v r i = true) : ∃ d, v.2.1.1[(wK v r i).toNat]? = some d ∧ 0 ≤ wK v r i ∧ uM v r i = d.2.2.1 := by
 unfold upB at h
 simp only [Bool.and_eq_true, decide_eq_true_eq] at h
 obtain ⟨d, hd, _⟩ := zEh (p := fun d : Ty.El kC => d.2.2.1.any (zDG (r, i, ()))) (xs := v.2.1.1) h.1
 refine ⟨d, hd, h.1, ?_⟩
 unfold uM
 have hd' : v.2.1.1[(wK v r i).toNat]? = some d := hd
 rw [hd']
theorem zMt {v : Ty.El zW} (hv : zA4 v) (r i : Int) : (uM v r i).length ≤ 360 := by
 unfold uM
 split
 ·rename_i d hd
  exact hv.ends d (List.mem_of_getElem? hd)
 ·exact Nat.zero_le _
theorem zFh (v : Ty.El zW) (r i : Int) (hv : zA4 v) : Wp (zAd (v, r, i, ())) (fun l => l = zCK v r i (fun e => e.1 != r)) := by
 unfold zAd zCK
 dsimp only
 refine zC ((zMY v r i hv).mono (fun b hb => ?_))
 subst hb
 refine zF (fun h => zB ?_) (fun h => ?_)
 ·have h : upB v r i = false := by simpa using h
  rw [h]; rfl
 ·have h : upB v r i = true := by simpa using h
  rw [h]
  obtain ⟨d, hd, h0, he⟩ := zIT h
  have hl : d.2.2.1.length ≤ 360 := by rw [← he]; exact zMt hv r i
  refine zC ((zAE v r i hv).mono (fun k hk => ?_))
  subst hk
  simp only [jD hd h0, Option.bind_some]
  refine zC (zAy (xs := d.2.2.1) (by omega) (fun j (g : List (Ty.El zJ)) => g = (d.2.2.1.take j).filter (fun e => e.1 != r)) (by simp) ?_ (fun g hg => zB ?_))
  ·intro j x g hx hg
   have hgl : g.length ≤ 360 := by rw [hg]; exact Nat.le_trans (zED j) hl
   simp only [zM hx, Option.bind_some]
   rw [zKg hx, ← hg]
   refine zF (fun h => zC (zAz (by simp only [List.length_singleton]; omega) (zB ?_))) (fun h => zB ?_)
   ·rw [if_pos h]
   ·rw [if_neg (by rw [h]; decide), List.append_nil]
  ·rw [hg, List.take_length, he]; rfl
theorem zGc (v : Ty.El zW) (r i : Int) (hv : zA4 v) : Wp (zAB (v, r, i, ())) (fun l => l = zCK v r i (fun e => e.1 != r || e.2.1 != i)) := by
 unfold zAB zCK
 dsimp only
 refine zC ((zHV v r i hv).mono (fun b hb => ?_))
 subst hb
 refine zF (fun h => zB ?_) (fun h => ?_)
 ·have h : upB v r i = false := by simpa using h
  rw [h]; rfl
 ·have h : upB v r i = true := by simpa using h
  rw [h]
  obtain ⟨d, hd, h0, he⟩ := zIT h
  have hl : d.2.2.1.length ≤ 360 := by rw [← he]; exact zMt hv r i
  refine zC (zC ((zA9 v r i hv).mono (fun k hk => ?_)))
  subst hk
  simp only [jD hd h0, Option.bind_some]
  refine zAy (xs := d.2.2.1) (by omega) (fun j (g : List (Ty.El zJ)) => g = (d.2.2.1.take j).filter (fun e => e.1 != r || e.2.1 != i)) (by simp) ?_ (fun g hg => zB ?_)
  ·intro j x g hx hg
   have hgl : g.length ≤ 360 := by rw [hg]; exact Nat.le_trans (zED j) hl
   simp only [zM hx, Option.bind_some]
   rw [zKg hx, ← hg]
   refine zC ((show Wp _ (fun s : Bool × List (Ty.El zJ) => s.1 = (x.1 != r || x.2.1 != i) ∧ s.2 = g) from ?_).mono (fun s hs => ?_))
   ·refine zF (fun h => zB ⟨?_, rfl⟩) (fun h => zB ⟨?_, rfl⟩)
    ·rw [h]; rfl
    ·rw [h]; rfl
   ·obtain ⟨s1, s2⟩ := s
    obtain ⟨h1, h2⟩ := hs
    simp only at h1 h2
    subst h2
    refine zF (fun h => zC (zAz (by simp only [List.length_singleton]; omega) (zB ?_))) (fun h => zB ?_)
    ·have h : s1 = true := h
     rw [← h1, if_pos h]
    ·have h : s1 = false := h
     rw [← h1, if_neg (by rw [h]; decide), List.append_nil]
  ·rw [hg, List.take_length, he]; rfl
end Go.Ve

namespace Go.Ve
open Go
theorem zMu {n : Ty.El zQ} {d : List Int} {v : Ty.El zW} (hv : uY n d v) {r i : Int} (h : upB v r i = true) : ∃ dm : Ty.El kC, zDL n dm.1 dm.2.1 (r, i, ()) ∧ (∀ e, e ∈ uM v r i → zDL n dm.1 dm.2.1 e) := by
 have h0 := h
 unfold upB at h0
 simp only [Bool.and_eq_true, decide_eq_true_eq] at h0
 obtain ⟨dm, h1, h2⟩ := zEh (p := fun d : Ty.El kC => d.2.2.1.any (zDG (r, i, ()))) (xs := v.2.1.1) h0.1
 obtain ⟨e, he, h3⟩ := List.any_eq_true.1 h2
 have h4 := zMv.1 h3
 subst h4
 have hall := (hv.topo.ends dm (List.mem_of_getElem? h1)).2
 refine ⟨dm, hall _ he, ?_⟩
 intro e' he'
 obtain ⟨d', hd', _, hee⟩ := zIT h
 have h1' : v.2.1.1[(wK v r i).toNat]? = some dm := h1
 rw [hd'] at h1'
 cases h1'
 rw [hee] at he'
 exact hall e' he'
theorem zTN {n : Ty.El zQ} {d : List Int} {v : Ty.El zW} (hv : uY n d v) {r i : Int} (h : upB v r i = true) {e : Ty.El zJ} (he : e ∈ uM v r i) (hr : e.1 = r) : e.2.1 = i := by
 obtain ⟨dm, ⟨a0, a1, rt, x, a2, a3, a4, _, a5, _⟩, hall⟩ := zMu hv h
 obtain ⟨b0, b1, rt', y, b2, b3, b4, _, b5, _⟩ := hall e he
 have a0 : (0 : Int) ≤ r := a0
 have a1 : (0 : Int) ≤ i := a1
 have a2 : n.1[r.toNat]? = some rt := a2
 have a3 : rt.2.2.1[i.toNat]? = some x := a3
 rw [hr, a2] at b2
 cases b2
 have hok := (zRz hv).rt rt (List.mem_of_getElem? a2)
 have c1 : some (zBU x.2.1 x.2.2.1) = some dm.1 := (wL x.2.1 x.2.2.1).symm.trans a5
 have c2 : some (zBU y.2.1 y.2.2.1) = some dm.1 := (wL y.2.1 y.2.2.1).symm.trans b5
 have hn : zBU x.2.1 x.2.2.1 = zBU y.2.1 y.2.2.1 := Option.some.inj (c1.trans c2.symm)
 have b1 : (0 : Int) ≤ e.2.1 := b1
 rcases Nat.lt_trichotomy i.toNat e.2.1.toNat with hlt | heq | hgt
 ·have := (hok.ifs _ y b3).apart _ x hlt a3 b4 a4
  rw [hn, zId] at this
  cases this
 ·exact (show ∀ (p q : Int), 0 ≤ p → 0 ≤ q → p.toNat = q.toNat → q = p from fun p q h1 h2 h3 => by omega) i e.2.1 a1 b1 heq
 ·have := (hok.ifs _ x a3).apart _ y hgt b3 a4 b4
  rw [hn, zId] at this
  cases this
theorem zP6 {n : Ty.El zQ} {d : List Int} {v : Ty.El zW} (hv : uY n d v) (r i : Int) : zCK v r i (fun e => e.1 != r || e.2.1 != i) = zCK v r i (fun e => e.1 != r) := by
 unfold zCK
 cases h : upB v r i with
 | false => rfl
 | true =>
  show (uM v r i).filter _ = (uM v r i).filter _
  refine List.filter_congr (fun e he => ?_)
  cases hb : (e.1 != r) with
  | true => rfl
  | false =>
   have hr : e.1 = r := by simpa using hb
   have := zTN hv h he hr
   simp [this]
end Go.Ve

namespace Go.Ve
open Go
def prB (x : Ty.El uX) (p : Ty.El zG) : Bool := (decide (x.2.1.2.1 ≤ p.2.1) && zBP x.2.1 p.1) && (decide (x.2.2.1 ≤ p.2.1) && decide (p.2.1 ≤ x.2.2.2.1))
theorem zJf (p q : Ty.El zG) : zBC (p, q, ()) = some (decide (p.2.1 ≤ q.2.1) && zBP p q.1) := by
 unfold zBC
 dsimp only
 rw [show x9 (p, q.1, ()) = some (zBP p q.1) from zG2 p q.1]
 cases decide (p.2.1 ≤ q.2.1) <;> rfl
theorem zGf (x : Ty.El uX) (p : Ty.El zG) : yK (x, p, ()) = some (prB x p) := by
 unfold yK prB
 dsimp only
 rw [show zBC (x.2.1, p, ()) = some (decide (x.2.1.2.1 ≤ p.2.1) && zBP x.2.1 p.1) from zJf x.2.1 p]
 simp only [Option.bind_some]
 cases (decide (x.2.1.2.1 ≤ p.2.1) && zBP x.2.1 p.1) <;> cases decide (x.2.2.1 ≤ p.2.1) <;> rfl
theorem zDp (x : Ty.El uX) (p : Ty.El zG) : w9 (x, p, ()) = some (prB x p) := by
 unfold w9 prB
 dsimp only
 rw [show vQ (x.2.1, p, ()) = some (decide (x.2.1.2.1 ≤ p.2.1) && zBP x.2.1 p.1) from zBa x.2.1 p]
 simp only [Option.bind_some]
 cases (decide (x.2.1.2.1 ≤ p.2.1) && zBP x.2.1 p.1) <;> cases decide (x.2.2.1 ≤ p.2.1) <;> rfl
theorem zHX (l : Ty.El jI) (p : Ty.El zG) (hl : l.2.1.length ≤ 20) : Wp (zBS (l, p, ())) (fun k => k = zBg (fun x => prB x p) l.2.1) := by
 unfold zBS
 dsimp only
 refine zBj (p := fun x : Ty.El uX => prB x p) (by omega) ?_ rfl
 intro i x hx
 simp only [zM hx, Option.bind_some]
 rw [show yK (x, p, ()) = some (prB x p) from zGf x p]
 cases prB x p <;> rfl
theorem zEO (l : Ty.El jI) (p : Ty.El zG) (hl : l.2.1.length ≤ 20) : Wp (xC (l, p, ())) (fun k => k = zBg (fun x => prB x p) l.2.1) := by
 unfold xC
 dsimp only
 refine zBj (p := fun x : Ty.El uX => prB x p) (by omega) ?_ rfl
 intro i x hx
 simp only [zM hx, Option.bind_some]
 rw [show w9 (x, p, ()) = some (prB x p) from zDp x p]
 cases prB x p <;> rfl
def zCY (r : Ty.El zH) (nm : Ty.El .str) : Int := zBg (fun x : Ty.El jI => x.1 == nm) r.2.2.2.1
theorem zEP (r : Ty.El zH) (nm : Ty.El .str) (hr : SmR r) : Wp (xE (r, nm, ())) (fun k => k = zCY r nm) := by
 unfold xE j9 xQ
 dsimp only
 have := hr.i2
 refine zC (zBj (p := fun x : Ty.El jI => x.1 == nm) (by omega) ?_ (zB rfl))
 intro i x hx
 simp only [zM hx, Option.bind_some]
 cases x.1 == nm <;> rfl
theorem zFg (r : Ty.El zH) (nm : Ty.El .str) (hr : SmR r) : Wp (jH (r, nm, ())) (fun k => k = zCY r nm) := by
 unfold jH
 dsimp only
 have := hr.i2
 refine zBj (p := fun x : Ty.El jI => x.1 == nm) (by omega) ?_ rfl
 intro i x hx
 simp only [zM hx, Option.bind_some]
 cases x.1 == nm <;> rfl
def zCo (r : Ty.El zH) (nm : Ty.El .str) (p : Ty.El zG) : Bool :=
 bif nm == ({ data := #[] } : ByteArray) then true else
 bif decide (zCY r nm < 0) then false else
 match r.2.2.2.1[(zCY r nm).toNat]? with
 | some l => bif decide (zBg (fun x => prB x p) l.2.1 ≥ 0) then (match l.2.1[(zBg (fun x => prB x p) l.2.1).toNat]? with
  | some z => z.1
  | none => false) else false
 | none => false
theorem zBJ (r : Ty.El zH) (nm : Ty.El .str) (p : Ty.El zG) (hr : SmR r) : Wp (yJ (r, nm, p, ())) (fun b => b = zCo r nm p) := by
 unfold yJ zCo
 dsimp only
 refine zF (fun h => zB (by rw [h]; rfl)) (fun h => ?_)
 rw [h]
 refine zC ((zEP r nm hr).mono (fun k hk => ?_))
 subst hk
 refine zI (fun h1 => zB ?_) (fun h1 => ?_)
 ·have h1 : zCY r nm < 0 := h1
  simp [h1]
 ·have h1 : ¬ zCY r nm < 0 := h1
  obtain ⟨l, hl, _⟩ := zEh (p := fun x : Ty.El jI => x.1 == nm) (xs := r.2.2.2.1) (show 0 ≤ zCY r nm by omega)
  have hl : r.2.2.2.1[(zCY r nm).toNat]? = some l := hl
  simp only [jD hl (show 0 ≤ zCY r nm by omega), Option.bind_some]
  refine zC ((zHX l p (hr.n1 l (List.mem_of_getElem? hl))).mono (fun k hk => ?_))
  subst hk
  rw [hl]
  simp only [decide_eq_false h1, cond_false]
  refine zC (zI (fun h2 => ?_) (fun h2 => zB (zB ?_)))
  ·have h2 : zBg (fun x => prB x p) l.2.1 ≥ 0 := h2
   obtain ⟨z, hz, _⟩ := zEh h2
   simp only [jD hz h2, Option.bind_some]
   refine zB (zB ?_)
   simp only [hz, decide_eq_true h2, cond_true]
  ·have h2 : ¬ zBg (fun x => prB x p) l.2.1 ≥ 0 := h2
   simp only [decide_eq_false h2, cond_false]
theorem zDo (r : Ty.El zH) (nm : Ty.El .str) (p : Ty.El zG) (hr : SmR r) : Wp (uK (r, nm, p, ())) (fun b => b = zCo r nm p) := by
 unfold uK zCo
 dsimp only
 refine zF (fun h => zB (by rw [h]; rfl)) (fun h => ?_)
 rw [h]
 refine zC ((zFg r nm hr).mono (fun k hk => ?_))
 subst hk
 refine zI (fun h1 => zB ?_) (fun h1 => ?_)
 ·have h1 : zCY r nm < 0 := h1
  simp [h1]
 ·have h1 : ¬ zCY r nm < 0 := h1
  obtain ⟨l, hl, _⟩ := zEh (p := fun x : Ty.El jI => x.1 == nm) (xs := r.2.2.2.1) (show 0 ≤ zCY r nm by omega)
  have hl : r.2.2.2.1[(zCY r nm).toNat]? = some l := hl
  simp only [jD hl (show 0 ≤ zCY r nm by omega), Option.bind_some]
  refine zC ((zEO l p (hr.n1 l (List.mem_of_getElem? hl))).mono (fun k hk => ?_))
  subst hk
  rw [hl]
  simp only [decide_eq_false h1, cond_false]
  refine zC (zI (fun h2 => ?_) (fun h2 => zB (zB ?_)))
  ·have h2 : zBg (fun x => prB x p) l.2.1 ≥ 0 := h2
   obtain ⟨z, hz, _⟩ := zEh h2
   simp only [jD hz h2, Option.bind_some]
   refine zB (zB ?_)
   simp only [hz, decide_eq_true h2, cond_true]
  ·have h2 : ¬ zBg (fun x => prB x p) l.2.1 ≥ 0 := h2
   simp only [decide_eq_false h2, cond_false]
end Go.Ve

namespace Go.Ve
open Go
theorem u6 (v : Ty.El zW) (r i : Nat) (rt : Ty.El zH) (x : Ty.El qA) (hr : v.1.1[r]? = some rt) (hx : rt.2.2.1[i]? = some x) :
  Wp (j3 (v, (r : Int), (i : Int), ())) (fun y => y = (x, true, ())) := by
 unfold j3
 dsimp only
 have hrl := (List.getElem?_eq_some_iff.1 hr).1
 have hil := (List.getElem?_eq_some_iff.1 hx).1
 have q0 : ¬ ((r : Int) < 0) := by omega
 have q1 : ¬ ((r : Int) ≥ (List.length v.1.1 : Int)) := by omega
 have q2 : ¬ ((i : Int) < 0) := by omega
 refine zC ((show Wp _ (fun s : Bool => s = false) from ?_).mono (fun s hs => ?_))
 ·refine zI (fun h => absurd h q0) (fun _ => zI (fun h => absurd h q1) (fun _ => zI (fun h => absurd h q2) (fun _ => ?_)))
  simp only [zM hr, Option.bind_some]
  refine zB ?_
  have : ¬ ((i : Int) ≥ (List.length rt.2.2.1 : Int)) := by omega
  exact decide_eq_false this
 ·subst hs
  simp only [cond_false, zM hr, zM hx, Option.bind_some]
  exact zB rfl
def kZ (v : Ty.El zW) (rt : Ty.El zH) (x : Ty.El qA) (r i : Int) : Bool := rt.2.2.2.2.2.2.2.2.2.1.1 && (x.2.2.2.2.2.2.2.2.1 && upB v r i)
theorem vI (v : Ty.El zW) (r i : Nat) (rt : Ty.El zH) (x : Ty.El qA) (hv : zA4 v) (hr : v.1.1[r]? = some rt) (hx : rt.2.2.1[i]? = some x) :
  Wp (jW (v, (r : Int), (i : Int), ())) (fun b => b = kZ v rt x r i) := by
 unfold jW kZ
 dsimp only
 refine zC ((u6 v r i rt x hr hx).mono (fun y hy => ?_))
 subst hy
 simp only [cond_true, zM hr, Option.bind_some]
 refine zC ?_
 refine zF (fun h => ?_) (fun h => zB (zB ?_))
 ·rw [h]
  refine zF (fun h => ?_) (fun h => zB (zB ?_))
  ·rw [h]
   exact zC ((zHV v r i hv).mono (fun b hb => zB (zB (by rw [hb]; rfl))))
  ·rw [h]; rfl
 ·rw [h]; rfl
def zKB (rt from' : Ty.El zH) (y : Ty.El qA) (i : Int) (x : Ty.El zA) : Option (Ty.El zA) :=
 bif decide (x.2.2.2.2.1 < 15) && (zCo from' from'.2.2.2.2.2.2.2.2.2.1.2.2.2.1 x.1 && zCo rt rt.2.2.2.2.2.2.2.2.2.1.2.2.1 x.1) then
  some (x.1, (4 : Int), (3 : Int), rt.2.2.2.2.2.2.2.2.2.1.2.1, IntKind.wrap IntKind.i64 (x.2.2.2.2.1 + (1 : Int)), (0 : Int), x.2.2.2.2.2.2.1, (0 : Int), [], (0 : Int), (0 : Int), [(i, y.2.1, ())], false, ())
 else none
theorem zDq (v : Ty.El zW) (t : List (Ty.El zA)) (r q k : Nat) (i : Int) (rt from' : Ty.El zH) (y : Ty.El qA) (hr : v.1.1[r]? = some rt) (hq : v.1.1[q]? = some from') (hy : from'.2.2.1[k]? = some y)
  (h1 : SmR rt) (h2 : SmR from') (hl : t.length ≤ 12) :
  Wp (uO (v, t, (r : Int), i, ((q : Int), (k : Int), ()), ())) (fun l => l = t.filterMap (zKB rt from' y i)) := by
 unfold uO
 dsimp only
 simp only [zM hr, zM hq, Option.bind_some]
 refine zC ((u6 v q k from' y hq hy).mono (fun z hz => ?_))
 subst hz
 refine zC (zAy (xs := t) (by omega) (fun j (g : List (Ty.El zA)) => g = (t.take j).filterMap (zKB rt from' y i)) (by simp) ?_ (fun g hg => zB (by rw [hg, List.take_length])))
 intro j x g hx hg
 have hgl : g.length ≤ 12 := by rw [hg]; exact Nat.le_trans (List.length_filterMap_le _ _) (Nat.le_trans (List.length_take_le' _ _) hl)
 simp only [zM hx, Option.bind_some]
 rw [zMf hx, ← hg]
 refine zC ((show Wp _ (fun s : Bool × List (Ty.El zA) => s.1 = !(decide (x.2.2.2.2.1 < 15) && (zCo from' from'.2.2.2.2.2.2.2.2.2.1.2.2.2.1 x.1 && zCo rt rt.2.2.2.2.2.2.2.2.2.1.2.2.1 x.1)) ∧ s.2 = g) from ?_).mono (fun s hs => ?_))
 ·refine zI (fun h => zB ⟨?_, rfl⟩) (fun h => ?_)
  ·have h : ¬ x.2.2.2.2.1 < 15 := Int.not_lt.2 h
   rw [decide_eq_false h]; rfl
  ·have h : x.2.2.2.2.1 < 15 := Int.not_le.1 h
   rw [decide_eq_true h]
   refine zC ((zBJ from' _ _ h2).mono (fun b hb => ?_))
   refine zF (fun hb' => zB ⟨?_, rfl⟩) (fun hb' => ?_)
   ·have hb' : b = false := by simpa using hb'
    rw [← hb, hb']; rfl
   ·have hb' : b = true := by simpa using hb'
    rw [← hb, hb']
    refine zC ((zBJ rt _ _ h1).mono (fun c hc => zB ⟨?_, rfl⟩))
    rw [hc]; rfl
 ·obtain ⟨s1, s2⟩ := s
  obtain ⟨g1, g2⟩ := hs
  simp only at g1 g2
  subst g2
  unfold zKB
  refine zF (fun h => zB ?_) (fun h => ?_)
  ·have h : s1 = true := h
   rw [h] at g1
   have g1 := (Bool.not_eq_eq_eq_not).1 g1.symm
   rw [g1]; simp
  ·have h : s1 = false := h
   rw [h] at g1
   have g1 := (Bool.not_eq_eq_eq_not).1 g1.symm
   rw [g1]
   exact zC (zAz (by simp only [List.length_singleton]; omega) (zB rfl))
end Go.Ve

namespace Go.Ve
open Go
def zJj (v : Ty.El zW) (dv : List (List (Ty.El zA))) (rt : Ty.El zH) (i : Int) (e : Ty.El zJ) : List (Ty.El zA) :=
 match v.1.1[Int.toNat e.1]? with
 | some q => match q.2.2.1[Int.toNat e.2.1]?, dv[Int.toNat e.1]? with
  | some y, some t => bif kZ v q y e.1 e.2.1 then t.filterMap (zKB rt q y i) else []
  | _, _ => []
 | none => []
def zJi (v : Ty.El zW) (dv : List (List (Ty.El zA))) (r : Int) (rt : Ty.El zH) (i : Nat) : List (Ty.El zA) :=
 match rt.2.2.1[i]? with
 | some x => bif kZ v rt x r i then (zCK v r i (fun e => e.1 != r || e.2.1 != (i : Int))).flatMap (zJj v dv rt i) else []
 | none => []
def zCI (v : Ty.El zW) (dv : List (List (Ty.El zA))) (r : Int) (rt : Ty.El zH) : List (Ty.El zA) := (List.range rt.2.2.1.length).flatMap (zJi v dv r rt)
theorem zAr {α β : Type} {f : α → List β} {k : Nat} : ∀ {xs : List α}, (∀ x, x ∈ xs → (f x).length ≤ k) → (xs.flatMap f).length ≤ xs.length * k
 | [], _ => by simp
 | x :: xs, h => by
  have h1 := h x (by simp)
  have h2 := zAr (xs := xs) (fun y hy => h y (List.mem_cons_of_mem _ hy))
  simp only [List.flatMap_cons, List.length_append, List.length_cons, Nat.succ_mul]
  omega
theorem zID {α β : Type} {f : α → List β} {xs : List α} {i : Nat} {x : α} (h : xs[i]? = some x) : (xs.take (i + 1)).flatMap f = (xs.take i).flatMap f ++ f x := by
 rw [List.take_add_one, h, List.flatMap_append]
 simp
theorem zPV {v : Ty.El zW} {dv : List (List (Ty.El zA))} {rt : Ty.El zH} {i : Int} {e : Ty.El zJ} (h : ∀ t, t ∈ dv → t.length ≤ 12) : (zJj v dv rt i e).length ≤ 12 := by
 unfold zJj
 split
 ·split
  ·rename_i q _ _ _ y t _ ht
   cases kZ v q y e.1 e.2.1
   ·exact Nat.zero_le _
   ·exact Nat.le_trans (List.length_filterMap_le _ _) (h t (List.mem_of_getElem? ht))
  ·exact Nat.zero_le _
 ·exact Nat.zero_le _
theorem zLZ {v : Ty.El zW} (hv : zA4 v) (r i : Int) (p : Ty.El zJ → Bool) : (zCK v r i p).length ≤ 360 := by
 unfold zCK
 cases upB v r i
 ·exact Nat.zero_le _
 ·exact Nat.le_trans (List.length_filter_le _ _) (zMt hv r i)
theorem zPU {v : Ty.El zW} (hv : zA4 v) {dv : List (List (Ty.El zA))} {r : Int} {rt : Ty.El zH} {i : Nat} (h : ∀ t, t ∈ dv → t.length ≤ 12) : (zJi v dv r rt i).length ≤ 4320 := by
 unfold zJi
 split
 ·rename_i x _
  cases kZ v rt x r i
  ·exact Nat.zero_le _
  ·have h1 := zLZ hv r i (fun e => e.1 != r || e.2.1 != (i : Int))
   have h2 := zAr (xs := zCK v r i (fun e => e.1 != r || e.2.1 != (i : Int))) (f := zJj v dv rt i) (k := 12) (fun e _ => zPV h)
   show (List.flatMap _ _).length ≤ _
   omega
 ·exact Nat.zero_le _
theorem xU (v : Ty.El zW) (hs : zA4 v) (hE : ∀ (r i : Int) (e : Ty.El zJ), upB v r i = true → e ∈ uM v r i → (0 : Int) ≤ e.1 ∧ (0 : Int) ≤ e.2.1 ∧ ∃ q y, v.1.1[Int.toNat e.1]? = some q ∧ q.2.2.1[Int.toNat e.2.1]? = some y) (dv : List (List (Ty.El zA))) (hdv : dv.length = v.1.1.length) (h12 : ∀ t, t ∈ dv → t.length ≤ 12) (r : Nat) (rt : Ty.El zH) (hr : v.1.1[r]? = some rt) :
  Wp (wB (v, dv, (r : Int), ())) (fun l => l = zCI v dv r rt) := by
 unfold wB
 dsimp only
 have hrl := (List.getElem?_eq_some_iff.1 hr).1
 have hsm := hs.sm rt (List.mem_of_getElem? hr)
 have hil : rt.2.2.1.length ≤ 20 := hsm.i1
 have q0 : ¬ ((r : Int) < 0) := by omega
 have q1 : ¬ ((r : Int) ≥ (List.length v.1.1 : Int)) := by omega
 refine zC (zI (fun h => absurd h q0) (fun _ => zB ?_))
 refine zI (fun h => absurd h q1) (fun _ => ?_)
 simp only [zM hr, Option.bind_some]
 have hfl : ∀ i, ((List.range i).flatMap (zJi v dv r rt)).length ≤ i * 4320 := fun i => by
  have := zAr (xs := List.range i) (f := zJi v dv r rt) (k := 4320) (fun e _ => zPU hs h12)
  rwa [List.length_range] at this
 refine zC (zAy (xs := rt.2.2.1) (by omega) (fun i (g : List (Ty.El zA)) => g = (List.range i).flatMap (zJi v dv r rt)) rfl ?_ (fun g hg => zB hg))
 intro i x g hx hg
 have hi := (List.getElem?_eq_some_iff.1 hx).1
 have hgl : g.length ≤ i * 4320 := by rw [hg]; exact hfl i
 have yM : (List.range (i + 1)).flatMap (zJi v dv r rt) = g ++ zJi v dv r rt i := by
  rw [List.range_succ, List.flatMap_append, ← hg]
  simp
 rw [yM]
 have hI : zJi v dv r rt i = bif kZ v rt x r i then (zCK v r i (fun e => e.1 != (r : Int) || e.2.1 != (i : Int))).flatMap (zJj v dv rt i) else [] := by unfold zJi; rw [hx]
 rw [hI]
 refine zC ((vI v r i rt x hs hr hx).mono (fun b hb => ?_))
 subst hb
 refine zF (fun h => zB ?_) (fun h => ?_)
 ·have h : kZ v rt x r i = false := by simpa using h
  rw [h]; simp
 have h : kZ v rt x r i = true := by simpa using h
 rw [h]
 refine zC ((zGc v r i hs).mono (fun ns hns => ?_))
 have hnl : ns.length ≤ 360 := by rw [hns]; exact zLZ hs _ _ _
 have hup : upB v r i = true := by
  unfold kZ at h
  simp only [Bool.and_eq_true] at h
  exact h.2.2
 have hmem : ∀ e, e ∈ ns → e ∈ uM v r i := by
  intro e he
  rw [hns] at he
  unfold zCK at he
  rw [hup] at he
  exact (List.mem_filter.1 he).1
 refine (zAy (xs := ns) (by omega) (fun j (g' : List (Ty.El zA)) => g' = g ++ (ns.take j).flatMap (zJj v dv rt i)) (by simp) ?_ (fun g' hg' => by rw [hg', List.take_length, hns]; rfl))
 intro j e g' he hg'
 have hj := (List.getElem?_eq_some_iff.1 he).1
 have hg'l : g'.length ≤ i * 4320 + 4320 := by
  have h2 := zAr (xs := ns.take j) (f := zJj v dv rt i) (k := 12) (fun e _ => zPV h12)
  have h3 := List.length_take_le' j ns
  rw [hg', List.length_append]
  omega
 simp only [zM he, Option.bind_some]
 rw [zID he, ← List.append_assoc, ← hg']
 obtain ⟨b0, b1, q, y, b2, b3⟩ := hE _ _ e hup (hmem e (List.mem_of_getElem? he))
 obtain ⟨e1, e2, ⟨⟩⟩ := e
 obtain ⟨qn, rfl⟩ := Int.eq_ofNat_of_zero_le (show (0 : Int) ≤ e1 from b0)
 obtain ⟨kn, rfl⟩ := Int.eq_ofNat_of_zero_le (show (0 : Int) ≤ e2 from b1)
 have b2 : v.1.1[qn]? = some q := b2
 have b3 : q.2.2.1[kn]? = some y := b3
 have c2 : v.1.1[qn]? = some q := b2
 have hql := (List.getElem?_eq_some_iff.1 b2).1
 have hqd : qn < dv.length := by omega
 have ht : dv[qn]? = some dv[qn] := by simp [hqd]
 have hE : zJj v dv rt i ((qn : Int), (kn : Int), ()) = bif kZ v q y qn kn then dv[qn].filterMap (zKB rt q y i) else [] := by
  unfold zJj
  simp only [Int.toNat_natCast, c2, b3, ht]
 rw [hE]
 refine zC ((show Wp _ (fun s : Bool × List (Ty.El zA) => s.1 = kZ v q y qn kn ∧ s.2 = g') from ?_).mono (fun s hs' => ?_))
 ·refine zC ((vI v qn kn q y hs c2 b3).mono (fun b hb => ?_))
  subst hb
  refine zF (fun hb => zB ⟨?_, rfl⟩) (fun hb => zB ⟨?_, rfl⟩)
  ·rw [hb]
   have : ((qn : Int) < (dv.length : Int)) := by omega
   exact decide_eq_true this
  ·rw [hb]
 ·obtain ⟨s1, s2⟩ := s
  obtain ⟨k1, k2⟩ := hs'
  simp only at k1 k2
  subst k2
  refine zF (fun hb => ?_) (fun hb => zB ?_)
  ·have hb : s1 = true := hb
   rw [← k1, hb]
   simp only [zM ht, Option.bind_some]
   have h12' := h12 dv[qn] (List.getElem_mem _)
   refine zC ((zDq v dv[qn] r qn kn i rt q y hr c2 b3 hsm (hs.sm q (List.mem_of_getElem? c2)) h12').mono (fun l hl => ?_))
   subst hl
   have := Nat.le_trans (List.length_filterMap_le (zKB rt q y i) dv[qn]) h12'
   exact zC (zAz (by omega) (zB rfl))
  ·have hb : s1 = false := hb
   rw [← k1, hb]; simp
theorem zDr (n : Ty.El zQ) (d : List Int) (v : Ty.El zW) (hv : uY n d v) (dv : List (List (Ty.El zA))) (hdv : dv.length = n.1.length) (h12 : ∀ t, t ∈ dv → t.length ≤ 12) (r : Nat) (rt : Ty.El zH) (hr : v.1.1[r]? = some rt) :
  Wp (wB (v, dv, (r : Int), ())) (fun l => l = zCI v dv r rt) := by
 refine xU v hv.s ?_ dv (by rw [hv.net]; exact hdv) h12 r rt hr
 intro r i e hup he
 obtain ⟨dm, _, hall⟩ := zMu hv hup
 obtain ⟨b0, b1, q, y, b2, b3, _⟩ := hall e he
 exact ⟨b0, b1, q, y, by rw [hv.net]; exact b2, b3⟩
end Go.Ve

namespace Go.Ve
open Go
set_option maxRecDepth 1000000
set_option maxHeartbeats 4000000
structure zI4 (l : List (Ty.El zA)) (proto : Int) : Prop where
 val : ∀ x, x ∈ l → wY (x, ()) = some true
 pr : proto ≠ 0 → ∀ x, x ∈ l → x.2.1 = proto
 so : ∀ i x y, l[i]? = some x → l[i + 1]? = some y → rlt x y
theorem zTW (l : List (Ty.El zA)) (proto : Int) (hl : l.length ≤ 1048576) (hs : ∀ y, y ∈ l → RtS y) : Wp (zCV (l, proto, ())) (fun b => b = true → zI4 l proto) := by
 unfold zCV
 dsimp only
 refine zBi (by omega) (fun i => ∀ m x, m < i → l[m]? = some x → wY (x, ()) = some true ∧ (proto ≠ 0 → x.2.1 = proto) ∧ (∀ j y, m = j + 1 → l[j]? = some y → rlt y x)) (fun m x hm => by omega) ?_ (fun hj => zB (fun _ => ?_))
 ·intro i x hx hj
  have hi := (List.getElem?_eq_some_iff.1 hx).1
  simp only [zM hx, Option.bind_some]
  have hcmp : (i : Int) > 0 → Wp (Option.bind (idx l (IntKind.wrap IntKind.i64 ((i : Int) - (1 : Int)))) fun (y44 : Ty.El zA) => Option.bind (vR (y44.1, x.1, ())) fun (y46 : Int) => some (decide (y46 ≥ (0 : Int)))) (fun s => s = false → ∀ j y, i = j + 1 → l[j]? = some y → rlt y x) := by
   intro h0
   rw [zD (by omega) (by omega), show ((i : Int) - 1) = ((i - 1 : Nat) : Int) by omega]
   obtain ⟨yy, hy⟩ : ∃ yy, l[i - 1]? = some yy := ⟨l[i - 1]'(by omega), by simp⟩
   refine zC (qV (zM hy) (zC (qV (zCQ _ _) (zB ?_))))
   intro h j y hji hyj
   rw [show i - 1 = j by omega] at hy
   rw [hy] at hyj
   cases hyj
   have h := of_decide_eq_false h
   exact zIW.1 (Int.not_le.1 h)
  refine zC ((show Wp _ (fun s : Bool => s = false → wY (x, ()) = some true ∧ (proto ≠ 0 → x.2.1 = proto) ∧ (∀ j y, i = j + 1 → l[j]? = some y → rlt y x)) from ?_).mono (fun s hs' => ?_))
  ·refine yE ((zKv x (hs x (List.mem_of_getElem? hx))).mono (fun _ _ => trivial)) (fun b hb => zF (fun _ => zB (fun h => by cases h)) (fun hb' => ?_))
   have hv : wY (x, ()) = some true := by
    rw [hb]
    have h : (!b) = false := hb'
    cases b
    ·cases h
    ·rfl
   refine zF (fun hp => zF (fun _ => zB (fun h => by cases h)) (fun hpe => ?_)) (fun hp => ?_)
   ·have hpe : x.2.1 = proto := by simpa using hpe
    refine zI (fun h => (hcmp h).mono (fun s h2 h3 => ⟨hv, fun _ => hpe, h2 h3⟩)) (fun h => zB (fun _ => ⟨hv, fun _ => hpe, fun j y hj' => ?_⟩))
    omega
   ·have hp : proto = 0 := by simpa using hp
    refine zI (fun h => (hcmp h).mono (fun s h2 h3 => ⟨hv, fun hh => absurd hp hh, h2 h3⟩)) (fun h => zB (fun _ => ⟨hv, fun hh => absurd hp hh, fun j y hj' => ?_⟩))
    omega
  ·refine zF (fun _ => zB (fun h => by cases h)) (fun h => zB (e2l ⟨rfl, ?_⟩))
   intro m z hm hz
   rcases Nat.lt_or_ge m i with h' | h'
   ·exact hj m z h' hz
   ·have : m = i := by omega
    subst this
    rw [hx] at hz
    cases hz
    exact hs' h
 ·have hall : ∀ m x, l[m]? = some x → _ := fun m x hx => hj m x (List.getElem?_eq_some_iff.1 hx).1 hx
  refine ⟨fun x hx => ?_, fun hp x hx => ?_, fun i x y hx hy => (hall (i + 1) y hy).2.2 i x rfl hx⟩
  ·obtain ⟨m, hm, rfl⟩ := List.getElem_of_mem hx
   exact (hall m _ (by simp [hm])).1
  ·obtain ⟨m, hm, rfl⟩ := List.getElem_of_mem hx
   exact (hall m _ (by simp [hm])).2.1 hp
structure DvR (x : Ty.El zA) : Prop where
 pre : zGL x.1 = true
 tag : 0 ≤ x.2.2.2.2.2.2.1 ∧ x.2.2.2.2.2.2.1 ≤ 65535
 met : 1 ≤ x.2.2.2.2.1 ∧ x.2.2.2.2.1 ≤ 15
 path : x.2.2.2.2.2.2.2.2.1 = []
theorem zTV (x : Ty.El zA) (c : Bool) : Wp (wW (x, false, false, c, ())) (fun b => b = true → x.2.2.2.2.2.2.2.2.1 = []) := by
 unfold wW
 dsimp only
 refine zC (zF (fun h => by cases h) (fun _ => zF (fun _ => zF (fun h => by cases h) (fun _ => zF (fun _ => zF (fun hp => ?_) (fun _ => ?_)) (fun _ => ?_))) (fun _ => ?_)))
 ·have hp : x.2.2.2.2.2.2.2.2.1 = [] := by
   have : (x.2.2.2.2.2.2.2.2.1.length : Int) = 0 := by simpa using hp
   exact List.length_eq_zero_iff.1 (by omega)
  repeat' (first
   | exact zB (zB (fun _ => hp))
   | refine zF (fun _ => ?_) (fun _ => ?_))
 all_goals exact zB (zB (fun h => by cases h))
theorem zSb (x : Ty.El zA) (hs : RtS x) (h4 : x.2.1 = 4) : Wp (wY (x, ())) (fun b => b = true → DvR x) := by
 unfold wY
 dsimp only
 refine zC ((show Wp _ (fun s : Bool => s = false → zGL x.1 = true ∧ (0 ≤ x.2.2.2.2.2.2.1 ∧ x.2.2.2.2.2.2.1 ≤ 65535) ∧ x.2.2.2.2.2.2.2.2.1.length ≤ 64) from ?_).mono (fun s hs' => ?_))
 ·refine zC (qV (zEw _) (zF (fun _ => zB (fun h => by cases h)) (fun h1 => zC (qV (u5 _ _ _) (zF (fun _ => zB (fun h => by cases h)) (fun h2 => zB (fun h3 => ⟨by simpa using h1, by simpa using h2, ?_⟩)))))))
  have := of_decide_eq_false h3
  omega
 refine zF (fun _ => zB (fun h => by cases h)) (fun h => ?_)
 obtain ⟨g1, g2, g3⟩ := hs' h
 refine zDN (P := fun _ => True) (by omega) ?_ (fun _ => ?_)
 ·intro i y hy
  simp only [zM hy, Option.bind_some]
  exact zC (qV (u5 _ _ _) (zF (fun _ => zB (fun h => by cases h)) (fun _ => zB (e2l ⟨rfl, trivial⟩))))
 ·have k1 : (x.2.1 == (1 : Int)) = false := by rw [h4]; rfl
  have k2 : (x.2.1 == (2 : Int)) = false := by rw [h4]; rfl
  have k3 : (x.2.1 == (3 : Int)) = false := by rw [h4]; rfl
  have k4 : (x.2.1 == (4 : Int)) = true := by rw [h4]; rfl
  rw [k1, k2, k3, k4]
  simp only [cond_false, cond_true]
  refine zC (Wp.mono (Q := fun b => b = true → DvR x) ?_ (fun b hb => zB hb))
  unfold wO
  dsimp only
  refine zC ((show Wp _ (fun s : Bool => s = false → (1 ≤ x.2.2.2.2.1 ∧ x.2.2.2.2.1 ≤ 15) ∧ x.2.2.2.2.2.2.2.2.1 = []) from ?_).mono (fun s hs2 => ?_))
  ·refine zC (qV (u5 _ _ _) (zF (fun _ => zB (fun h => by cases h)) (fun _ => ?_)))
   refine zC (qV (u5 _ _ _) (zF (fun _ => zB (fun h => by cases h)) (fun h2 => ?_)))
   refine zC ((zTV x false).mono (fun b hb => zF (fun _ => zB (fun h => by cases h)) (fun h3 => zB (fun _ => ?_))))
   exact ⟨by simpa using h2, hb (by simpa using h3)⟩
  refine zF (fun _ => zB (fun h => by cases h)) (fun h5 => ?_)
  obtain ⟨g4, g5⟩ := hs2 h5
  have fin : DvR x := ⟨g1, g2, g4, g5⟩
  have hh := hs.hops
  have hho : ∀ d, Wp (vA (x.2.2.2.2.2.2.2.2.2.2.2.1, d, ())) (fun _ => True) := fun d => kN _ _ hh
  repeat' (first
   | exact zB (fun _ => fin)
   | refine zC ((hho _).mono (fun _ _ => ?_))
   | refine zC (Wp.mono (Q := fun _ => True) ?_ (fun _ _ => zB (fun _ => fin)))
   | exact zB trivial
   | refine zF (fun _ => ?_) (fun _ => ?_))
end Go.Ve

namespace Go.Ve
open Go
structure zS0 (m : Nat) (dv : List (List (Ty.El zA))) : Prop where
 len : dv.length = m
 one : ∀ t, t ∈ dv → t.length ≤ 12 ∧ zI4 t 4 ∧ ∀ x, x ∈ t → DvR x
theorem zTX (v : Ty.El zW) (dv : List (List (Ty.El zA))) (hs : ∀ t, t ∈ dv → ∀ y, y ∈ t → RtS y) (hl : v.1.1.length ≤ 9) : Wp (zC1 (v, dv, ())) (fun b => b = true → zS0 v.1.1.length dv) := by
 unfold zC1
 dsimp only
 refine zF (fun _ => zB (fun h => by cases h)) (fun h => ?_)
 have hlen : dv.length = v.1.1.length := by
  have h' : ((List.length dv : Int) == (List.length v.1.1 : Int)) = true := by simpa using h
  have := (beq_iff_eq).1 h'
  omega
 refine zBi (by omega) (fun i => ∀ m t, m < i → dv[m]? = some t → t.length ≤ 12 ∧ zI4 t 4 ∧ ∀ x, x ∈ t → DvR x) (fun m t hm => by omega) ?_ (fun hj => zB (fun _ => ⟨hlen, fun t ht => ?_⟩))
 ·intro i t ht hj
  have hst := hs t (List.mem_of_getElem? ht)
  simp only [zM ht, Option.bind_some]
  refine zC ((show Wp _ (fun s : Bool => s = false → t.length ≤ 12 ∧ zI4 t 4 ∧ ∀ x, x ∈ t → DvR x) from ?_).mono (fun s hs' => ?_))
  ·refine zI (fun _ => zB (fun h => by cases h)) (fun h => ?_)
   have h12 : t.length ≤ 12 := by
    have : ¬ ((List.length t : Int) > 12) := h
    omega
   refine zC ((zTW t 4 (by omega) hst).mono (fun b hb => zB (fun h => ?_)))
   have htab := hb (by simpa using h)
   refine ⟨h12, htab, fun x hx => ?_⟩
   have hx4 := htab.pr (by decide) x hx
   obtain ⟨b', hb1, hb2⟩ := zSb x (hst x hx) hx4
   rw [htab.val x hx] at hb1
   exact hb2 (Option.some.inj hb1).symm
  ·refine zF (fun _ => zB ?_) (fun h => zB ?_)
   ·exact fun h => by cases h
   ·have h : s = false := h
    refine ⟨rfl, ?_⟩
    intro m t' hm ht'
    by_cases hmi : m = i
    ·subst hmi
     rw [ht] at ht'
     cases ht'
     exact hs' h
    ·exact hj m t' (by omega) ht'
 ·obtain ⟨m, hm, hme⟩ := List.getElem_of_mem ht
  exact hj m t hm (by rw [List.getElem?_eq_getElem hm, hme])
end Go.Ve

namespace Go.Ve
open Go
def zNr (v : Ty.El zW) (e : Ty.El zJ) : Option Int := match v.1.1[Int.toNat e.1]? with
 | some q => match q.2.2.1[Int.toNat e.2.1]? with
  | some y => some y.2.1
  | none => none
 | none => none
theorem zVq {n : Ty.El zQ} {d : List Int} {v : Ty.El zW} (hv : uY n d v) {p : Ty.El zG} {vl : Int} {e e' : Ty.El zJ} (h : zDL n p vl e) (h' : zDL n p vl e') {a : Int} (ha : zNr v e = some a) (ha' : zNr v e' = some a) : e' = e := by
 obtain ⟨a0, a1, rt, x, a2, a3, a4, _, a5, _⟩ := h
 obtain ⟨b0, b1, rt', y, b2, b3, b4, _, b5, _⟩ := h'
 have a2' : v.1.1[Int.toNat e.1]? = some rt := by rw [hv.net]; exact a2
 have b2' : v.1.1[Int.toNat e'.1]? = some rt' := by rw [hv.net]; exact b2
 unfold zNr at ha ha'
 rw [a2'] at ha
 rw [b2'] at ha'
 simp only [a3, Option.some.injEq] at ha
 simp only [b3, Option.some.injEq] at ha'
 have key : ∀ (p q : Int), 0 ≤ p → 0 ≤ q → p.toNat = q.toNat → q = p := fun p q h1 h2 h3 => by omega
 by_cases hr : Int.toNat e.1 = Int.toNat e'.1
 ·have hr1 : e'.1 = e.1 := key e.1 e'.1 a0 b0 hr
  rw [← hr, a2] at b2
  cases b2
  have hok := (zRz hv).rt rt (List.mem_of_getElem? a2)
  have c1 : some (zBU x.2.1 x.2.2.1) = some p := (wL x.2.1 x.2.2.1).symm.trans a5
  have c2 : some (zBU y.2.1 y.2.2.1) = some p := (wL y.2.1 y.2.2.1).symm.trans b5
  have hn : zBU x.2.1 x.2.2.1 = zBU y.2.1 y.2.2.1 := Option.some.inj (c1.trans c2.symm)
  have hi : e'.2.1 = e.2.1 := by
   rcases Nat.lt_trichotomy (Int.toNat e.2.1) (Int.toNat e'.2.1) with hlt | heq | hgt
   ·have := (hok.ifs _ y b3).apart _ x hlt a3 b4 a4
    rw [hn, zId] at this
    cases this
   ·exact key e.2.1 e'.2.1 a1 b1 heq
   ·have := (hok.ifs _ x a3).apart _ y hgt b3 a4 b4
    rw [hn, zId] at this
    cases this
  obtain ⟨e1, e2, ⟨⟩⟩ := e
  obtain ⟨f1, f2, ⟨⟩⟩ := e'
  exact Prod.ext hr1 (Prod.ext hi rfl)
 ·exact absurd (ha.trans ha'.symm) ((zRz hv).addr _ _ rt rt' hr a2 b2 x y (List.mem_of_getElem? a3) (List.mem_of_getElem? b3) a4 b4)
end Go.Ve



namespace Go.Ve
open Go
theorem zQa {v : Ty.El zW} {dv : List (List (Ty.El zA))} {rt : Ty.El zH} {i : Int} {e : Ty.El zJ} {x : Ty.El zA} (h : x ∈ zJj v dv rt i e) :
  ∃ q y t x0, v.1.1[Int.toNat e.1]? = some q ∧ q.2.2.1[Int.toNat e.2.1]? = some y ∧ dv[Int.toNat e.1]? = some t ∧ kZ v q y e.1 e.2.1 = true ∧ x0 ∈ t ∧ zKB rt q y i x0 = some x := by
 unfold zJj at h
 cases hq : v.1.1[Int.toNat e.1]? with
 | none => rw [hq] at h; cases h
 | some q =>
  rw [hq] at h
  simp only at h
  cases hy : q.2.2.1[Int.toNat e.2.1]? with
  | none => rw [hy] at h; cases h
  | some y =>
   cases ht : dv[Int.toNat e.1]? with
   | none => rw [hy, ht] at h; cases h
   | some t =>
    rw [hy, ht] at h
    simp only at h
    cases hp : kZ v q y e.1 e.2.1 with
    | false => rw [hp] at h; cases h
    | true =>
     rw [hp] at h
     obtain ⟨x0, h1, h2⟩ := List.mem_filterMap.1 h
     exact ⟨q, y, t, x0, rfl, hy, rfl, hp, h1, h2⟩
theorem zP9 {v : Ty.El zW} {dv : List (List (Ty.El zA))} {r : Int} {rt : Ty.El zH} {x : Ty.El zA} (h : x ∈ zCI v dv r rt) :
  ∃ (i : Nat) (z : Ty.El qA) (e : Ty.El zJ), rt.2.2.1[i]? = some z ∧ kZ v rt z r i = true ∧ e ∈ zCK v r i (fun e => e.1 != r || e.2.1 != (i : Int)) ∧ x ∈ zJj v dv rt i e := by
 unfold zCI at h
 obtain ⟨i, _, hi⟩ := List.mem_flatMap.1 h
 unfold zJi at hi
 cases hz : rt.2.2.1[i]? with
 | none => rw [hz] at hi; cases hi
 | some z =>
  rw [hz] at hi
  simp only at hi
  cases hp : kZ v rt z r i with
  | false => rw [hp] at hi; cases hi
  | true =>
   rw [hp] at hi
   obtain ⟨e, h1, h2⟩ := List.mem_flatMap.1 hi
   exact ⟨i, z, e, hz, hp, h1, h2⟩
end Go.Ve



namespace Go.Ve
open Go
set_option maxRecDepth 1000000
set_option maxHeartbeats 4000000
theorem tt {α : Type} {c : Bool} {x y : Option α} {Q : α → Prop} (hc : c = true) (h : Wp x Q) : Wp (bif c then x else y) Q := by rw [hc]; exact h
theorem ff {α : Type} {c : Bool} {x y : Option α} {Q : α → Prop} (hc : c = false) (h : Wp y Q) : Wp (bif c then x else y) Q := by rw [hc]; exact h
end Go.Ve

namespace Go.Ve
open Go
set_option maxRecDepth 1000000
noncomputable def yB : ElS [zQ, (.sl tI), (.sl (.sl zA))] → Option (RTy.El (.p .bool)) := fun x => match x with | (a1, a2, a3, ()) => Option.bind (zEc (a1, a2, ())) fun (y0 : Ty.El zW × Bool × Unit) => Option.bind (bif !y0.2.1 then some true else Option.bind (zC1 (y0.1, a3, ())) fun (y2 : Bool) => some !y2) fun (s3 : Bool) => bif s3 then some true else qQ (zO (fun (s281 : Int) => bif decide (s281 < (↑(List.length a3) : Int)) then qQ (Option.bind (idx a1.1 s281) fun (y282 : Ty.El zH) => Option.bind (wB (y0.1, a3, s281, ())) fun (y283 : List (Ty.El zA)) => qQ (zO (fun (s284 : Int) => bif decide (s284 < (↑(List.length y283) : Int)) then Option.bind (idx y283 s284) fun (y285 : Ty.El zA) => Option.bind (uK (y282, y282.2.2.2.2.2.2.2.2.2.1.2.2.1, y285.1, ())) fun (y286 : Bool) => bif !y286 then some (Sum.inr (Sum.inr (Sum.inr (Sum.inr (Sum.inr false))))) else some (Sum.inl (IntKind.wrap IntKind.i64 (s284 + (1 : Int)))) else some (Sum.inr (Sum.inl ()))) (0 : Int)) fun (s287 : Unit) => zO (fun (s288 : Int) => bif decide (s288 < (↑(List.length y282.2.2.1) : Int)) then qQ (Option.bind (zAd (y0.1, s281, s288, ())) fun (y289 : List (Ty.El zJ)) => zO (fun (s290 : Int) => Option.bind (bif y282.2.2.2.2.2.2.2.2.2.1.1 then bif y282.2.2.2.2.2.2.2.2.2.1.2.2.1 == { data := #[] } then Option.bind (idx y282.2.2.1 s288) fun (y291 : Ty.El qA) => bif y291.2.2.2.2.2.2.2.2.1 then some (decide (s290 < (↑(List.length y289) : Int))) else some false else some false else some false) fun (s292 : Bool) => bif s292 then qQ (Option.bind (idx y289 s290) fun (y293 : Ty.El zJ) => Option.bind (idx a1.1 y293.1) fun (y294 : Ty.El zH) => Option.bind (bif !y294.2.2.2.2.2.2.2.2.2.1.1 then some true else Option.bind (idx y289 s290) fun (y295 : Ty.El zJ) => Option.bind (idx y294.2.2.1 y295.2.1) fun (y296 : Ty.El qA) => bif !y296.2.2.2.2.2.2.2.2.1 then some true else some (y294.2.2.2.2.2.2.2.2.2.1.2.2.2.1 != { data := #[] })) fun (s297 : Bool) => bif s297 then some (Sum.inl ()) else zO (fun (s298 : Int) => Option.bind (idx y289 s290) fun (y299 : Ty.El zJ) => Option.bind (idx a3 y299.1) fun (y300 : List (Ty.El zA)) => bif decide (s298 < (↑(List.length y300) : Int)) then qQ (Option.bind (idx y289 s290) fun (y301 : Ty.El zJ) => Option.bind (idx a3 y301.1) fun (y302 : List (Ty.El zA)) => Option.bind (idx y302 s298) fun (y303 : Ty.El zA) => Option.bind (zO (fun (s304 : Int × Bool) => bif decide (s304.1 < (↑(List.length y283) : Int)) then Option.bind (bif s304.2 then some true else Option.bind (idx y283 s304.1) fun (y305 : Ty.El zA) => bif y305.1.1 == y303.1.1 && (y305.1.2.1 == y303.1.2.1 && true) then Option.bind (idx y283 s304.1) fun (y306 : Ty.El zA) => bif (↑(List.length y306.2.2.2.2.2.2.2.2.2.2.2.1) : Int) == (1 : Int) then Option.bind (idx y283 s304.1) fun (y307 : Ty.El zA) => Option.bind (idx y307.2.2.2.2.2.2.2.2.2.2.2.1 (0 : Int)) fun (y308 : Ty.El qY) => Option.bind (idx y289 s290) fun (y309 : Ty.El zJ) => Option.bind (idx y294.2.2.1 y309.2.1) fun (y310 : Ty.El qA) => some (y308.1 == s288 && (y308.2.1 == y310.2.1 && true)) else some false else some false) fun (s311 : Bool) => some (Sum.inl (IntKind.wrap IntKind.i64 (s304.1 + (1 : Int)), s311)) else some (Sum.inr s304.2)) ((0 : Int), false)) fun (s312 : Bool) => bif !s312 == decide (y303.2.2.2.2.1 < (15 : Int)) then some (Sum.inr (Sum.inr (Sum.inr (Sum.inr (Sum.inr (Sum.inr (Sum.inr (Sum.inr (Sum.inr false))))))))) else some (Sum.inl ())) fun (s313 : Unit) => some (Sum.inl (IntKind.wrap IntKind.i64 (s298 + (1 : Int)))) else some (Sum.inr (Sum.inl ()))) (0 : Int)) fun (s314 : Unit) => some (Sum.inl (IntKind.wrap IntKind.i64 (s290 + (1 : Int)))) else some (Sum.inr (Sum.inl ()))) (0 : Int)) fun (s315 : Unit) => some (Sum.inl (IntKind.wrap IntKind.i64 (s288 + (1 : Int)))) else some (Sum.inr (Sum.inl ()))) (0 : Int)) fun (s316 : Unit) => some (Sum.inl (IntKind.wrap IntKind.i64 (s281 + (1 : Int)))) else some (Sum.inr (Sum.inl ()))) (0 : Int)) fun (s317 : Unit) => Option.bind (zL2 ()) fun (y318 : Bool) => some y318
end Go.Ve

namespace Go.Ve
open Go
def zVt {α : Type} (f : List V → Option (α × List V)) : List V → Option (List α)
 | [] => some []
 | e :: r => match f e.cells with
  | some (x, []) => match zVt f r with
   | some xs => some (x :: xs)
   | none => none
  | _ => none
def Ty.unc : (t : Ty) → List V → Option (t.El × List V)
 | .pair a b, cs => match a.unc cs with
  | some (x, r) => match b.unc r with
   | some (y, r) => some ((x, y), r)
   | none => none
  | none => none
 | .sl t, cs => match cs with
  | .sl es :: r => match zVt t.unc es with
   | some xs => some (xs, r)
   | none => none
  | cs => zGT t cs
 | .int k, cs => zDT k cs
 | .bool, cs => zB9 cs
 | .str, cs => zDS cs
 | .unit, cs => some ((), cs)
 | .rf, cs => zGU cs
theorem zQE {α : Type} {f : List V → Option (α × List V)} : ∀ {es : List V} {xs : List α}, zVt f es = some xs → es.length = xs.length ∧ ∀ (i : Nat) (x : α), xs[i]? = some x → ∃ e, es[i]? = some e ∧ f e.cells = some (x, [])
 | [], xs, h => by simp only [zVt, Option.some.injEq] at h; subst h; exact ⟨rfl, fun i x h => by simp at h⟩
 | e :: r, xs, h => by
  simp only [zVt] at h
  split at h
  ·rename_i x hx
   split at h
   ·rename_i xs' hxs
    simp only [Option.some.injEq] at h
    subst h
    obtain ⟨h1, h2⟩ := zQE hxs
    refine ⟨by simp [h1], fun i y hy => ?_⟩
    cases i with
    | zero => simp only [List.getElem?_cons_zero, Option.some.injEq] at hy; subst hy; exact ⟨e, rfl, hx⟩
    | succ i => exact h2 i y (by simpa using hy)
   ·cases h
  ·cases h
theorem zVT {t : Ty} {es : List V} {xs : List t.El} (hl : es.length = xs.length) (h : ∀ (i : Nat) (e : V) (x : t.El), es[i]? = some e → xs[i]? = some x → j7 e.cells (t.cells x)) : WkV (.sl es) (.tl t xs) := by
 intro w F v hr
 refine .tl t xs v ?_
 cases hr with
 | slemp a cap =>
  have : xs = [] := List.eq_nil_of_length_eq_zero hl.symm
  subst this
  exact .slemp a cap
 | sl b off cap k _ g hFb hcap hk hg hr =>
  have hel : es.length = (xs.map t.enc).length := by simpa using hl
  rw [hel] at hg hcap ⊢
  refine .sl b off cap k _ g hFb hcap ?_ hg ?_
  ·intro e he
   simp only [List.mem_map] at he
   obtain ⟨x, hx, rfl⟩ := he
   obtain ⟨j, hj⟩ := List.getElem?_of_mem hx
   have hjl : j < es.length := by rw [hl]; exact (List.getElem?_eq_some_iff.1 hj).1
   have h1 := (h j es[j] x (by simp [hjl]) hj).len
   rw [qL, ← h1]
   exact hk _ (List.getElem_mem hjl)
  ·intro i j e d hi hj
   simp only [List.getElem?_map, Option.map_eq_some_iff] at hi
   obtain ⟨x, hx, rfl⟩ := hi
   rw [qL] at hj
   have hil : i < es.length := by rw [hl]; exact (List.getElem?_eq_some_iff.1 hx).1
   have h1 := h i es[i] x (by simp [hil]) hx
   have hjl : j < (es[i]).cells.length := by rw [h1.len]; exact (List.getElem?_eq_some_iff.1 hj).1
   exact h1.get j _ d (List.getElem?_eq_getElem hjl) hj w F _ (hr i j es[i] _ (by simp [hil]) (List.getElem?_eq_getElem hjl))
theorem zNx : ∀ (t : Ty) (cs : List V) (x : t.El) (r : List V), t.unc cs = some (x, r) → ∃ cs1, cs = cs1 ++ r ∧ j7 cs1 (t.cells x) := by
 intro t
 induction t with
 | int k => exact fun cs x r h => q8 (.int k) cs x r h
 | bool => exact fun cs x r h => q8 .bool cs x r h
 | str => exact fun cs x r h => q8 .str cs x r h
 | unit => exact fun cs x r h => q8 .unit cs x r h
 | rf => exact fun cs x r h => q8 .rf cs x r h
 | pair a b iha ihb =>
  intro cs x r h
  simp only [Ty.unc] at h
  split at h
  ·rename_i xa r1 h1
   split at h
   ·rename_i xb r2 h2
    simp only [Option.some.injEq, Prod.mk.injEq] at h
    obtain ⟨rfl, rfl⟩ := h
    obtain ⟨c1, rfl, k1⟩ := iha cs xa r1 h1
    obtain ⟨c2, rfl, k2⟩ := ihb r1 xb r2 h2
    exact ⟨c1 ++ c2, by rw [List.append_assoc], k1.append k2⟩
   ·cases h
  ·cases h
 | sl t ih =>
  intro cs x r h
  simp only [Ty.unc] at h
  split at h
  ·rename_i es r'
   split at h
   ·rename_i xs hxs
    simp only [Option.some.injEq, Prod.mk.injEq] at h
    obtain ⟨rfl, rfl⟩ := h
    obtain ⟨h1, h2⟩ := zQE hxs
    refine ⟨[.sl es], rfl, zVT h1 ?_, trivial⟩
    intro i e y he hy
    obtain ⟨e', he', hf⟩ := h2 i y hy
    rw [he] at he'
    simp only [Option.some.injEq] at he'
    subst he'
    obtain ⟨c1, hc, hw⟩ := ih e.cells y [] hf
    rw [List.append_nil] at hc
    rw [hc]; exact hw
   ·cases h
  ·exact q8 (.sl t) _ x r h
def Ty.decW (t : Ty) (d : V) : Option t.El :=
 match t with
 | .pair a b => match d with
  | .agg cs => match (Ty.pair a b).unc cs with
   | some (x, []) => some x
   | _ => none
  | _ => none
 | .unit => none
 | .sl t => match (Ty.sl t).unc [d] with
  | some (x, []) => some x
  | _ => none
 | .int k => (Ty.int k).dec d
 | .bool => Ty.bool.dec d
 | .str => Ty.str.dec d
 | .rf => Ty.rf.dec d
theorem zR7 {t : Ty} {d : V} {x : t.El} (h : t.decW d = some x) : WkV d (t.enc x) := by
 cases t with
 | pair a b =>
  simp only [Ty.decW] at h
  split at h
  ·rename_i cs
   split at h
   ·rename_i x' hx
    simp only [Option.some.injEq] at h
    subst h
    obtain ⟨c1, h1, h2⟩ := zNx (.pair a b) cs x' [] hx
    simp only [List.append_nil] at h1
    subst h1
    exact WkV.agg h2
   ·cases h
  ·cases h
 | unit => simp [Ty.decW] at h
 | sl t =>
  simp only [Ty.decW] at h
  split at h
  ·rename_i x' hx
   simp only [Option.some.injEq] at h
   subst h
   obtain ⟨c1, h1, h2⟩ := zNx (.sl t) [d] x' [] hx
   rw [List.append_nil] at h1
   subst h1
   exact h2.1
  ·cases h
 | int k => exact w8 h
 | bool => exact w8 h
 | str => exact w8 h
 | rf => exact w8 h
def zEH : (ts : List Ty) → List V → Option (ElS ts)
 | [], [] => some ()
 | t :: ts, d :: ds => match t.decW d with
  | some x => match zEH ts ds with
   | some xs => some (x, xs)
   | none => none
  | none => none
 | _, _ => none
theorem zKk : ∀ (ts : List Ty) (ds : List V) (x : ElS ts), zEH ts ds = some x → j7 ds (vG ts x)
 | [], [], _, _ => trivial
 | [], _ :: _, _, h => by simp [zEH] at h
 | _ :: _, [], _, h => by simp [zEH] at h
 | t :: ts, d :: ds, x, h => by
  simp only [zEH] at h
  split at h
  ·rename_i y hy
   split at h
   ·rename_i ys hys
    simp only [Option.some.injEq] at h
    subst h
    exact ⟨zR7 hy, zKk ts ds ys hys⟩
   ·cases h
  ·cases h
theorem zNY {Γ : Sig} {P : Program} {G : Nat → Option (List V)} {f : FuncId} {ts : List Ty} {R : RTy} {g : ElS ts → Option R.El} (h : j8 Γ P G f (qH (jP ts R g))) : j8 Γ P G f (qH (wI (zEH ts) R g)) := by
 intro w F O s args ds s' r hsig hG hF hlen hrd hspec
 simp only [qH, wI] at hspec
 cases hx : zEH ts ds with
 | none => rw [hx] at hspec; cases hspec
 | some x =>
  rw [hx] at hspec
  have hwk := zKk ts ds x hx
  refine h w F O s args (vG ts x) s' r hsig hG hF (hlen.trans hwk.len) ?_ ?_
  ·intro i u d hu hd
   have hlt : i < ds.length := by rw [hwk.len]; exact (List.getElem?_eq_some_iff.1 hd).1
   exact hwk.get i ds[i] d (by simp [hlt]) hd w F u (hrd i u ds[i] hu (by simp [hlt]))
  ·simp only [qH, jP, wI, zCx]; exact hspec
end Go.Ve

namespace Go.Ve
open Go
def zQc {α : Type} (f : α → α → Bool) : List α → List α → Bool
 | [], [] => true
 | x :: xs, y :: ys => f x y && zQc f xs ys
 | _, _ => false
theorem zFv {α : Type} {f : α → α → Bool} (hf : ∀ x y, f x y = true → x = y) : ∀ {xs ys : List α}, zQc f xs ys = true → xs = ys
 | [], [], _ => rfl
 | x :: xs, y :: ys, h => by
  simp only [zQc, Bool.and_eq_true] at h
  rw [hf x y h.1, zFv hf h.2]
 | [], _ :: _, h => by cases h
 | _ :: _, [], h => by cases h
def Ty.eqb : (t : Ty) → t.El → t.El → Bool
 | .int _, a, b => decide (a = b)
 | .bool, a, b => match a, b with
  | true, true => true
  | false, false => true
  | _, _ => false
 | .str, a, b => zQc (fun (x y : UInt8) => Nat.beq x.toNat y.toNat) a.data.toList b.data.toList
 | .unit, _, _ => true
 | .pair s t, a, b => s.eqb a.1 b.1 && t.eqb a.2 b.2
 | .sl t, a, b => zQc t.eqb a b
 | .rf, _, _ => false
theorem zTM : ∀ (t : Ty) (a b : t.El), t.eqb a b = true → a = b := by
 intro t
 induction t with
 | int k => exact fun a b h => of_decide_eq_true h
 | bool =>
  intro a b h
  cases a <;> cases b <;> first | rfl | cases h
 | str =>
  intro a b h
  have h := zFv (fun (x y : UInt8) h => UInt8.toNat_inj.1 (Nat.eq_of_beq_eq_true h)) h
  cases a; cases b
  simp only at h
  rw [Array.toList_inj.1 h]
 | unit => exact fun _ _ _ => rfl
 | pair s t ihs iht =>
  intro a b h
  simp only [Ty.eqb, Bool.and_eq_true] at h
  exact Prod.ext (ihs _ _ h.1) (iht _ _ h.2)
 | sl t ih => exact fun a b h => zFv ih h
 | rf => exact fun _ _ h => by cases h
def eqS : (ts : List Ty) → ElS ts → ElS ts → Bool
 | [], _, _ => true
 | t :: ts, a, b => t.eqb a.1 b.1 && eqS ts a.2 b.2
theorem zN7 : ∀ (ts : List Ty) (a b : ElS ts), eqS ts a b = true → a = b
 | [], _, _, _ => rfl
 | t :: ts, a, b, h => by
  simp only [eqS, Bool.and_eq_true] at h
  exact Prod.ext (zTM t _ _ h.1) (zN7 ts _ _ h.2)
def atP (ts : List Ty) {α : Type} (x0 : ElS ts) (y0 : α) (f : ElS ts → Option α) : ElS ts → Option α := fun x => bif eqS ts x x0 then some y0 else f x
def noF {X α : Type} : X → Option α := fun _ => none
theorem zSN {Γ : Sig} {P : Program} {G : Nat → Option (List V)} {f : FuncId} {ts : List Ty} {R : RTy} {g h : ElS ts → Option R.El} (hg : j8 Γ P G f (qH (jP ts R g))) (hh : ∀ x y, h x = some y → g x = some y) :
  j8 Γ P G f (qH (wI (zEH ts) R h)) := by
 refine zQm (zNY hg) ?_
 intro s ds r hr
 simp only [qH, wI] at hr ⊢
 cases hx : zEH ts ds with
 | none => rw [hx] at hr; cases hr
 | some x =>
  rw [hx] at hr
  simp only [Option.map_eq_some_iff] at hr ⊢
  obtain ⟨y, hy, e⟩ := hr
  exact ⟨y, hh x y hy, e⟩
theorem zQU {ts : List Ty} {α : Type} {x0 : ElS ts} {y0 : α} {f g : ElS ts → Option α} (h0 : g x0 = some y0) (hf : ∀ x y, f x = some y → g x = some y) : ∀ x y, atP ts x0 y0 f x = some y → g x = some y := by
 intro x y h
 unfold atP at h
 cases he : eqS ts x x0 with
 | false => rw [he] at h; exact hf x y h
 | true =>
  rw [he] at h
  rw [zN7 ts x x0 he, h0]
  exact h
theorem zSX {X α : Type} {g : X → Option α} : ∀ x y, noF (X := X) (α := α) x = some y → g x = some y := fun _ _ h => by cases h
end Go.Ve

namespace Go.Ve
open Go
def zKn (t : Ty) (ds : List V) : Option (t.El × List t.El) :=
 match zCL [.sl t] ds with
 | some (y :: r, _) => some (y, r)
 | _ => none
theorem zKm {t : Ty} {ds : List V} {q : t.El × List t.El} (h : zKn t ds = some q) : j7 ds [.tl t (q.1 :: q.2)] := by
 unfold zKn at h
 split at h
 ·rename_i y r u hd
  simp only [Option.some.injEq] at h
  subst h
  exact vC [.sl t] ds (y :: r, u) hd
 ·cases h
open Classical in
noncomputable def zEI (v : Value) (ds : List V) : Option Unit := if ds = [.val v] then some () else none
theorem zC5 {v : Value} {ds : List V} {q : Unit} (h : zEI v ds = some q) : j7 ds [.val v] := by
 unfold zEI at h
 split at h
 ·rename_i hd
  subst hd
  exact ⟨.refl _, trivial⟩
 ·cases h
theorem zPS {w : World} {F : Blk → Prop} {v : Value} {t : Ty} (h : Rd w F v (.tl t [])) : ∃ a c, v = .slice a 0 c := by
 have h2 := Rd.untl h
 simp only [List.map_nil] at h2
 generalize hd : V.sl [] = d at h2
 cases h2 with
 | slemp a c => exact ⟨a, c, rfl⟩
 | sl b off cap k es g hF hcap hk hg hr =>
  simp only [V.sl.injEq] at hd
  subst hd
  exact ⟨_, _, rfl⟩
 | _ => cases hd
theorem zRN {P : Program} {G : Nat → Option (List V)} {f : FuncId} {t : Ty} {bytes : Nat}
  (h1 : j8 jB P G f (qH (wI (zKn t) (.p (.sl t)) (fun q => Option.bind (app bytes [] (q.1 :: q.2)) fun z => some z))))
  (h2 : ∀ c, j8 jB P G f (qH (wI (zEI (.slice none 0 c)) (.p (.sl t)) (fun _ => some []))))
  (h3 : ∀ a c, j8 jB P G f (qH (wI (zEI (.slice (some a) 0 c)) (.p (.sl t)) (fun _ => some [])))) :
  j8 jB P G f (qH (jP [.sl t] (.p (.sl t)) (fun x => Option.bind (app bytes [] x.1) fun z => some z))) := by
 intro w F O s args ds s' r hsig hG hF hlen hrd hspec
 simp only [qH, jP, wI] at hspec
 cases hx : zCL [.sl t] ds with
 | none => rw [hx] at hspec; cases hspec
 | some x =>
  rw [hx] at hspec
  have hwk := vC [.sl t] ds x hx
  have hdl : ds.length = 1 := hwk.len
  have hal : args.size = 1 := hlen.trans hdl
  obtain ⟨xs, u⟩ := x
  have hv : Rd w F args[0] (.tl t xs) := hwk.get 0 (ds[0]'(by omega)) (.tl t xs) (by simp) rfl w F _ (hrd 0 _ _ (by simp) (by simp))
  cases xs with
  | cons y r0 =>
   refine h1 w F O s args [.tl t (y :: r0)] s' r hsig hG hF (by simpa using hal) ?_ ?_
   ·intro i v d hi hd
    match i with
    | 0 =>
     simp at hd
     subst hd
     have : v = args[0] := by
      rw [Array.getElem?_eq_getElem (by omega)] at hi
      exact (Option.some.inj hi).symm
     rw [this]; exact hv
    | i + 1 => simp at hd
   ·have hde : zKn t [.tl t (y :: r0)] = some (y, r0) := by
     unfold zKn
     rw [show zCL [.sl t] [.tl t (y :: r0)] = some (y :: r0, ()) from zCx [.sl t] (y :: r0, ())]
    simp only [qH, wI, hde]
    exact hspec
  | nil =>
   obtain ⟨a, c, ha⟩ := zPS hv
   have hres : some (s', r) = some (s, (RTy.p (.sl t)).res []) := by
    have : (app bytes ([] : List t.El) []) = some [] ∨ app bytes ([] : List t.El) [] = none := by
     unfold app; split
     ·exact .inl rfl
     ·exact .inr rfl
    rcases this with h | h
    ·simp only [h, Option.bind_some, Option.map_some] at hspec
     exact hspec.symm
    ·simp only [h, Option.bind_none, Option.map_none] at hspec
     cases hspec
   simp only [Option.some.injEq, Prod.mk.injEq] at hres
   obtain ⟨rfl, rfl⟩ := hres
   have go : ∀ v, args[0] = v → j8 jB P G f (qH (wI (zEI v) (.p (.sl t)) (fun _ => some []))) → Calls P f args w fun e w' => ∃ (v : Value) (F' : Blk → Prop) (O' : Nat → Prop), e = .returned v ∧ jB.R s' F' O' w' ∧ zB0 O w w' ∧
     (∀ b, O' b → O b ∨ w.heap.size ≤ b) ∧ (∀ b, F b → F' b) ∧ (∀ b : Nat, F' b → (F b ∨ w.heap.size ≤ b) ∧ b < w'.heap.size ∧ ¬ O' b) ∧ uZ w.heap.size w' F' O' v ((RTy.p (.sl t)).res []) := by
    intro v hv0 h
    refine h w F O s' args [.val v] s' _ hsig hG hF (by simpa using hal) ?_ ?_
    ·intro i u d hi hd
     match i with
     | 0 =>
      simp at hd
      subst hd
      have : u = args[0] := by
       rw [Array.getElem?_eq_getElem (by omega)] at hi
       exact (Option.some.inj hi).symm
      rw [this, hv0]; exact .val _
     | i + 1 => simp at hd
    ·have hde : zEI v [.val v] = some () := by unfold zEI; rw [if_pos rfl]
     simp only [qH, wI, hde]
     rfl
   cases a with
   | none => exact go _ ha (h2 c)
   | some a => exact go _ ha (h3 a c)
theorem zQo {P : Program} {G : Nat → Option (List V)} {f : FuncId} {t : Ty} {bytes : Nat}
  (h1 : j8 jB P G f (qH (wI (zKn t) (.o t) (fun q => Option.bind (app bytes [] (q.1 :: q.2)) fun z => some z))))
  (h2 : ∀ c, j8 jB P G f (qH (wI (zEI (.slice none 0 c)) (.o t) (fun _ => some []))))
  (h3 : ∀ a c, j8 jB P G f (qH (wI (zEI (.slice (some a) 0 c)) (.o t) (fun _ => some [])))) :
  j8 jB P G f (qH (jP [.sl t] (.o t) (fun x => Option.bind (app bytes [] x.1) fun z => some z))) := by
 intro w F O s args ds s' r hsig hG hF hlen hrd hspec
 simp only [qH, jP, wI] at hspec
 cases hx : zCL [.sl t] ds with
 | none => rw [hx] at hspec; cases hspec
 | some x =>
  rw [hx] at hspec
  have hwk := vC [.sl t] ds x hx
  have hdl : ds.length = 1 := hwk.len
  have hal : args.size = 1 := hlen.trans hdl
  obtain ⟨xs, u⟩ := x
  have hv : Rd w F args[0] (.tl t xs) := hwk.get 0 (ds[0]'(by omega)) (.tl t xs) (by simp) rfl w F _ (hrd 0 _ _ (by simp) (by simp))
  cases xs with
  | cons y r0 =>
   refine h1 w F O s args [.tl t (y :: r0)] s' r hsig hG hF (by simpa using hal) ?_ ?_
   ·intro i v d hi hd
    match i with
    | 0 =>
     simp at hd
     subst hd
     have : v = args[0] := by
      rw [Array.getElem?_eq_getElem (by omega)] at hi
      exact (Option.some.inj hi).symm
     rw [this]; exact hv
    | i + 1 => simp at hd
   ·have hde : zKn t [.tl t (y :: r0)] = some (y, r0) := by
     unfold zKn
     rw [show zCL [.sl t] [.tl t (y :: r0)] = some (y :: r0, ()) from zCx [.sl t] (y :: r0, ())]
    simp only [qH, wI, hde]
    exact hspec
  | nil =>
   obtain ⟨a, c, ha⟩ := zPS hv
   have hres : some (s', r) = some (s, (RTy.o t).res []) := by
    have : (app bytes ([] : List t.El) []) = some [] ∨ app bytes ([] : List t.El) [] = none := by
     unfold app; split
     ·exact .inl rfl
     ·exact .inr rfl
    rcases this with h | h
    ·simp only [h, Option.bind_some, Option.map_some] at hspec
     exact hspec.symm
    ·simp only [h, Option.bind_none, Option.map_none] at hspec
     cases hspec
   simp only [Option.some.injEq, Prod.mk.injEq] at hres
   obtain ⟨rfl, rfl⟩ := hres
   have go : ∀ v, args[0] = v → j8 jB P G f (qH (wI (zEI v) (.o t) (fun _ => some []))) → Calls P f args w fun e w' => ∃ (v : Value) (F' : Blk → Prop) (O' : Nat → Prop), e = .returned v ∧ jB.R s' F' O' w' ∧ zB0 O w w' ∧
     (∀ b, O' b → O b ∨ w.heap.size ≤ b) ∧ (∀ b, F b → F' b) ∧ (∀ b : Nat, F' b → (F b ∨ w.heap.size ≤ b) ∧ b < w'.heap.size ∧ ¬ O' b) ∧ uZ w.heap.size w' F' O' v ((RTy.o t).res []) := by
    intro v hv0 h
    refine h w F O s' args [.val v] s' _ hsig hG hF (by simpa using hal) ?_ ?_
    ·intro i u d hi hd
     match i with
     | 0 =>
      simp at hd
      subst hd
      have : u = args[0] := by
       rw [Array.getElem?_eq_getElem (by omega)] at hi
       exact (Option.some.inj hi).symm
      rw [this, hv0]; exact .val _
     | i + 1 => simp at hd
    ·have hde : zEI v [.val v] = some () := by unfold zEI; rw [if_pos rfl]
     simp only [qH, wI, hde]
     rfl
   cases a with
   | none => exact go _ ha (h2 c)
   | some a => exact go _ ha (h3 a c)
theorem zWD {P : Program} {G : Nat → Option (List V)} {f : FuncId} {t : Ty} {ds : List V} (hnb : zCl ds = none) (h : ∀ a : Option Addr, ∃ S, j8 jB P G f S ∧ S () (.val (.slice a 0 0) :: ds) = some ((), .p (.tup []))) :
  zA6 jB P G f () t [] ds () [] (.tup []) := by
 refine zA6.of hnb ?_
 intro w F O b v0 args hR hG hF hown _ hsz ha0 hrest
 have hv : ∃ a, v0 = .slice a 0 0 := by
  rcases hown with ⟨_, h⟩ | ⟨h, _⟩
  ·exact h
  ·exact absurd rfl h
 obtain ⟨a, rfl⟩ := hv
 obtain ⟨S, hS, hs⟩ := h a
 have hcall := hS w F O () args (.val (.slice a 0 0) :: ds) () (.p (.tup [])) hR hG hF (by simpa using hsz) (by
  intro i v d hi hd
  match i with
  | 0 =>
   simp at hd
   subst hd
   rw [ha0] at hi
   cases hi
   exact .val _
  | i + 1 => exact hrest i v d hi (by simpa using hd)) hs
 refine hcall.mono ?_
 rintro e w' ⟨v, F', O', rfl, h1, h2, h3, h4, h5, h6⟩
 exact ⟨v, F', O', rfl, h1, ⟨h2.os, h2.tape, h2.output, h2.size, fun c hc ho => h2.block c hc (fun hh => ho (.inl hh)), h2.drawn⟩, h3, h4, h5, zEu.of (.inl ⟨rfl, a, rfl⟩) h6⟩
end Go.Ve

namespace Go.Ve
open Go
set_option maxRecDepth 1000000
set_option maxHeartbeats 4000000
def zCk (x : Ty.El zA) : Int × Int × Int × Int × Int × Int × Int :=
 bif x.2.1 == (3 : Int) then (x.2.2.1, x.2.2.2.2.1, x.2.2.2.2.2.1, x.2.2.2.2.2.2.1, (0 : Int), (0 : Int), (0 : Int))
 else bif x.2.1 == (4 : Int) then (x.2.2.2.2.1, x.2.2.1, x.2.2.2.2.2.2.1, (0 : Int), (0 : Int), (0 : Int), (0 : Int))
 else bif x.2.1 == (5 : Int) then (if (3 : Int) < x.2.2.1 then (3 : Int) else x.2.2.1, IntKind.wrap IntKind.i64 ((1000000 : Int) - x.2.2.2.2.2.2.2.1), (x.2.2.2.2.2.2.2.2.1.length : Int), x.2.2.2.2.1, x.2.2.1, IntKind.wrap IntKind.i64 x.2.2.2.2.2.2.2.2.2.1, (0 : Int))
 else (x.2.2.2.1, (0 : Int), (0 : Int), (0 : Int), (0 : Int), (0 : Int), (0 : Int))
def zTT : List (Int × Int) → Int
 | [] => 0
 | (a, b) :: r => if a < b then -1 else if b < a then 1 else zTT r
def zA1 (x y : Ty.El zA) : Int :=
 zTT [((zCk x).1, (zCk y).1), ((zCk x).2.1, (zCk y).2.1), ((zCk x).2.2.1, (zCk y).2.2.1), ((zCk x).2.2.2.1, (zCk y).2.2.2.1), ((zCk x).2.2.2.2.1, (zCk y).2.2.2.2.1), ((zCk x).2.2.2.2.2.1, (zCk y).2.2.2.2.2.1), ((zCk x).2.2.2.2.2.2, (zCk y).2.2.2.2.2.2)]
section
variable {α : Type} {lt eq : α → α → Bool}
def zEY (lt eq : α → α → Bool) (h : α) : List α → List α
 | [] => [h]
 | x :: r => bif lt x h then x :: zEY lt eq h r else bif eq x h then x :: r else h :: x :: r
theorem zIx (heq : ∀ x y, eq x y = true ↔ x = y) {h z : α} : ∀ {l : List α}, z ∈ zEY lt eq h l ↔ z ∈ l ∨ z = h
 | [] => by simp [zEY]
 | x :: r => by
  simp only [zEY]
  cases lt x h with
  | true => simp only [cond_true, List.mem_cons, zIx heq (l := r)]; exact or_assoc.symm
  | false =>
   simp only [cond_false]
   cases he : eq x h with
   | true =>
    have := (heq x h).1 he
    subst this
    simp only [cond_true, List.mem_cons]
    exact ⟨fun h => .inl h, fun h => h.elim id .inl⟩
   | false => simp only [cond_false, List.mem_cons]; exact ⟨fun h => h.elim .inr .inl, fun h => h.elim .inr .inl⟩
theorem zFy {R : α → α → Prop} (ho : Ord R) (hlt : ∀ x y, lt x y = true ↔ R x y) (heq : ∀ x y, eq x y = true ↔ x = y) (htot : ∀ x y, ¬ R x y → x ≠ y → R y x) {h : α} : ∀ {l : List α}, l.Pairwise R → (zEY lt eq h l).Pairwise R
 | [], _ => by simp [zEY]
 | x :: r, hp => by
  rw [List.pairwise_cons] at hp
  simp only [zEY]
  cases hx : lt x h with
  | true =>
   simp only [cond_true]
   rw [List.pairwise_cons]
   refine ⟨fun z hz => ?_, zFy ho hlt heq htot hp.2⟩
   rcases (zIx heq).1 hz with hz | rfl
   ·exact hp.1 z hz
   ·exact (hlt _ _).1 hx
  | false =>
   simp only [cond_false]
   have hn : ¬ R x h := fun hh => by rw [(hlt _ _).2 hh] at hx; cases hx
   cases he : eq x h with
   | true => simp only [cond_true]; rw [List.pairwise_cons]; exact hp
   | false =>
    simp only [cond_false]
    have hne : x ≠ h := fun e => by rw [(heq _ _).2 e] at he; cases he
    have hr := htot _ _ hn hne
    have tr : ∀ z, R x z → R h z := by
     intro z hz
     exact Classical.byContradiction (fun hnz => ho.tr x z h (ho.asym _ _ hz) hnz hr)
    rw [List.pairwise_cons, List.pairwise_cons]
    refine ⟨fun z hz => ?_, hp⟩
    rcases List.mem_cons.1 hz with rfl | hz
    ·exact hr
    ·exact tr z (hp.1 z hz)
end
end Go.Ve

namespace Go.Ve
open Go
set_option maxRecDepth 1000000
set_option maxHeartbeats 4000000
theorem zUj {α : Type} {xs : List α} {k : Nat} (h : k ≤ xs.length) : sub xs (k : Int) (xs.length : Int) = some (xs.drop k) := by
 unfold sub
 rw [if_pos (by omega), Int.toNat_natCast, Int.toNat_natCast, List.take_length]
def zM4 (p q : Ty.El zG) : Bool := decide (zWA p q < 0)
theorem zUN {p q : Ty.El zG} : zM4 p q = true ↔ plt p q := by
 unfold zM4; rw [decide_eq_true_eq]; exact zIW
theorem zQi {α : Type} {lt eq : α → α → Bool} {h : α} : ∀ {l : List α}, (zEY lt eq h l).length ≤ l.length + 1
 | [] => by simp [zEY]
 | x :: r => by
  have := zQi (lt := lt) (eq := eq) (h := h) (l := r)
  simp only [zEY]
  cases lt x h <;> cases eq x h <;> simp <;> omega
def zPW (l : List (Ty.El zA)) : List (Ty.El zG) := l.foldl (fun acc x => zEY zM4 zG7 x.1 acc) []
theorem zIc : ∀ (l : List (Ty.El zA)) (acc : List (Ty.El zG)), (l.foldl (fun acc x => zEY zM4 zG7 x.1 acc) acc).length ≤ acc.length + l.length
 | [], acc => by simp
 | x :: l, acc => by
  have h1 := zIc l (zEY zM4 zG7 x.1 acc)
  have h2 := zQi (lt := zM4) (eq := zG7) (h := x.1) (l := acc)
  simp only [List.foldl_cons, List.length_cons]
  omega
theorem zUM (l : List (Ty.El zA)) : (zPW l).length ≤ l.length := by
 have := zIc l []
 simpa [zPW] using this
theorem zLI : ∀ (l : List (Ty.El zA)) (acc : List (Ty.El zG)), acc.Pairwise plt →
  (l.foldl (fun acc x => zEY zM4 zG7 x.1 acc) acc).Pairwise plt ∧ ∀ p, p ∈ l.foldl (fun acc x => zEY zM4 zG7 x.1 acc) acc ↔ p ∈ acc ∨ ∃ x, x ∈ l ∧ x.1 = p
 | [], acc, h => ⟨h, fun p => by simp⟩
 | x :: l, acc, h => by
  have h2 := zLI l (zEY zM4 zG7 x.1 acc) (zFy zFX (fun _ _ => zUN) (fun _ _ => zCm) (fun p q h1 h2 => zOE h1 (fun e => h2 e.symm)) h)
  refine ⟨h2.1, fun p => ?_⟩
  rw [List.foldl_cons, h2.2 p, zIx (fun _ _ => zCm)]
  constructor
  ·rintro ((h | rfl) | ⟨y, hy, rfl⟩)
   ·exact .inl h
   ·exact .inr ⟨x, by simp, rfl⟩
   ·exact .inr ⟨y, by simp [hy], rfl⟩
  ·rintro (h | ⟨y, hy, rfl⟩)
   ·exact .inl (.inl h)
   ·rcases List.mem_cons.1 hy with rfl | hy
    ·exact .inl (.inr rfl)
    ·exact .inr ⟨y, hy, rfl⟩
theorem zFp (l : List (Ty.El zA)) : (zPW l).Pairwise plt := (zLI l [] List.Pairwise.nil).1
theorem zIb (l : List (Ty.El zA)) (p : Ty.El zG) : p ∈ zPW l ↔ ∃ x, x ∈ l ∧ x.1 = p := by
 have := (zLI l [] List.Pairwise.nil).2 p
 rw [show zPW l = l.foldl (fun acc x => zEY zM4 zG7 x.1 acc) [] from rfl, this]
 simp
def hlt (a b : Ty.El qY) : Prop := zCn a.1 a.2.1 b.1 b.2.1
theorem zIA : Ord hlt where
 asym := fun x y h => by unfold hlt zCn at *; omega
 tr := fun x y z h1 h2 => by unfold hlt zCn at *; omega
theorem zU2 {p q : Ty.El qY} (h : ¬ hlt q p) (hne : p ≠ q) : hlt p q := by
 refine zSH h (fun e => hne ?_)
 obtain ⟨a, b, ⟨⟩⟩ := p
 obtain ⟨c, d, ⟨⟩⟩ := q
 obtain ⟨rfl, rfl⟩ := e
 rfl
def zXn (a b : Ty.El qY) : Bool := decide (zIX a.1 a.2.1 b.1 b.2.1 < 0)
theorem zU3 {a b : Ty.El qY} : zXn a b = true ↔ hlt a b := by
 unfold zXn; rw [decide_eq_true_eq]; exact zO9
def zNg (a b : Ty.El qY) : Bool := a.1 == b.1 && (a.2.1 == b.2.1 && true)
def zEt (l : List (Ty.El qY)) (h : Ty.El qY) : List (Ty.El qY) := zEY zXn zNg h l
end Go.Ve

namespace Go.Ve
open Go
set_option maxRecDepth 1000000
set_option maxHeartbeats 4000000
def zSf (x : Ty.El zA) (b : Option (Ty.El zA)) : Bool :=
 match b with
 | none => true
 | some y => decide (zA1 x y < 0)
def zKp (p : Ty.El zG) (b : Option (Ty.El zA)) (x : Ty.El zA) : Option (Ty.El zA) :=
 bif zG7 x.1 p && zSf x b then some x else b
def zCB (l : List (Ty.El zA)) (p : Ty.El zG) : Option (Ty.El zA) := l.foldl (zKp p) none
def yM (p : Ty.El zG) (b : Ty.El zA) (hs : List (Ty.El qY)) (x : Ty.El zA) : List (Ty.El qY) :=
 bif zG7 x.1 p && (zA1 x b == 0) then x.2.2.2.2.2.2.2.2.2.2.2.1.foldl zEt hs else hs
def zDe (l : List (Ty.El zA)) (p : Ty.El zG) (b : Ty.El zA) : List (Ty.El qY) := l.foldl (yM p b) []
def zV1 (b : Ty.El zA) (hs : List (Ty.El qY)) : Ty.El zA :=
 ((b.1.1, b.1.2.1, ()), b.2.1, b.2.2.1, b.2.2.2.1, b.2.2.2.2.1, b.2.2.2.2.2.1, b.2.2.2.2.2.2.1, b.2.2.2.2.2.2.2.1, b.2.2.2.2.2.2.2.2.1, b.2.2.2.2.2.2.2.2.2.1, b.2.2.2.2.2.2.2.2.2.2.1, hs, b.2.2.2.2.2.2.2.2.2.2.2.2.1, ())
def mrg (l : List (Ty.El zA)) (p : Ty.El zG) : Option (Ty.El zA) := (zCB l p).map (fun b => zV1 b (zDe l p b))
def zAi (l : List (Ty.El zA)) : List (Ty.El zA) := (zPW l).filterMap (mrg l)
end Go.Ve

namespace Go.Ve
open Go
set_option maxRecDepth 1000000
set_option maxHeartbeats 4000000
theorem zQT {p : Ty.El zG} {b : Ty.El zA} : ∀ (l : List (Ty.El zA)) (c : Option (Ty.El zA)), l.foldl (zKp p) c = some b → c = some b ∨ (b ∈ l ∧ b.1 = p)
 | [], c, h => .inl h
 | x :: l, c, h => by
  rw [List.foldl_cons] at h
  rcases zQT l _ h with h | ⟨h1, h2⟩
  ·unfold zKp at h
   cases hc : zG7 x.1 p && zSf x c with
   | true =>
    rw [hc, cond_true] at h
    cases h
    simp only [Bool.and_eq_true] at hc
    exact .inr ⟨by simp, zCm.1 hc.1⟩
   | false => rw [hc, cond_false] at h; exact .inl h
  ·exact .inr ⟨List.mem_cons_of_mem _ h1, h2⟩
theorem zVC {l : List (Ty.El zA)} {p : Ty.El zG} {b : Ty.El zA} (h : zCB l p = some b) : b ∈ l ∧ b.1 = p := by
 rcases zQT l none h with h | h
 ·cases h
 ·exact h
theorem zLc {l : List (Ty.El zA)} {p : Ty.El zG} {z : Ty.El zA} (h : mrg l p = some z) : z.1 = p := by
 unfold mrg at h
 cases hb : zCB l p with
 | none => rw [hb] at h; cases h
 | some b => rw [hb] at h; cases h; exact (zVC hb).2
theorem zGC (l : List (Ty.El zA)) : (zAi l).Pairwise rlt := by
 unfold zAi
 refine List.Pairwise.filterMap _ ?_ (zFp l)
 intro p q hpq y hy z hz
 unfold rlt
 rw [zLc hy, zLc hz]
 exact hpq
end Go.Ve

namespace Go.Ve
open Go
set_option maxHeartbeats 4000000
section
variable {α : Type}
def swF (a b n : Nat) (xs : List α) (k : Nat) : Option α :=
 if a ≤ k ∧ k < a + n then xs[b + (k - a)]? else if b ≤ k ∧ k < b + n then xs[a + (k - b)]? else xs[k]?
def uD (lo m hi : Nat) (xs : List α) (k : Nat) : Option α :=
 if lo ≤ k ∧ k < lo + (hi - m) then xs[k + (m - lo)]? else if lo + (hi - m) ≤ k ∧ k < hi then xs[k - (hi - m)]? else xs[k]?
theorem zUh {a b : Nat} {xs : List α} {k : Nat} : swF a b 0 xs k = xs[k]? := by
 unfold swF
 rw [if_neg (by omega), if_neg (by omega)]
theorem zUi {a b n : Nat} {xs zs : List α} (hab : a + n < b) (hb : b + n < xs.length) (hl : zs.length = xs.length) (h : ∀ k, zs[k]? = swF a b n xs k) {x y : α} (hx : zs[a + n]? = some x) (hy : zs[b + n]? = some y) :
  ∀ k, ((zs.set (a + n) y).set (b + n) x)[k]? = swF a b (n + 1) xs k := by
 intro k
 have h1 := h (a + n)
 have h2 := h (b + n)
 unfold swF at h1 h2
 rw [if_neg (by omega), if_neg (by omega), hx] at h1
 rw [if_neg (by omega), if_neg (by omega), hy] at h2
 unfold swF
 by_cases e1 : k = b + n
 ·subst e1
  rw [List.getElem?_set_self (by rw [List.length_set]; omega), if_neg (by omega), if_pos (by omega), h1]
  congr 1; omega
 ·rw [List.getElem?_set_ne (by omega)]
  by_cases e2 : k = a + n
  ·subst e2
   rw [List.getElem?_set_self (by omega), if_pos (by omega), h2]
   congr 1; omega
  ·rw [List.getElem?_set_ne (by omega), h k]
   unfold swF
   by_cases c1 : a ≤ k ∧ k < a + n
   ·rw [if_pos c1, if_pos (by omega)]
   ·rw [if_neg c1]
    by_cases c2 : b ≤ k ∧ k < b + n
    ·rw [if_pos c2, if_neg (by omega), if_pos (by omega)]
    ·rw [if_neg c2, if_neg (by omega), if_neg (by omega)]
theorem xR {xs : List α} {i j : Nat} (h : i = j) : xs[i]? = xs[j]? := by rw [h]
theorem zUx {lo m hi : Nat} {xs zs : List α} (h1 : lo < m) (h2 : m < hi) (hij : hi - m < m - lo) (h : ∀ k, zs[k]? = swF lo m (hi - m) xs k) (k : Nat) : uD (lo + (hi - m)) m hi zs k = uD lo m hi xs k := by
 unfold uD
 rw [h, h, h]
 unfold swF
 repeat' split
 all_goals first
  | rfl
  | exact xR (by omega)
  | (exfalso; omega)
theorem zTg {lo m hi : Nat} {xs zs : List α} (h1 : lo < m) (h2 : m < hi) (hij : m - lo < hi - m) (h : ∀ k, zs[k]? = swF lo (hi - (m - lo)) (m - lo) xs k) (k : Nat) : uD lo m (hi - (m - lo)) zs k = uD lo m hi xs k := by
 unfold uD
 rw [h, h, h]
 unfold swF
 repeat' split
 all_goals first
  | rfl
  | exact xR (by omega)
  | (exfalso; omega)
theorem zUy {lo m hi : Nat} {xs zs : List α} (h1 : lo ≤ m) (h2 : m ≤ hi) (hij : m - lo = hi - m) (h : ∀ k, zs[k]? = swF lo m (m - lo) xs k) (k : Nat) : zs[k]? = uD lo m hi xs k := by
 rw [h]
 unfold uD swF
 repeat' split
 all_goals first
  | rfl
  | exact xR (by omega)
  | (exfalso; omega)
end
end Go.Ve
