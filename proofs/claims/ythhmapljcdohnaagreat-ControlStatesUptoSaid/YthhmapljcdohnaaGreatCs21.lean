/-
  ControlStates: the law answers true.
-/
import Derived.Test.YthhmapljcdohnaaGreatCs17
import Derived.Test.YthhmapljcdohnaaGreatCs13
import Derived.Test.YthhmapljcdohnaaGreatCs18
set_option linter.unusedVariables false
set_option linter.unusedSimpArgs false
namespace Go.Ve
open Go
set_option maxRecDepth 1000000
set_option maxHeartbeats 4000000

noncomputable def vB (x : Ty.El tRoute) : Bool := (ref15_Valid (x, ())).getD false
theorem vD_eq (x : Ty.El tRoute) (hx : RtB x) : ref15_Valid (x, ()) = some (vB x) := by
  have h : ∃ b, ref15_Valid (x, ()) = some b := by
    obtain ⟨pf, pr, cl, ad, me, inn, tg, prf, path, fr, nx, hops, dc, ⟨⟩⟩ := x
    exact ⟨_, d_Valid _ _ _ _ _ _ _ _ _ _ _ _ _ hx⟩
  obtain ⟨b, h⟩ := h
  rw [vB, h]; rfl
theorem vP_eq (x : Ty.El tRoute) (hx : RtB x) : route_Valid (x, ()) = some (vB x) := (valid_eq x hx).trans (vD_eq x hx)

/-- A loop that stops at the first bad one. -/
theorem loop_bad {α : Type} {l : List α} {body : Int → Option (Int ⊕ (Unit ⊕ Bool))} (hl : l.length < 4611686018427387904) (bad : Nat → α → Bool)
    (hb : ∀ (i : Nat) x, l[i]? = some x → body (i : Int) = some (bif bad i x then Sum.inr (Sum.inr false) else Sum.inl (IntKind.wrap IntKind.i64 ((i : Int) + 1)))) :
    cut2 (loopX (fun s : Int => bif decide (s < (l.length : Int)) then body s else some (Sum.inr (Sum.inl ()))) (0 : Int)) (fun _ => some true) = some (dec (∀ (i : Nat) x, l[i]? = some x → bad i x = false)) := by
  refine wp_val ?_
  refine wp_find hl (fun i => ∀ j x, j < i → l[j]? = some x → bad j x = false) (fun j x hj => by omega) ?_ (fun h => wp_some ?_)
  · intro i x hx hj
    refine wp_eq (hb i x hx) ?_
    cases hbd : bad i x with
    | true =>
      refine e2r (e2r ?_)
      rw [show dec (∀ (i : Nat) x, l[i]? = some x → bad i x = false) = false from by
        have : ¬ ∀ (i : Nat) x, l[i]? = some x → bad i x = false := fun h => by rw [h i x hx] at hbd; cases hbd
        simpa [dec] using this]
    | false =>
      refine e2l ⟨rfl, fun j y hjy hy => ?_⟩
      rcases Nat.lt_or_ge j i with h' | h'
      · exact hj j y h' hy
      · obtain rfl : j = i := by omega
        rw [hx] at hy; cases hy; exact hbd
  · exact (dec_iff.2 (fun i x hx => h i x (List.getElem?_eq_some_iff.1 hx).1 hx)).symm

def badT (l : List (Ty.El tRoute)) (v : Ty.El tRoute → Bool) (p : Int) (i : Nat) (x : Ty.El tRoute) : Bool :=
  !v x || ((p != 0 && x.2.1 != p) || (decide (0 < i) && decide (cmpP (l.getD (i - 1) x).1 x.1 ≥ 0)))
noncomputable def tB (l : List (Ty.El tRoute)) (p : Int) : Bool := dec (∀ (i : Nat) x, l[i]? = some x → badT l vB p i x = false)

theorem prevR {l : List (Ty.El tRoute)} {i : Nat} {x : Ty.El tRoute} (hx : l[i]? = some x) (hi : 0 < i) (hl : l.length < 4611686018427387904) : idx l (IntKind.wrap IntKind.i64 ((i : Int) - 1)) = some (l.getD (i - 1) x) := by
  have h := (List.getElem?_eq_some_iff.1 hx).1
  rw [wrap_i64 (by omega) (by omega), show ((i : Int) - 1) = ((i - 1 : Nat) : Int) by omega]
  refine idx_nat ?_
  rw [List.getD_eq_getElem?_getD, List.getElem?_eq_getElem (by omega)]
  rfl

theorem tP_eq (l : List (Ty.El tRoute)) (p : Int) (hl : LtB l) : route_Table (l, p, ()) = some (tB l p) := by
  unfold route_Table
  refine loop_bad hl.1 (badT l vB p) (fun i x hx => ?_)
  simp only [idx_nat hx, Option.bind_some]
  refine wp_val (wp_bind (wp_bind (wp_eq (vP_eq x (hl.2 x (List.mem_of_getElem? hx))) ?_)))
  unfold badT
  have last : ∀ c : Bool, c = false → Wp (Option.bind (bif decide ((i : Int) > (0 : Int)) then
                      Option.bind (idx l (IntKind.wrap IntKind.i64 ((i : Int) - (1 : Int)))) fun (y23 : Ty.El tRoute) =>
                        Option.bind (addr_Compare (y23.fst, x.fst, ())) fun (y24 : Int) => some (decide (y24 ≥ (0 : Int)))
                    else some false)
                    fun (s25 : Bool) => bif s25 then some (Sum.inr (Sum.inr false)) else some (Sum.inl (IntKind.wrap IntKind.i64 ((i : Int) + (1 : Int)))) : Option (Int ⊕ (Unit ⊕ Bool)))
        (fun r => r = bif c || (decide (0 < i) && decide (cmpP (l.getD (i - 1) x).1 x.1 ≥ 0)) then Sum.inr (Sum.inr false) else Sum.inl (IntKind.wrap IntKind.i64 ((i : Int) + 1))) := by
    rintro c rfl
    by_cases hi : 0 < i
    · rw [show decide ((i : Int) > 0) = true from decide_eq_true (by omega), decide_eq_true hi, cond_true, prevR hx hi hl.1, Option.bind_some]
      refine wp_bind (wp_bind (wp_eq (spec_addr_Compare _ _) (wp_some ?_)))
      cases decide (cmpP (l.getD (i - 1) x).1 x.1 ≥ 0) <;> exact wp_some rfl
    · rw [show decide ((i : Int) > 0) = false from decide_eq_false (by omega), decide_eq_false hi]
      exact wp_some rfl
  cases hv : vB x with
  | false => exact wp_some (wp_some rfl)
  | true =>
    cases hp : (p != 0) with
    | false => exact wp_some (last false rfl)
    | true =>
      refine wp_some ?_
      cases hq : (x.2.1 != p) with
      | true => exact wp_some rfl
      | false => exact last false rfl

theorem tD_eq (l : List (Ty.El tRoute)) (p : Int) (hl : LtB l) : ref15_Table (l, p, ()) = some (tB l p) := by
  unfold ref15_Table
  refine loop_bad hl.1 (badT l vB p) (fun i x hx => ?_)
  simp only [idx_nat hx, Option.bind_some]
  refine wp_val (wp_bind ((show Wp _ (fun b : Bool => b = badT l vB p i x) from ?_).mono (fun b hb => ?_)))
  · refine wp_bind (wp_eq (vD_eq x (hl.2 x (List.mem_of_getElem? hx))) ?_)
    unfold badT
    have last : Wp (bif decide ((i : Int) > (0 : Int)) then
                            Option.bind (idx l (IntKind.wrap IntKind.i64 ((i : Int) - (1 : Int)))) fun (y44 : Ty.El tRoute) =>
                              Option.bind (ref4_Compare (y44.fst, x.fst, ())) fun (y46 : Int) => some (decide (y46 ≥ (0 : Int)))
                          else some false : Option Bool) (fun b => b = (decide (0 < i) && decide (cmpP (l.getD (i - 1) x).1 x.1 ≥ 0))) := by
      by_cases hi : 0 < i
      · rw [show decide ((i : Int) > 0) = true from decide_eq_true (by omega), decide_eq_true hi, cond_true, prevR hx hi hl.1, Option.bind_some]
        exact wp_bind (wp_eq (spec_ref4_Compare _ _) (wp_some rfl))
      · rw [show decide ((i : Int) > 0) = false from decide_eq_false (by omega), decide_eq_false hi]
        exact wp_some rfl
    cases hv : vB x with
    | false => exact wp_some rfl
    | true =>
      cases hp : (p != 0) with
      | false => exact last
      | true =>
        cases hq : (x.2.1 != p) with
        | true => exact wp_some rfl
        | false => exact last
  · subst hb
    cases badT l vB p i x <;> exact wp_some rfl

noncomputable def badS (i : Nat) (t : Ty.El tTables) : Bool := !tB t.1 3 || (!tB t.2.1 4 || (!tB t.2.2.1 5 || !tB t.2.2.2.1 0))
noncomputable def sB (v : Ty.El tView) (s : List (Ty.El tTables)) : Bool := bif ((s.length : Int) != (v.1.1.length : Int)) then false else dec (∀ (i : Nat) x, s[i]? = some x → badS i x = false)

theorem sP_eq (v : Ty.El tView) (s : List (Ty.El tTables)) (hl : s.length < 4611686018427387904) (hs : ∀ x, x ∈ s → TbB x) : control_Valid (v, s, ()) = some (sB v s) := by
  unfold control_Valid sB
  dsimp only
  cases (s.length : Int) != (v.1.1.length : Int) with
  | true => rfl
  | false =>
    simp only [cond_false]
    refine loop_bad hl badS (fun i x hx => ?_)
    have hb := hs x (List.mem_of_getElem? hx)
    simp only [idx_nat hx, Option.bind_some]
    unfold badS
    refine wp_val (wp_bind (wp_bind (wp_eq (tP_eq _ _ hb.a) ?_)))
    cases tB x.1 3 with
    | false => exact wp_some (wp_some rfl)
    | true =>
      refine wp_bind (wp_eq (tP_eq _ _ hb.b) ?_)
      cases tB x.2.1 4 with
      | false => exact wp_some (wp_some rfl)
      | true =>
        refine wp_bind (wp_eq (tP_eq _ _ hb.c) ?_)
        cases tB x.2.2.1 5 with
        | false => exact wp_some (wp_some rfl)
        | true =>
          refine wp_bind (wp_eq (tP_eq _ _ hb.d) (wp_some ?_))
          cases tB x.2.2.2.1 0 <;> exact wp_some rfl

theorem sD_eq (v : Ty.El tView) (s : List (Ty.El tTables)) (hl : s.length < 4611686018427387904) (hs : ∀ x, x ∈ s → TbB x) : ref24_Valid (v, s, ()) = some (sB v s) := by
  unfold ref24_Valid sB
  dsimp only
  cases (s.length : Int) != (v.1.1.length : Int) with
  | true => rfl
  | false =>
    simp only [cond_false]
    refine loop_bad hl badS (fun i x hx => ?_)
    have hb := hs x (List.mem_of_getElem? hx)
    simp only [idx_nat hx, Option.bind_some]
    unfold badS
    refine wp_val (wp_bind (wp_bind (wp_eq (tD_eq _ _ hb.a) ?_)))
    cases tB x.1 3 with
    | false => exact wp_some (wp_some rfl)
    | true =>
      refine wp_bind (wp_eq (tD_eq _ _ hb.b) ?_)
      cases tB x.2.1 4 with
      | false => exact wp_some (wp_some rfl)
      | true =>
        refine wp_bind (wp_eq (tD_eq _ _ hb.c) ?_)
        cases tB x.2.2.1 5 with
        | false => exact wp_some (wp_some rfl)
        | true =>
          refine wp_bind (wp_eq (tD_eq _ _ hb.d) (wp_some ?_))
          cases tB x.2.2.2.1 0 <;> exact wp_some rfl

theorem tB_nil (p : Int) : tB [] p = true := dec_iff.2 (fun i x hx => by simp at hx)

theorem empty_eq (v : Ty.El tView) (h : v.1.1.length ≤ 9) : control_Empty (v, ()) = some (List.replicate v.1.1.length ([], [], [], [], ())) := by
  unfold control_Empty news
  dsimp only
  rw [if_pos (by omega)]
  simp

theorem sB_empty (v : Ty.El tView) : sB v (List.replicate v.1.1.length ([], [], [], [], ())) = true := by
  unfold sB
  simp only [List.length_replicate, bne_self_eq_false, cond_false]
  refine dec_iff.2 (fun i x hx => ?_)
  obtain rfl := (List.mem_replicate.1 (List.mem_of_getElem? hx)).2
  show (!tB [] 3 || (!tB [] 4 || (!tB [] 5 || !tB [] 0))) = false
  have h := tB_nil
  rw [h 3, h 4, h 5, h 0]
  rfl

theorem law_ControlStates (n : Ty.El tNetwork) (d : List Int) (s t : List (Ty.El tTables)) (hs : ∀ x, x ∈ s → TbB x) (hl : s.length ≤ 1048576) : Wp (law21_ControlStates (n, d, s, t, ())) (fun b => b = true) := by
  unfold law21_ControlStates
  dsimp only
  refine wp_bind ((tot_law13_View n d).mono (fun y0 hy0 => ?_))
  refine wp_bind ((show Wp _ (fun b : Bool => b = false → ViewOk n d y0.1) from ?_).mono (fun b hb => ?_))
  · refine wp_bif (fun _ => wp_some (fun h => by cases h)) (fun h => ?_)
    refine wp_bif (fun _ => wp_some (fun h => by cases h)) (fun _ => wp_some (fun _ => hy0 (by simpa using h)))
  refine wp_bif (fun _ => wp_some rfl) (fun h => ?_)
  have hv := hb h
  refine wp_find (xs := s) (by omega) (fun _ => True) trivial ?_ (fun _ => ?_)
  · intro i x hx _
    simp only [idx_nat hx, Option.bind_some]
    refine wp_bind ((show Wp _ (fun _ : Bool => True) from ?_).mono (fun b _ => wp_bif (fun _ => wp_some (e2r (e2r rfl))) (fun _ => wp_some (e2l ⟨rfl, trivial⟩))))
    iterate 3 refine wp_bif (fun _ => wp_some trivial) (fun _ => ?_)
    exact wp_some trivial
  have hsl : s.length < 4611686018427387904 := by omega
  have hn : y0.1.1.1.length ≤ 9 := by rw [hv.net]; exact hv.rs
  refine wp_bind (wp_bind (wp_eq (sP_eq y0.1 s hsl hs) (wp_bind (wp_eq (sD_eq y0.1 s hsl hs) ?_))))
  rw [beq_self_eq_true, cond_true]
  refine wp_bind (wp_eq (empty_eq y0.1 hn) (wp_bind (wp_eq (sP_eq y0.1 _ (by rw [List.length_replicate]; omega) (fun x hx => ?_)) ?_)))
  · obtain rfl := (List.mem_replicate.1 hx).2
    have e : LtB [] := ⟨by simp, fun x hx => by cases hx⟩
    exact ⟨e, e, e, e⟩
  rw [sB_empty, cond_true]
  refine wp_bind (wp_eq (empty_eq y0.1 hn) ?_)
  rw [List.length_replicate, hv.net, beq_self_eq_true, cond_true]
  refine wp_bind ((csame_iff s t hsl hs).mono (fun b1 h1 => wp_bind ((dsame_iff s t hsl hs).mono (fun b2 h2 => ?_))))
  obtain rfl : b1 = b2 := Bool.eq_iff_iff.2 (h1.trans h2.symm)
  rw [beq_self_eq_true, cond_true]
  refine wp_bind ((csame_iff s s hsl hs).mono (fun b3 h3 => ?_))
  rw [h3.2 rfl, cond_true]
  exact wp_bind (wp_eq (show law21_sane () = some true from rfl) (wp_some (wp_some rfl)))

theorem rtb_fits {y : Ty.El tRoute} (h : Ty.fits 1048576 tRoute y) : RtB y :=
  ⟨Nat.le_trans h.2.2.2.2.2.2.2.2.1.1 (by omega), Nat.le_trans h.2.2.2.2.2.2.2.2.2.2.2.1.1 (by omega)⟩

theorem ltb_fits {l : List (Ty.El tRoute)} (h : Ty.fits 1048576 (.sl tRoute) l) : LtB l := ⟨Nat.lt_of_le_of_lt h.1 (by omega), fun x hx => rtb_fits (h.2 x hx)⟩

theorem ans_law21_ControlStates : ∀ x : ElS [tNetwork, .sl tI, .sl tTables, .sl tTables], fitsS 1048576 [tNetwork, .sl tI, .sl tTables, .sl tTables] x → law21_ControlStates x = some true := by
  rintro ⟨n, d, s, t, ⟨⟩⟩ ⟨_, _, ⟨h1, h2⟩, _, _⟩
  refine wp_val (law_ControlStates n d s t (fun x hx => ?_) h1)
  obtain ⟨a, b, c, e, _⟩ := h2 x hx
  exact ⟨ltb_fits a, ltb_fits b, ltb_fits c, ltb_fits e⟩
end Go.Ve
