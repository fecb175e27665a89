/-
  law18: contracts of the reference's valid parts.
-/
import Derived.Test.YtggmpbaiijodiaaGreatNvL5
namespace Go.Ve
open Go Go.Proofs
set_option maxRecDepth 100000

theorem drop_get {α : Type} (t : List α) (i : Int) (y : α) (h0 : 0 ≤ i) (hy : t[i.toNat]? = some y) : t.drop i.toNat = y :: t.drop (i + 1).toNat := by
  obtain ⟨hlt, rfl⟩ := List.getElem?_eq_some_iff.1 hy
  rw [show (i + 1).toNat = i.toNat + 1 by omega]
  exact List.drop_eq_getElem_cons hlt

theorem hops_next (l : List Hop) (d : Bool) (s : Int) (h : J40_2 l d s) (hl : l.length ≤ 1048576) (hlt : s < l.length) (hs : hopsGo d l (l.drop s.toNat) s = hopsGo d l (l.drop (s + 1).toNat) (s + 1)) :
    J40_2 l d (IntKind.wrap IntKind.i64 (s + 1)) ∧ M40_2 l d (IntKind.wrap IntKind.i64 (s + 1)) < M40_2 l d s := by
  obtain ⟨h1, h2, h3⟩ := h
  have hw : IntKind.i64.wrap (s + 1) = s + 1 := wrap64 (by omega) (by omega)
  rw [hw]
  refine ⟨⟨by omega, by omega, by rw [← hs]; exact h3⟩, ?_⟩
  simp only [M40_2]; omega

theorem vc40 : ∀ (a1 : Ty.El (Ty.sl tHop)) (a2 : Ty.El Ty.bool),
  (F40 () (a1, a2, ())).fst →
    (a1 = a1 ∧ a2 = a2 ∧ (0 : Int) = (0 : Int) ∧ () = () ∧ J40_2 a1 a2 (0 : Int)) ∧
      ∀ (s : Int),
        J40_2 a1 a2 s →
          ifb (decide (s < (↑(List.length a1) : Int)))
            (((0 : Int) ≤ s ∧ s < (↑(List.length a1) : Int)) ∧
              ∀ (y : Ty.El tHop),
                a1[Int.toNat s]? = some y →
                  ifb (decide (y.fst < (0 : Int))) (() = () ∧ false = hopsOk a1 a2)
                    (ifb (decide (s > (0 : Int)))
                      (((0 : Int) ≤ IntKind.wrap IntKind.i64 (s - (1 : Int)) ∧ IntKind.wrap IntKind.i64 (s - (1 : Int)) < (↑(List.length a1) : Int)) ∧
                        ∀ (y : Ty.El tHop),
                          a1[Int.toNat (IntKind.wrap IntKind.i64 (s - (1 : Int)))]? = some y →
                            ((0 : Int) ≤ s ∧ s < (↑(List.length a1) : Int)) ∧
                              ∀ (y_1 : Ty.El tHop),
                                a1[Int.toNat s]? = some y_1 →
                                  True ∧
                                    ifb (!lessHop y y_1) (() = () ∧ false = hopsOk a1 a2)
                                      (((0 : Int) ≤ s ∧ s < (↑(List.length a1) : Int)) ∧
                                        ∀ (y : Ty.El tHop),
                                          a1[Int.toNat s]? = some y →
                                            ifb (!(y.snd.fst == (0 : Int)) == a2) (() = () ∧ false = hopsOk a1 a2)
                                              (a1 = a1 ∧
                                                a2 = a2 ∧
                                                  IntKind.wrap IntKind.i64 (s + (1 : Int)) = IntKind.wrap IntKind.i64 (s + (1 : Int)) ∧
                                                    () = () ∧ J40_2 a1 a2 (IntKind.wrap IntKind.i64 (s + (1 : Int))) ∧ M40_2 a1 a2 (IntKind.wrap IntKind.i64 (s + (1 : Int))) < M40_2 a1 a2 s)))
                      (((0 : Int) ≤ s ∧ s < (↑(List.length a1) : Int)) ∧
                        ∀ (y : Ty.El tHop),
                          a1[Int.toNat s]? = some y →
                            ifb (!(y.snd.fst == (0 : Int)) == a2) (() = () ∧ false = hopsOk a1 a2)
                              (a1 = a1 ∧
                                a2 = a2 ∧
                                  IntKind.wrap IntKind.i64 (s + (1 : Int)) = IntKind.wrap IntKind.i64 (s + (1 : Int)) ∧
                                    () = () ∧ J40_2 a1 a2 (IntKind.wrap IntKind.i64 (s + (1 : Int))) ∧ M40_2 a1 a2 (IntKind.wrap IntKind.i64 (s + (1 : Int))) < M40_2 a1 a2 s))))
            (() = () ∧ true = hopsOk a1 a2) := by
  intro a1 a2 hp
  have hp : a1.length ≤ 1048576 := hp
  simp only [true_and, and_true]
  refine ⟨⟨by omega, by omega, rfl⟩, ?_⟩
  intro s h
  have h : J40_2 a1 a2 s := h
  obtain ⟨h1, h2, h3⟩ := id h
  refine ifb_intro (fun hlt => ?_) (fun hlt => ?_)
  · have hlt : s < a1.length := by simpa using hlt
    refine ⟨⟨h1, hlt⟩, fun y hy => ?_⟩
    have hd := drop_get a1 s y h1 hy
    rw [hd] at h3
    refine ifb_intro (fun c1 => ?_) (fun c1 => ?_)
    · rw [← h3]; simp only [hopsGo, c1, Bool.true_or, if_true]
    · refine ifb_intro (fun c2 => ?_) (fun c2 => ?_)
      · have c2' : 0 < s := by simpa using c2
        have hw : IntKind.i64.wrap (s - 1) = s - 1 := wrap64 (by omega) (by omega)
        rw [hw]
        refine ⟨⟨by omega, by omega⟩, fun z hz => ⟨⟨h1, hlt⟩, fun y' hy' => ?_⟩⟩
        rw [hy] at hy'; simp only [Option.some.injEq] at hy'; subst hy'
        refine ifb_intro (fun c3 => ?_) (fun c3 => ⟨⟨h1, hlt⟩, fun y' hy' => ?_⟩)
        · rw [← h3]; simp only [hopsGo, hz, Option.getD_some, c2, Bool.true_and]; rw [if_pos]; simp only [Bool.or_eq_true]; exact .inl (.inr c3)
        · rw [hy] at hy'; simp only [Option.some.injEq] at hy'; subst hy'
          refine ifb_intro (fun c4 => ?_) (fun c4 => ?_)
          · rw [← h3]; simp only [hopsGo]; rw [if_pos]; simp only [Bool.or_eq_true]; exact .inr c4
          · refine hops_next a1 a2 s h hp hlt ?_
            rw [hd]; simp only [hopsGo, hz, Option.getD_some]; rw [if_neg]
            simp only [c1, c2, Bool.true_and, Bool.false_or, Bool.or_eq_true, not_or]
            exact ⟨by rw [show (!lessHop z y) = false from c3]; simp, by rw [show ((y.2.1 == 0) != a2) = false from c4]; simp⟩
      · refine ⟨⟨h1, hlt⟩, fun y' hy' => ?_⟩
        rw [hy] at hy'; simp only [Option.some.injEq] at hy'; subst hy'
        refine ifb_intro (fun c4 => ?_) (fun c4 => ?_)
        · rw [← h3]; simp only [hopsGo]; rw [if_pos]; simp only [Bool.or_eq_true]; exact .inr c4
        · refine hops_next a1 a2 s h hp hlt ?_
          rw [hd]; simp only [hopsGo]; rw [if_neg]
          simp only [c1, c2, Bool.false_and, Bool.false_or]
          rw [show ((y.2.1 == 0) != a2) = false from c4]; simp
  · have hlt : a1.length ≤ s := by simpa using hlt
    rw [List.drop_eq_nil_of_le (by omega)] at h3
    exact h3

theorem vc41 : ∀ (a1 : Ty.El tRoute),
  (F41 () (a1, ())).fst →
    ifb (a1.snd.snd.fst != (0 : Int)) (() = () ∧ false = validStatic a1)
      (ifb (a1.snd.snd.snd.snd.fst != (0 : Int)) (() = () ∧ false = validStatic a1)
        (True ∧
          ifb (!within a1.snd.snd.snd.fst (1 : Int) (255 : Int)) (() = () ∧ false = validStatic a1)
            (True ∧
              ifb (!plain a1 false false true) (() = () ∧ false = validStatic a1)
                (ifb (a1.snd.snd.snd.snd.snd.snd.snd.snd.snd.snd.fst != (0 : Int))
                  (ifb ((↑(List.length a1.snd.snd.snd.snd.snd.snd.snd.snd.snd.snd.snd.fst) : Int) == (0 : Int)) (() = () ∧ (!a1.snd.snd.snd.snd.snd.snd.snd.snd.snd.snd.snd.snd.fst) = validStatic a1)
                    (() = () ∧ false = validStatic a1))
                  (ifb a1.snd.snd.snd.snd.snd.snd.snd.snd.snd.snd.snd.snd.fst (() = () ∧ ((↑(List.length a1.snd.snd.snd.snd.snd.snd.snd.snd.snd.snd.snd.fst) : Int) == (0 : Int)) = validStatic a1)
                    (ifb ((↑(List.length a1.snd.snd.snd.snd.snd.snd.snd.snd.snd.snd.snd.fst) : Int) == (1 : Int))
                      (List.length a1.snd.snd.snd.snd.snd.snd.snd.snd.snd.snd.snd.fst ≤ (1048576 : Nat) ∧ () = () ∧ hopsOk a1.snd.snd.snd.snd.snd.snd.snd.snd.snd.snd.snd.fst true = validStatic a1)
                      (() = () ∧ false = validStatic a1))))))) := by
  intro a1 hp
  have hp : Rok a1 := hp
  have hF : List.length a1.snd.snd.snd.snd.snd.snd.snd.snd.snd.snd.snd.fst ≤ 1048576 := hp.2
  unfold validStatic
  (repeat' (first | apply And.intro | apply ifb_intro | intro)) <;> simp_all

theorem vc42 : ∀ (a1 : Ty.El tRoute),
  (F42 () (a1, ())).fst →
    True ∧
      ifb (!within a1.snd.snd.fst (1 : Int) (4 : Int)) (() = () ∧ false = validLinkState a1)
        (True ∧
          ifb (!within a1.snd.snd.snd.fst (1 : Int) (255 : Int)) (() = () ∧ false = validLinkState a1)
            (True ∧
              ifb (!within a1.snd.snd.snd.snd.fst (0 : Int) (1073741824 : Int)) (() = () ∧ false = validLinkState a1)
                (True ∧
                  ifb (!plain a1 true false false) (() = () ∧ false = validLinkState a1)
                    (True ∧
                      ifb (!within a1.snd.snd.snd.snd.snd.fst (0 : Int) (1073741824 : Int)) (() = () ∧ false = validLinkState a1)
                        (ifb (a1.snd.snd.fst != (4 : Int))
                          (ifb (a1.snd.snd.snd.snd.snd.fst != (0 : Int)) (() = () ∧ false = validLinkState a1)
                            (ifb a1.snd.snd.snd.snd.snd.snd.snd.snd.snd.snd.snd.snd.fst
                              (ifb (a1.snd.snd.fst == (1 : Int))
                                (ifb (a1.snd.snd.snd.snd.fst == (0 : Int))
                                  (ifb (a1.snd.snd.snd.snd.snd.snd.fst == (0 : Int))
                                    (() = () ∧ ((↑(List.length a1.snd.snd.snd.snd.snd.snd.snd.snd.snd.snd.snd.fst) : Int) == (0 : Int)) = validLinkState a1) (() = () ∧ false = validLinkState a1))
                                  (() = () ∧ false = validLinkState a1))
                                (() = () ∧ false = validLinkState a1))
                              (ifb (decide ((↑(List.length a1.snd.snd.snd.snd.snd.snd.snd.snd.snd.snd.snd.fst) : Int) > (0 : Int)))
                                (List.length a1.snd.snd.snd.snd.snd.snd.snd.snd.snd.snd.snd.fst ≤ (1048576 : Nat) ∧
                                  () = () ∧ hopsOk a1.snd.snd.snd.snd.snd.snd.snd.snd.snd.snd.snd.fst false = validLinkState a1)
                                (() = () ∧ false = validLinkState a1))))
                          (ifb a1.snd.snd.snd.snd.snd.snd.snd.snd.snd.snd.snd.snd.fst
                            (ifb (a1.snd.snd.fst == (1 : Int))
                              (ifb (a1.snd.snd.snd.snd.fst == (0 : Int))
                                (ifb (a1.snd.snd.snd.snd.snd.snd.fst == (0 : Int))
                                  (() = () ∧ ((↑(List.length a1.snd.snd.snd.snd.snd.snd.snd.snd.snd.snd.snd.fst) : Int) == (0 : Int)) = validLinkState a1) (() = () ∧ false = validLinkState a1))
                                (() = () ∧ false = validLinkState a1))
                              (() = () ∧ false = validLinkState a1))
                            (ifb (decide ((↑(List.length a1.snd.snd.snd.snd.snd.snd.snd.snd.snd.snd.snd.fst) : Int) > (0 : Int)))
                              (List.length a1.snd.snd.snd.snd.snd.snd.snd.snd.snd.snd.snd.fst ≤ (1048576 : Nat) ∧
                                () = () ∧ hopsOk a1.snd.snd.snd.snd.snd.snd.snd.snd.snd.snd.snd.fst false = validLinkState a1)
                              (() = () ∧ false = validLinkState a1)))))))) := by
  intro a1 hp
  have hp : Rok a1 := hp
  have hF : List.length a1.snd.snd.snd.snd.snd.snd.snd.snd.snd.snd.snd.fst ≤ 1048576 := hp.2
  unfold validLinkState
  (repeat' (first | apply And.intro | apply ifb_intro | intro)) <;> simp_all

theorem vc43 : ∀ (a1 : Ty.El tRoute),
  (F43 () (a1, ())).fst →
    True ∧
      ifb (!within a1.snd.snd.snd.fst (1 : Int) (255 : Int)) (() = () ∧ false = validDistance a1)
        (True ∧
          ifb (!within a1.snd.snd.snd.snd.fst (1 : Int) (15 : Int)) (() = () ∧ false = validDistance a1)
            (True ∧
              ifb (!plain a1 false false false) (() = () ∧ false = validDistance a1)
                (ifb a1.snd.snd.snd.snd.snd.snd.snd.snd.snd.snd.snd.snd.fst (() = () ∧ false = validDistance a1)
                  (ifb (a1.snd.snd.fst == (1 : Int))
                    (ifb (a1.snd.snd.snd.snd.fst == (1 : Int))
                      (ifb (a1.snd.snd.snd.snd.snd.snd.fst == (0 : Int))
                        (ifb ((↑(List.length a1.snd.snd.snd.snd.snd.snd.snd.snd.snd.snd.snd.fst) : Int) == (1 : Int))
                          (List.length a1.snd.snd.snd.snd.snd.snd.snd.snd.snd.snd.snd.fst ≤ (1048576 : Nat) ∧
                            () = () ∧ hopsOk a1.snd.snd.snd.snd.snd.snd.snd.snd.snd.snd.snd.fst true = validDistance a1)
                          (() = () ∧ false = validDistance a1))
                        (() = () ∧ false = validDistance a1))
                      (() = () ∧ false = validDistance a1))
                    (ifb (a1.snd.snd.fst == (2 : Int)) (() = () ∧ ((↑(List.length a1.snd.snd.snd.snd.snd.snd.snd.snd.snd.snd.snd.fst) : Int) == (0 : Int)) = validDistance a1)
                      (ifb (a1.snd.snd.fst == (3 : Int))
                        (ifb (decide ((↑(List.length a1.snd.snd.snd.snd.snd.snd.snd.snd.snd.snd.snd.fst) : Int) > (0 : Int)))
                          (List.length a1.snd.snd.snd.snd.snd.snd.snd.snd.snd.snd.snd.fst ≤ (1048576 : Nat) ∧
                            () = () ∧ hopsOk a1.snd.snd.snd.snd.snd.snd.snd.snd.snd.snd.snd.fst false = validDistance a1)
                          (() = () ∧ false = validDistance a1))
                        (() = () ∧ false = validDistance a1))))))) := by
  intro a1 hp
  have hp : Rok a1 := hp
  have hF : List.length a1.snd.snd.snd.snd.snd.snd.snd.snd.snd.snd.snd.fst ≤ 1048576 := hp.2
  unfold validDistance
  (repeat' (first | apply And.intro | apply ifb_intro | intro)) <;> simp_all

theorem vc44 : ∀ (a1 : Ty.El tRoute),
  (F44 () (a1, ())).fst →
    True ∧
      ifb (!within a1.snd.snd.snd.fst (1 : Int) (255 : Int)) (() = () ∧ false = validPath a1)
        (True ∧
          ifb (!within a1.snd.snd.snd.snd.fst (0 : Int) (16777215 : Int)) (() = () ∧ false = validPath a1)
            (True ∧
              ifb (!within a1.snd.snd.snd.snd.snd.snd.snd.fst (0 : Int) (1000000 : Int)) (() = () ∧ false = validPath a1)
                (True ∧
                  ifb (!plain a1 false true false) (() = () ∧ false = validPath a1)
                    (ifb (a1.snd.snd.fst == (1 : Int))
                      (ifb (a1.snd.snd.fst == (1 : Int))
                        (ifb ((↑(List.length a1.snd.snd.snd.snd.snd.snd.snd.snd.fst) : Int) == (0 : Int))
                          (ifb (a1.snd.snd.snd.snd.snd.snd.snd.snd.snd.fst == (0 : Int))
                            (ifb ((↑(List.length a1.snd.snd.snd.snd.snd.snd.snd.snd.snd.snd.snd.fst) : Int) == (0 : Int))
                              (() = () ∧ (a1.snd.snd.snd.snd.snd.snd.snd.snd.snd.snd.snd.snd.fst == (a1.snd.snd.fst == (2 : Int))) = validPath a1) (() = () ∧ false = validPath a1))
                            (() = () ∧ false = validPath a1))
                          (() = () ∧ false = validPath a1))
                        (ifb (a1.snd.snd.fst == (3 : Int))
                          (ifb (a1.snd.snd.fst == (3 : Int))
                            (ifb (a1.snd.snd.fst == (4 : Int))
                              (ifb (a1.snd.snd.snd.snd.snd.snd.snd.snd.snd.fst != (0 : Int))
                                (ifb ((↑(List.length a1.snd.snd.snd.snd.snd.snd.snd.snd.snd.snd.snd.fst) : Int) == (1 : Int))
                                  (List.length a1.snd.snd.snd.snd.snd.snd.snd.snd.snd.snd.snd.fst ≤ (1048576 : Nat) ∧
                                    ifb (hopsOk a1.snd.snd.snd.snd.snd.snd.snd.snd.snd.snd.snd.fst false)
                                      (((0 : Int) ≤ (0 : Int) ∧ (0 : Int) < (↑(List.length a1.snd.snd.snd.snd.snd.snd.snd.snd.snd.snd.snd.fst) : Int)) ∧
                                        ∀ (y : Ty.El tHop),
                                          a1.snd.snd.snd.snd.snd.snd.snd.snd.snd.snd.snd.fst[Int.toNat (0 : Int)]? = some y →
                                            ifb (y.snd.fst == a1.snd.snd.snd.snd.snd.snd.snd.snd.snd.fst) (() = () ∧ (!a1.snd.snd.snd.snd.snd.snd.snd.snd.snd.snd.snd.snd.fst) = validPath a1)
                                              (() = () ∧ false = validPath a1))
                                      (() = () ∧ false = validPath a1))
                                  (() = () ∧ false = validPath a1))
                                (() = () ∧ false = validPath a1))
                              (ifb (decide ((↑(List.length a1.snd.snd.snd.snd.snd.snd.snd.snd.fst) : Int) > (0 : Int)))
                                (ifb (a1.snd.snd.snd.snd.snd.snd.snd.snd.snd.fst != (0 : Int))
                                  (ifb ((↑(List.length a1.snd.snd.snd.snd.snd.snd.snd.snd.snd.snd.snd.fst) : Int) == (1 : Int))
                                    (List.length a1.snd.snd.snd.snd.snd.snd.snd.snd.snd.snd.snd.fst ≤ (1048576 : Nat) ∧
                                      ifb (hopsOk a1.snd.snd.snd.snd.snd.snd.snd.snd.snd.snd.snd.fst false)
                                        (((0 : Int) ≤ (0 : Int) ∧ (0 : Int) < (↑(List.length a1.snd.snd.snd.snd.snd.snd.snd.snd.snd.snd.snd.fst) : Int)) ∧
                                          ∀ (y : Ty.El tHop),
                                            a1.snd.snd.snd.snd.snd.snd.snd.snd.snd.snd.snd.fst[Int.toNat (0 : Int)]? = some y →
                                              ifb (y.snd.fst == a1.snd.snd.snd.snd.snd.snd.snd.snd.snd.fst) (() = () ∧ (!a1.snd.snd.snd.snd.snd.snd.snd.snd.snd.snd.snd.snd.fst) = validPath a1)
                                                (() = () ∧ false = validPath a1))
                                        (() = () ∧ false = validPath a1))
                                    (() = () ∧ false = validPath a1))
                                  (() = () ∧ false = validPath a1))
                                (() = () ∧ false = validPath a1)))
                            (() = () ∧ false = validPath a1))
                          (ifb (a1.snd.snd.fst == (4 : Int))
                            (ifb (a1.snd.snd.fst == (4 : Int))
                              (ifb (a1.snd.snd.snd.snd.snd.snd.snd.snd.snd.fst != (0 : Int))
                                (ifb ((↑(List.length a1.snd.snd.snd.snd.snd.snd.snd.snd.snd.snd.snd.fst) : Int) == (1 : Int))
                                  (List.length a1.snd.snd.snd.snd.snd.snd.snd.snd.snd.snd.snd.fst ≤ (1048576 : Nat) ∧
                                    ifb (hopsOk a1.snd.snd.snd.snd.snd.snd.snd.snd.snd.snd.snd.fst false)
                                      (((0 : Int) ≤ (0 : Int) ∧ (0 : Int) < (↑(List.length a1.snd.snd.snd.snd.snd.snd.snd.snd.snd.snd.snd.fst) : Int)) ∧
                                        ∀ (y : Ty.El tHop),
                                          a1.snd.snd.snd.snd.snd.snd.snd.snd.snd.snd.snd.fst[Int.toNat (0 : Int)]? = some y →
                                            ifb (y.snd.fst == a1.snd.snd.snd.snd.snd.snd.snd.snd.snd.fst) (() = () ∧ (!a1.snd.snd.snd.snd.snd.snd.snd.snd.snd.snd.snd.snd.fst) = validPath a1)
                                              (() = () ∧ false = validPath a1))
                                      (() = () ∧ false = validPath a1))
                                  (() = () ∧ false = validPath a1))
                                (() = () ∧ false = validPath a1))
                              (ifb (decide ((↑(List.length a1.snd.snd.snd.snd.snd.snd.snd.snd.fst) : Int) > (0 : Int)))
                                (ifb (a1.snd.snd.snd.snd.snd.snd.snd.snd.snd.fst != (0 : Int))
                                  (ifb ((↑(List.length a1.snd.snd.snd.snd.snd.snd.snd.snd.snd.snd.snd.fst) : Int) == (1 : Int))
                                    (List.length a1.snd.snd.snd.snd.snd.snd.snd.snd.snd.snd.snd.fst ≤ (1048576 : Nat) ∧
                                      ifb (hopsOk a1.snd.snd.snd.snd.snd.snd.snd.snd.snd.snd.snd.fst false)
                                        (((0 : Int) ≤ (0 : Int) ∧ (0 : Int) < (↑(List.length a1.snd.snd.snd.snd.snd.snd.snd.snd.snd.snd.snd.fst) : Int)) ∧
                                          ∀ (y : Ty.El tHop),
                                            a1.snd.snd.snd.snd.snd.snd.snd.snd.snd.snd.snd.fst[Int.toNat (0 : Int)]? = some y →
                                              ifb (y.snd.fst == a1.snd.snd.snd.snd.snd.snd.snd.snd.snd.fst) (() = () ∧ (!a1.snd.snd.snd.snd.snd.snd.snd.snd.snd.snd.snd.snd.fst) = validPath a1)
                                                (() = () ∧ false = validPath a1))
                                        (() = () ∧ false = validPath a1))
                                    (() = () ∧ false = validPath a1))
                                  (() = () ∧ false = validPath a1))
                                (() = () ∧ false = validPath a1)))
                            (() = () ∧ false = validPath a1))))
                      (ifb (a1.snd.snd.fst == (2 : Int))
                        (ifb ((↑(List.length a1.snd.snd.snd.snd.snd.snd.snd.snd.fst) : Int) == (0 : Int))
                          (ifb (a1.snd.snd.snd.snd.snd.snd.snd.snd.snd.fst == (0 : Int))
                            (ifb ((↑(List.length a1.snd.snd.snd.snd.snd.snd.snd.snd.snd.snd.snd.fst) : Int) == (0 : Int))
                              (() = () ∧ (a1.snd.snd.snd.snd.snd.snd.snd.snd.snd.snd.snd.snd.fst == (a1.snd.snd.fst == (2 : Int))) = validPath a1) (() = () ∧ false = validPath a1))
                            (() = () ∧ false = validPath a1))
                          (() = () ∧ false = validPath a1))
                        (ifb (a1.snd.snd.fst == (3 : Int))
                          (ifb (a1.snd.snd.fst == (3 : Int))
                            (ifb (a1.snd.snd.fst == (4 : Int))
                              (ifb (a1.snd.snd.snd.snd.snd.snd.snd.snd.snd.fst != (0 : Int))
                                (ifb ((↑(List.length a1.snd.snd.snd.snd.snd.snd.snd.snd.snd.snd.snd.fst) : Int) == (1 : Int))
                                  (List.length a1.snd.snd.snd.snd.snd.snd.snd.snd.snd.snd.snd.fst ≤ (1048576 : Nat) ∧
                                    ifb (hopsOk a1.snd.snd.snd.snd.snd.snd.snd.snd.snd.snd.snd.fst false)
                                      (((0 : Int) ≤ (0 : Int) ∧ (0 : Int) < (↑(List.length a1.snd.snd.snd.snd.snd.snd.snd.snd.snd.snd.snd.fst) : Int)) ∧
                                        ∀ (y : Ty.El tHop),
                                          a1.snd.snd.snd.snd.snd.snd.snd.snd.snd.snd.snd.fst[Int.toNat (0 : Int)]? = some y →
                                            ifb (y.snd.fst == a1.snd.snd.snd.snd.snd.snd.snd.snd.snd.fst) (() = () ∧ (!a1.snd.snd.snd.snd.snd.snd.snd.snd.snd.snd.snd.snd.fst) = validPath a1)
                                              (() = () ∧ false = validPath a1))
                                      (() = () ∧ false = validPath a1))
                                  (() = () ∧ false = validPath a1))
                                (() = () ∧ false = validPath a1))
                              (ifb (decide ((↑(List.length a1.snd.snd.snd.snd.snd.snd.snd.snd.fst) : Int) > (0 : Int)))
                                (ifb (a1.snd.snd.snd.snd.snd.snd.snd.snd.snd.fst != (0 : Int))
                                  (ifb ((↑(List.length a1.snd.snd.snd.snd.snd.snd.snd.snd.snd.snd.snd.fst) : Int) == (1 : Int))
                                    (List.length a1.snd.snd.snd.snd.snd.snd.snd.snd.snd.snd.snd.fst ≤ (1048576 : Nat) ∧
                                      ifb (hopsOk a1.snd.snd.snd.snd.snd.snd.snd.snd.snd.snd.snd.fst false)
                                        (((0 : Int) ≤ (0 : Int) ∧ (0 : Int) < (↑(List.length a1.snd.snd.snd.snd.snd.snd.snd.snd.snd.snd.snd.fst) : Int)) ∧
                                          ∀ (y : Ty.El tHop),
                                            a1.snd.snd.snd.snd.snd.snd.snd.snd.snd.snd.snd.fst[Int.toNat (0 : Int)]? = some y →
                                              ifb (y.snd.fst == a1.snd.snd.snd.snd.snd.snd.snd.snd.snd.fst) (() = () ∧ (!a1.snd.snd.snd.snd.snd.snd.snd.snd.snd.snd.snd.snd.fst) = validPath a1)
                                                (() = () ∧ false = validPath a1))
                                        (() = () ∧ false = validPath a1))
                                    (() = () ∧ false = validPath a1))
                                  (() = () ∧ false = validPath a1))
                                (() = () ∧ false = validPath a1)))
                            (() = () ∧ false = validPath a1))
                          (ifb (a1.snd.snd.fst == (4 : Int))
                            (ifb (a1.snd.snd.fst == (4 : Int))
                              (ifb (a1.snd.snd.snd.snd.snd.snd.snd.snd.snd.fst != (0 : Int))
                                (ifb ((↑(List.length a1.snd.snd.snd.snd.snd.snd.snd.snd.snd.snd.snd.fst) : Int) == (1 : Int))
                                  (List.length a1.snd.snd.snd.snd.snd.snd.snd.snd.snd.snd.snd.fst ≤ (1048576 : Nat) ∧
                                    ifb (hopsOk a1.snd.snd.snd.snd.snd.snd.snd.snd.snd.snd.snd.fst false)
                                      (((0 : Int) ≤ (0 : Int) ∧ (0 : Int) < (↑(List.length a1.snd.snd.snd.snd.snd.snd.snd.snd.snd.snd.snd.fst) : Int)) ∧
                                        ∀ (y : Ty.El tHop),
                                          a1.snd.snd.snd.snd.snd.snd.snd.snd.snd.snd.snd.fst[Int.toNat (0 : Int)]? = some y →
                                            ifb (y.snd.fst == a1.snd.snd.snd.snd.snd.snd.snd.snd.snd.fst) (() = () ∧ (!a1.snd.snd.snd.snd.snd.snd.snd.snd.snd.snd.snd.snd.fst) = validPath a1)
                                              (() = () ∧ false = validPath a1))
                                      (() = () ∧ false = validPath a1))
                                  (() = () ∧ false = validPath a1))
                                (() = () ∧ false = validPath a1))
                              (ifb (decide ((↑(List.length a1.snd.snd.snd.snd.snd.snd.snd.snd.fst) : Int) > (0 : Int)))
                                (ifb (a1.snd.snd.snd.snd.snd.snd.snd.snd.snd.fst != (0 : Int))
                                  (ifb ((↑(List.length a1.snd.snd.snd.snd.snd.snd.snd.snd.snd.snd.snd.fst) : Int) == (1 : Int))
                                    (List.length a1.snd.snd.snd.snd.snd.snd.snd.snd.snd.snd.snd.fst ≤ (1048576 : Nat) ∧
                                      ifb (hopsOk a1.snd.snd.snd.snd.snd.snd.snd.snd.snd.snd.snd.fst false)
                                        (((0 : Int) ≤ (0 : Int) ∧ (0 : Int) < (↑(List.length a1.snd.snd.snd.snd.snd.snd.snd.snd.snd.snd.snd.fst) : Int)) ∧
                                          ∀ (y : Ty.El tHop),
                                            a1.snd.snd.snd.snd.snd.snd.snd.snd.snd.snd.snd.fst[Int.toNat (0 : Int)]? = some y →
                                              ifb (y.snd.fst == a1.snd.snd.snd.snd.snd.snd.snd.snd.snd.fst) (() = () ∧ (!a1.snd.snd.snd.snd.snd.snd.snd.snd.snd.snd.snd.snd.fst) = validPath a1)
                                                (() = () ∧ false = validPath a1))
                                        (() = () ∧ false = validPath a1))
                                    (() = () ∧ false = validPath a1))
                                  (() = () ∧ false = validPath a1))
                                (() = () ∧ false = validPath a1)))
                            (() = () ∧ false = validPath a1)))))))) := by
  intro a1 hp
  have hp : Rok a1 := hp
  have hF : List.length a1.snd.snd.snd.snd.snd.snd.snd.snd.snd.snd.snd.fst ≤ 1048576 := hp.2
  unfold validPath
  (repeat' (first | apply And.intro | apply ifb_intro | intro)) <;> simp_all
end Go.Ve
