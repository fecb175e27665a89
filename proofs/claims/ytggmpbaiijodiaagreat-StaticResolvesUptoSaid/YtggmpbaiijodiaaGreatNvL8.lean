/-
  law18: contracts of Valid, Table, the reference's Resolves, the law StaticResolves.
-/
import Derived.Test.YtggmpbaiijodiaaGreatNvL6
import Derived.Test.YtggmpbaiijodiaaGreatNvL7
namespace Go.Ve
open Go Go.Proofs
set_option maxRecDepth 100000

theorem table_next (l : List Route) (p : Int) (s : Int) (h : J8_2 l p s) (hl : l.length ≤ 1048576) (hlt : s < l.length) (hs : tableGo p l (l.drop s.toNat) s = tableGo p l (l.drop (s + 1).toNat) (s + 1)) :
    J8_2 l p (IntKind.wrap IntKind.i64 (s + 1)) ∧ M8_2 l p (IntKind.wrap IntKind.i64 (s + 1)) < M8_2 l p s := by
  obtain ⟨h1, h2, h3⟩ := h
  have hw : IntKind.i64.wrap (s + 1) = s + 1 := wrap64 (by omega) (by omega)
  rw [hw]
  refine ⟨⟨by omega, by omega, by rw [← hs]; exact h3⟩, ?_⟩
  simp only [M8_2]; omega

theorem vc8 : ∀ (a1 : Ty.El (Ty.sl tRoute)) (a2 : Ty.El tI),
  (F8 () (a1, a2, ())).fst →
    (a1 = a1 ∧ a2 = a2 ∧ (0 : Int) = (0 : Int) ∧ () = () ∧ J8_2 a1 a2 (0 : Int)) ∧
      ∀ (s : Int),
        J8_2 a1 a2 s →
          ifb (decide (s < (↑(List.length a1) : Int)))
            (((0 : Int) ≤ s ∧ s < (↑(List.length a1) : Int)) ∧
              ∀ (y : Ty.El tRoute),
                a1[Int.toNat s]? = some y →
                  (List.length (Route.path y) ≤ (1048576 : Nat) ∧ List.length (Route.hops y) ≤ (1048576 : Nat)) ∧
                    ifb (!validR y) (() = () ∧ false = tableOk a1 a2)
                      (ifb (a2 != (0 : Int))
                        (((0 : Int) ≤ s ∧ s < (↑(List.length a1) : Int)) ∧
                          ∀ (y : Ty.El tRoute),
                            a1[Int.toNat s]? = some y →
                              ifb (y.snd.fst != a2) (() = () ∧ false = tableOk a1 a2)
                                (ifb (decide (s > (0 : Int)))
                                  (((0 : Int) ≤ IntKind.wrap IntKind.i64 (s - (1 : Int)) ∧ IntKind.wrap IntKind.i64 (s - (1 : Int)) < (↑(List.length a1) : Int)) ∧
                                    ∀ (y : Ty.El tRoute),
                                      a1[Int.toNat (IntKind.wrap IntKind.i64 (s - (1 : Int)))]? = some y →
                                        ((0 : Int) ≤ s ∧ s < (↑(List.length a1) : Int)) ∧
                                          ∀ (y_1 : Ty.El tRoute),
                                            a1[Int.toNat s]? = some y_1 →
                                              True ∧
                                                ifb (decide (cmpP y.fst y_1.fst ≥ (0 : Int))) (() = () ∧ false = tableOk a1 a2)
                                                  (a1 = a1 ∧
                                                    a2 = a2 ∧
                                                      IntKind.wrap IntKind.i64 (s + (1 : Int)) = IntKind.wrap IntKind.i64 (s + (1 : Int)) ∧
                                                        () = () ∧ J8_2 a1 a2 (IntKind.wrap IntKind.i64 (s + (1 : Int))) ∧ M8_2 a1 a2 (IntKind.wrap IntKind.i64 (s + (1 : Int))) < M8_2 a1 a2 s))
                                  (a1 = a1 ∧
                                    a2 = a2 ∧
                                      IntKind.wrap IntKind.i64 (s + (1 : Int)) = IntKind.wrap IntKind.i64 (s + (1 : Int)) ∧
                                        () = () ∧ J8_2 a1 a2 (IntKind.wrap IntKind.i64 (s + (1 : Int))) ∧ M8_2 a1 a2 (IntKind.wrap IntKind.i64 (s + (1 : Int))) < M8_2 a1 a2 s)))
                        (ifb (decide (s > (0 : Int)))
                          (((0 : Int) ≤ IntKind.wrap IntKind.i64 (s - (1 : Int)) ∧ IntKind.wrap IntKind.i64 (s - (1 : Int)) < (↑(List.length a1) : Int)) ∧
                            ∀ (y : Ty.El tRoute),
                              a1[Int.toNat (IntKind.wrap IntKind.i64 (s - (1 : Int)))]? = some y →
                                ((0 : Int) ≤ s ∧ s < (↑(List.length a1) : Int)) ∧
                                  ∀ (y_1 : Ty.El tRoute),
                                    a1[Int.toNat s]? = some y_1 →
                                      True ∧
                                        ifb (decide (cmpP y.fst y_1.fst ≥ (0 : Int))) (() = () ∧ false = tableOk a1 a2)
                                          (a1 = a1 ∧
                                            a2 = a2 ∧
                                              IntKind.wrap IntKind.i64 (s + (1 : Int)) = IntKind.wrap IntKind.i64 (s + (1 : Int)) ∧
                                                () = () ∧ J8_2 a1 a2 (IntKind.wrap IntKind.i64 (s + (1 : Int))) ∧ M8_2 a1 a2 (IntKind.wrap IntKind.i64 (s + (1 : Int))) < M8_2 a1 a2 s))
                          (a1 = a1 ∧
                            a2 = a2 ∧
                              IntKind.wrap IntKind.i64 (s + (1 : Int)) = IntKind.wrap IntKind.i64 (s + (1 : Int)) ∧
                                () = () ∧ J8_2 a1 a2 (IntKind.wrap IntKind.i64 (s + (1 : Int))) ∧ M8_2 a1 a2 (IntKind.wrap IntKind.i64 (s + (1 : Int))) < M8_2 a1 a2 s))))
            (() = () ∧ true = tableOk a1 a2) := by
  intro a1 a2 hp
  obtain ⟨hp, hR⟩ : List.length a1 ≤ 1048576 ∧ (∀ y ∈ a1, Rok y) := hp
  simp only [true_and, and_true]
  refine ⟨⟨by omega, by omega, rfl⟩, ?_⟩
  intro s h
  obtain ⟨h1, h2, h3⟩ := id h
  refine ifb_intro (fun hlt => ?_) (fun hlt => ?_)
  · have hlt : s < List.length a1 := by simpa using hlt
    refine ⟨⟨h1, hlt⟩, fun y hy => ⟨hR y (List.mem_of_getElem? hy), ?_⟩⟩
    have hd := drop_get a1 s y h1 hy
    have hfail : ((!validR y || (a2 != 0 && Route.proto y != a2) || (decide (s > 0) && decide (cmpP (Route.pre ((a1[(s - 1).toNat]?).getD y)) (Route.pre y) ≥ 0))) = true) → false = tableOk a1 a2 := by
      intro hc; rw [← h3, hd]; simp only [tableGo]; rw [if_pos hc]
    have hok : ((!validR y || (a2 != 0 && Route.proto y != a2) || (decide (s > 0) && decide (cmpP (Route.pre ((a1[(s - 1).toNat]?).getD y)) (Route.pre y) ≥ 0))) = false) →
        J8_2 a1 a2 (IntKind.wrap IntKind.i64 (s + 1)) ∧ M8_2 a1 a2 (IntKind.wrap IntKind.i64 (s + 1)) < M8_2 a1 a2 s := by
      intro hc
      refine table_next a1 a2 s h hp hlt ?_
      rw [hd]; simp only [tableGo]; rw [if_neg (by rw [hc]; simp)]
    have hback : ∀ (c1 : (!validR y) = false) (c2 : (a2 != 0 && Route.proto y != a2) = false), ifb (decide (s > (0 : Int)))
          (((0 : Int) ≤ IntKind.wrap IntKind.i64 (s - (1 : Int)) ∧ IntKind.wrap IntKind.i64 (s - (1 : Int)) < (↑(List.length a1) : Int)) ∧
            ∀ (y : Ty.El tRoute), a1[Int.toNat (IntKind.wrap IntKind.i64 (s - (1 : Int)))]? = some y →
              ((0 : Int) ≤ s ∧ s < (↑(List.length a1) : Int)) ∧ ∀ (y_1 : Ty.El tRoute), a1[Int.toNat s]? = some y_1 →
                ifb (decide (cmpP y.fst y_1.fst ≥ (0 : Int))) (false = tableOk a1 a2)
                  (J8_2 a1 a2 (IntKind.wrap IntKind.i64 (s + (1 : Int))) ∧ M8_2 a1 a2 (IntKind.wrap IntKind.i64 (s + (1 : Int))) < M8_2 a1 a2 s))
          (J8_2 a1 a2 (IntKind.wrap IntKind.i64 (s + (1 : Int))) ∧ M8_2 a1 a2 (IntKind.wrap IntKind.i64 (s + (1 : Int))) < M8_2 a1 a2 s) := by
      intro c1 c2
      refine ifb_intro (fun c3 => ?_) (fun c3 => ?_)
      · have c3' : 0 < s := by simpa using c3
        have hw : IntKind.i64.wrap (s - 1) = s - 1 := wrap64 (by omega) (by omega)
        rw [hw]
        refine ⟨⟨by omega, by omega⟩, fun z hz => ⟨⟨h1, hlt⟩, fun y' hy' => ?_⟩⟩
        rw [hy] at hy'; simp only [Option.some.injEq] at hy'; subst hy'
        refine ifb_intro (fun c4 => hfail ?_) (fun c4 => hok ?_)
        · rw [hz, Option.getD_some, c1, c2, c3, c4]; rfl
        · rw [hz, Option.getD_some, c1, c2, c3, c4]; rfl
      · exact hok (by rw [c1, c2, c3]; rfl)
    refine ifb_intro (fun c1 => hfail (by rw [c1]; rfl)) (fun c1 => ?_)
    refine ifb_intro (fun c2 => ⟨⟨h1, hlt⟩, fun y' hy' => ?_⟩) (fun c2 => hback c1 (by rw [c2]; rfl))
    rw [hy] at hy'; simp only [Option.some.injEq] at hy'; subst hy'
    refine ifb_intro (fun c3 => hfail ?_) (fun c3 => hback c1 ?_)
    · rw [c1, c2, show (Route.proto y != a2) = true from c3]; rfl
    · rw [c2, show (Route.proto y != a2) = false from c3]; rfl
  · have hlt : List.length a1 ≤ s := by simpa using hlt
    rw [List.drop_eq_nil_of_le (by omega)] at h3
    exact h3

theorem vc16 : ∀ (a1 : Ty.El (Ty.sl tRoute)) (a2 : Ty.El tPrefix) (a3 : Ty.El tU),
  (F15 () (a1, a2, a3, ())).fst →
    (a1 = a1 ∧ a3 = a3 ∧ True ∧ (-1 : Int) = (-1 : Int) ∧ (0 : Int) = (0 : Int) ∧ a2.fst = a2.fst ∧ a2.snd.fst = a2.snd.fst ∧ () = () ∧ J15 a1 a2 a3 ((-1 : Int), (0 : Int))) ∧
      ∀ (s : Int × Int),
        J15 a1 a2 a3 s →
          ifb (decide (s.snd < (↑(List.length a1) : Int)))
            (((0 : Int) ≤ s.snd ∧ s.snd < (↑(List.length a1) : Int)) ∧
              ∀ (y : Ty.El tRoute),
                a1[Int.toNat s.snd]? = some y →
                  ifb (!(y.fst.fst == a2.fst && (y.fst.snd.fst == a2.snd.fst && true)))
                    (((0 : Int) ≤ s.snd ∧ s.snd < (↑(List.length a1) : Int)) ∧
                      ∀ (y : Ty.El tRoute),
                        a1[Int.toNat s.snd]? = some y →
                          True ∧
                            ifb (contains y.fst a3)
                              (ifb (decide (s.fst < (0 : Int)))
                                (a1 = a1 ∧
                                  a3 = a3 ∧
                                    True ∧
                                      s.snd = s.snd ∧
                                        IntKind.wrap IntKind.i64 (s.snd + (1 : Int)) = IntKind.wrap IntKind.i64 (s.snd + (1 : Int)) ∧
                                          a2.fst = a2.fst ∧
                                            a2.snd.fst = a2.snd.fst ∧
                                              () = () ∧
                                                J15 a1 a2 a3 (s.snd, IntKind.wrap IntKind.i64 (s.snd + (1 : Int))) ∧
                                                  M16_3 a1 a2 a3 (s.snd, IntKind.wrap IntKind.i64 (s.snd + (1 : Int))) < M16_3 a1 a2 a3 s)
                                (((0 : Int) ≤ s.snd ∧ s.snd < (↑(List.length a1) : Int)) ∧
                                  ∀ (y : Ty.El tRoute),
                                    a1[Int.toNat s.snd]? = some y →
                                      ((0 : Int) ≤ s.fst ∧ s.fst < (↑(List.length a1) : Int)) ∧
                                        ∀ (y_1 : Ty.El tRoute),
                                          a1[Int.toNat s.fst]? = some y_1 →
                                            ifb (decide (y.fst.snd.fst > y_1.fst.snd.fst))
                                              (a1 = a1 ∧
                                                a3 = a3 ∧
                                                  True ∧
                                                    s.snd = s.snd ∧
                                                      IntKind.wrap IntKind.i64 (s.snd + (1 : Int)) = IntKind.wrap IntKind.i64 (s.snd + (1 : Int)) ∧
                                                        a2.fst = a2.fst ∧
                                                          a2.snd.fst = a2.snd.fst ∧
                                                            () = () ∧
                                                              J15 a1 a2 a3 (s.snd, IntKind.wrap IntKind.i64 (s.snd + (1 : Int))) ∧
                                                                M16_3 a1 a2 a3 (s.snd, IntKind.wrap IntKind.i64 (s.snd + (1 : Int))) < M16_3 a1 a2 a3 s)
                                              (a1 = a1 ∧
                                                a3 = a3 ∧
                                                  True ∧
                                                    s.fst = s.fst ∧
                                                      IntKind.wrap IntKind.i64 (s.snd + (1 : Int)) = IntKind.wrap IntKind.i64 (s.snd + (1 : Int)) ∧
                                                        a2.fst = a2.fst ∧
                                                          a2.snd.fst = a2.snd.fst ∧
                                                            () = () ∧
                                                              J15 a1 a2 a3 (s.fst, IntKind.wrap IntKind.i64 (s.snd + (1 : Int))) ∧
                                                                M16_3 a1 a2 a3 (s.fst, IntKind.wrap IntKind.i64 (s.snd + (1 : Int))) < M16_3 a1 a2 a3 s)))
                              (a1 = a1 ∧
                                a3 = a3 ∧
                                  True ∧
                                    s.fst = s.fst ∧
                                      IntKind.wrap IntKind.i64 (s.snd + (1 : Int)) = IntKind.wrap IntKind.i64 (s.snd + (1 : Int)) ∧
                                        a2.fst = a2.fst ∧
                                          a2.snd.fst = a2.snd.fst ∧
                                            () = () ∧
                                              J15 a1 a2 a3 (s.fst, IntKind.wrap IntKind.i64 (s.snd + (1 : Int))) ∧
                                                M16_3 a1 a2 a3 (s.fst, IntKind.wrap IntKind.i64 (s.snd + (1 : Int))) < M16_3 a1 a2 a3 s))
                    (a1 = a1 ∧
                      a3 = a3 ∧
                        True ∧
                          s.fst = s.fst ∧
                            IntKind.wrap IntKind.i64 (s.snd + (1 : Int)) = IntKind.wrap IntKind.i64 (s.snd + (1 : Int)) ∧
                              a2.fst = a2.fst ∧
                                a2.snd.fst = a2.snd.fst ∧
                                  () = () ∧
                                    J15 a1 a2 a3 (s.fst, IntKind.wrap IntKind.i64 (s.snd + (1 : Int))) ∧ M16_3 a1 a2 a3 (s.fst, IntKind.wrap IntKind.i64 (s.snd + (1 : Int))) < M16_3 a1 a2 a3 s))
            (() = () ∧ s.fst = resolves a1 a2 a3) := by
  intro a1 a2 a3 hp
  have hp : List.length a1 ≤ 1048576 := hp
  simp only [true_and, and_true]
  refine ⟨⟨by simp, by simp, by simp, rfl⟩, ?_⟩
  intro s h
  have hnext : ∀ b y, a1[s.2.toNat]? = some y → s.2 < List.length a1 → (b = s.1 ∨ b = s.2) → resolvesGo a2 a3 a1 (List.drop s.2.toNat a1) s.2 s.1 = resolvesGo a2 a3 a1 (List.drop (s.2 + 1).toNat a1) (s.2 + 1) b →
      J15 a1 a2 a3 (b, IntKind.wrap IntKind.i64 (s.2 + 1)) ∧ M16_3 a1 a2 a3 (b, IntKind.wrap IntKind.i64 (s.2 + 1)) < M16_3 a1 a2 a3 s := by
    intro b y hy hlt hb hs
    exact resolves_step a1 a2 a3 s b y h hp hlt hy hb hs
  refine ifb_intro ?_ ?_
  · intro hlt
    have hlt : s.2 < List.length a1 := by simpa using hlt
    refine ⟨⟨h.lo, hlt⟩, ?_⟩
    intro y hy
    have hd := drop_at a1 s.2 y h.lo hy
    have hsame : ∀ (P : Ty.El tRoute → Prop), P y → ∀ y', a1[s.2.toNat]? = some y' → P y' := by
      intro P h y' hy'; rw [hy] at hy'; simp only [Option.some.injEq] at hy'; subst hy'; exact h
    have hstay : ((y.1.1 == a2.1 && (y.1.2.1 == a2.2.1)) || !contains y.1 a3) = true → J15 a1 a2 a3 (s.1, IntKind.wrap IntKind.i64 (s.2 + 1)) ∧ M16_3 a1 a2 a3 (s.1, IntKind.wrap IntKind.i64 (s.2 + 1)) < M16_3 a1 a2 a3 s := by
      intro hc
      refine hnext s.1 y hy hlt (.inl rfl) ?_
      rw [hd]; simp only [resolvesGo]; rw [if_pos hc]
    refine ifb_intro ?_ ?_
    · intro hc
      refine ⟨⟨h.lo, hlt⟩, hsame _ ?_⟩
      refine ifb_intro ?_ ?_
      · intro hc2
        have hne : ¬ (((y.1.1 == a2.1 && (y.1.2.1 == a2.2.1)) || !contains y.1 a3) = true) := by
          simp only [Bool.and_true, Bool.not_eq_true'] at hc
          rw [hc]; simp at hc2 ⊢; exact hc2
        refine ifb_intro ?_ ?_
        · intro hc3
          refine hnext s.2 y hy hlt (.inr rfl) ?_
          rw [hd]; simp only [resolvesGo]; rw [if_neg hne, if_pos]
          simp at hc3 ⊢; exact .inl hc3
        · intro hc3
          have hc3 : 0 ≤ s.1 := by simpa using hc3
          have := h.lt
          refine ⟨⟨h.lo, hlt⟩, hsame _ ⟨⟨hc3, by omega⟩, ?_⟩⟩
          intro z hz
          refine ifb_intro ?_ ?_
          · intro hc4
            refine hnext s.2 y hy hlt (.inr rfl) ?_
            rw [hd]; simp only [resolvesGo]; rw [if_neg hne, if_pos]
            rw [hz]; simp at hc4 ⊢; exact .inr hc4
          · intro hc4
            refine hnext s.1 y hy hlt (.inl rfl) ?_
            rw [hd]; simp only [resolvesGo]; rw [if_neg hne, if_neg]
            rw [hz]; simp at hc4 ⊢; exact ⟨hc3, hc4⟩
      · intro hc2
        exact hstay (by simp at hc2 ⊢; exact .inr hc2)
    · intro hc
      exact hstay (by simp only [Bool.and_true, Bool.not_eq_false'] at hc; rw [hc]; rfl)
  · intro hlt
    have hlt : List.length a1 ≤ s.2 := by simpa using hlt
    have := h.eq
    rw [List.drop_eq_nil_of_le (by omega)] at this
    exact this

/-- The index is that of a route with another prefix that contains the address. -/
theorem resolves_ok (own : Prefix) (a : Int) (t : List Route) : ∀ (l : List Route) (i best : Int), 0 ≤ i → t.drop i.toNat = l →
    (0 ≤ best → ∃ y, t[best.toNat]? = some y ∧ (y.1.1 == own.1 && (y.1.2.1 == own.2.1)) = false ∧ contains y.1 a = true) →
    0 ≤ resolvesGo own a t l i best → ∃ y, t[(resolvesGo own a t l i best).toNat]? = some y ∧ (y.1.1 == own.1 && (y.1.2.1 == own.2.1)) = false ∧ contains y.1 a = true := by
  intro l
  induction l with
  | nil => intro i best _ _ hb h; exact hb h
  | cons x r ih =>
    intro i best hi hd hb h
    have hx : t[i.toNat]? = some x := by
      have : (t.drop i.toNat)[0]? = some x := by rw [hd]; rfl
      simpa using this
    have hr : t.drop (i + 1).toNat = r := by
      rw [show (i + 1).toNat = i.toNat + 1 by omega, ← List.tail_drop, hd]; rfl
    simp only [resolvesGo] at h ⊢
    by_cases c1 : ((x.1.1 == own.1 && (x.1.2.1 == own.2.1)) || !contains x.1 a) = true
    · rw [if_pos c1] at h ⊢
      exact ih (i + 1) best (by omega) hr hb h
    · rw [if_neg c1] at h ⊢
      split at h
      · rename_i c2
        rw [if_pos c2]
        refine ih (i + 1) i (by omega) hr (fun _ => ⟨x, hx, ?_⟩) h
        simp only [Bool.not_eq_true, Bool.or_eq_false_iff] at c1
        exact ⟨c1.1, by simpa using c1.2⟩
      · rename_i c2
        rw [if_neg c2]
        exact ih (i + 1) best (by omega) hr hb h

theorem vc4 : ∀ (a1 : Ty.El (Ty.sl tRoute)) (a2 : Ty.El tPrefix) (a3 : Ty.El tU),
  (F4 () (a1, a2, a3, ())).fst →
    ifb (decide ((↑(List.length a1) : Int) > (30 : Int))) (() = () ∧ true = true)
      ((List.length a1 ≤ (1048576 : Nat) ∧ ∀ (y : Ty.El tRoute), y ∈ a1 → List.length (Route.path y) ≤ (1048576 : Nat) ∧ List.length (Route.hops y) ≤ (1048576 : Nat)) ∧
        ifb (!tableOk a1 (0 : Int)) (() = () ∧ true = true)
          (List.length a1 ≤ (1048576 : Nat) ∧
            List.length a1 ≤ (1048576 : Nat) ∧
              ifb (resolves a1 a2 a3 != resolves a1 a2 a3) (() = () ∧ false = true)
                (ifb (decide (resolves a1 a2 a3 < (0 : Int))) (True ∧ () = () ∧ true = true)
                  (ifb (decide (resolves a1 a2 a3 < (↑(List.length a1) : Int)))
                    (((0 : Int) ≤ resolves a1 a2 a3 ∧ resolves a1 a2 a3 < (↑(List.length a1) : Int)) ∧
                      ∀ (y : Ty.El tRoute),
                        a1[Int.toNat (resolves a1 a2 a3)]? = some y →
                          ifb (!(y.fst.fst == a2.fst && (y.fst.snd.fst == a2.snd.fst && true)))
                            (((0 : Int) ≤ resolves a1 a2 a3 ∧ resolves a1 a2 a3 < (↑(List.length a1) : Int)) ∧
                              ∀ (y : Ty.El tRoute), a1[Int.toNat (resolves a1 a2 a3)]? = some y → True ∧ ifb (contains y.fst a3) (True ∧ () = () ∧ true = true) (() = () ∧ false = true))
                            (() = () ∧ false = true))
                    (() = () ∧ false = true))))) := by
  intro a1 a2 a3 hp
  obtain ⟨hp, hR⟩ : List.length a1 ≤ 1048576 ∧ (∀ y ∈ a1, Rok y) := hp
  have hok := resolves_ok a2 a3 a1 a1 0 (-1) (by omega) rfl (fun h => by omega)
  have hok : 0 ≤ resolves a1 a2 a3 → _ := hok
  refine ifb_intro (fun _ => ⟨rfl, rfl⟩) (fun _ => ⟨⟨hp, hR⟩, ?_⟩)
  refine ifb_intro (fun _ => ⟨rfl, rfl⟩) (fun _ => ⟨hp, hp, ?_⟩)
  refine ifb_intro (fun h => by simp at h) (fun _ => ?_)
  refine ifb_intro (fun _ => ⟨trivial, rfl, rfl⟩) (fun h0 => ?_)
  have h0 : 0 ≤ resolves a1 a2 a3 := by simpa using h0
  obtain ⟨y, hy, hy1, hy2⟩ := hok h0
  have hy : a1[(resolves a1 a2 a3).toNat]? = some y := hy
  have hlt : (resolves a1 a2 a3).toNat < List.length a1 := (List.getElem?_eq_some_iff.1 hy).1
  have hsame : ∀ (P : Ty.El tRoute → Prop), P y → ∀ y', a1[(resolves a1 a2 a3).toNat]? = some y' → P y' := by
    intro P h y' hy'; rw [hy] at hy'; simp only [Option.some.injEq] at hy'; subst hy'; exact h
  refine ifb_intro (fun _ => ⟨⟨h0, by omega⟩, hsame _ ?_⟩) (fun h => by simp at h; omega)
  refine ifb_intro (fun _ => ⟨⟨h0, by omega⟩, hsame _ ⟨trivial, ?_⟩⟩) (fun h => ?_)
  · exact ifb_intro (fun _ => ⟨trivial, rfl, rfl⟩) (fun h => by rw [hy2] at h; cases h)
  · rw [Bool.and_true, hy1] at h; cases h
end Go.Ve
