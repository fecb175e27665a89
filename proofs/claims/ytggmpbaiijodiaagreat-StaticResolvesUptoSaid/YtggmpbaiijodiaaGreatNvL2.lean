/-
  law18: contracts of addr.clamp, Mask, Contains and static.Resolves.
-/
import Derived.Test.YtggmpbaiijodiaaGreatNvL1
namespace Go.Ve
open Go Go.Proofs
set_option maxRecDepth 100000

theorem clamp_bd (n : Int) : 0 ≤ clamp n ∧ clamp n ≤ 32 := by
  unfold clamp; split <;> split <;> omega

theorem vc52 : ∀ (a1 : Int), (F52 () (a1, ())).fst → () = () ∧ (if (if (32 : Int) < a1 then (32 : Int) else a1) > (0 : Int) then if (32 : Int) < a1 then (32 : Int) else a1 else (0 : Int)) = clamp a1 := by
  intro a1 _
  exact ⟨rfl, rfl⟩

theorem vc51 : ∀ (a1 : Int),
  (F51 () (a1, ())).fst →
    True ∧
      (0 : Int) ≤ IntKind.wrap IntKind.i64 ((32 : Int) - clamp a1) ∧
        () = () ∧ IntKind.wrap IntKind.u32 ((4294967295 : Int) * (2 : Int) ^ min (Int.toNat (IntKind.wrap IntKind.i64 ((32 : Int) - clamp a1))) (IntKind.bits IntKind.u32)) = mask a1 := by
  intro a1 _
  have h := clamp_bd a1
  have hw : IntKind.i64.wrap (32 - clamp a1) = 32 - clamp a1 := wrap64 (by omega) (by omega)
  rw [hw]
  exact ⟨trivial, by omega, rfl, rfl⟩

theorem vc35 : ∀ (a1 : Ty.El tU × Ty.El (Ty.st [tI])) (a2 : Int),
  (F35 () (a1, a2, ())).fst →
    True ∧
      () = () ∧ (IntKind.wrap IntKind.u32 (↑(BitVec.toNat (BitVec.ofInt (IntKind.bits IntKind.u32) a2 &&& BitVec.ofInt (IntKind.bits IntKind.u32) (mask a1.snd.fst))) : Int) == a1.fst) = contains a1 a2 := by
  intro a1 a2 _
  exact ⟨trivial, rfl, rfl⟩

theorem resolves_step (t : List Route) (own : Prefix) (a : Int) (s : Int × Int) (b : Int) (y : Route) (h : J15 t own a s) (hl : t.length ≤ 1048576) (hlt : s.2 < t.length)
    (hy : t[s.2.toNat]? = some y) (hb : b = s.1 ∨ b = s.2) (hs : resolvesGo own a t (t.drop s.2.toNat) s.2 s.1 = resolvesGo own a t (t.drop (s.2 + 1).toNat) (s.2 + 1) b) :
    J15 t own a (b, IntKind.i64.wrap (s.2 + 1)) ∧ (hd15 t own a).mes (b, IntKind.i64.wrap (s.2 + 1)) < (hd15 t own a).mes s := by
  obtain ⟨h1, h2, h3, h4⟩ := h
  have hw : IntKind.i64.wrap (s.2 + 1) = s.2 + 1 := wrap64 (by omega) (by omega)
  rw [hw]
  refine ⟨⟨by simp only; omega, by simp only; omega, by simp only; rcases hb with rfl | rfl <;> omega, by simp only; rw [← hs]; exact h4⟩, ?_⟩
  simp only [hd15]
  omega

theorem drop_at (t : List Route) (i : Int) (y : Route) (h0 : 0 ≤ i) (hy : t[i.toNat]? = some y) : t.drop i.toNat = y :: t.drop (i + 1).toNat := by
  obtain ⟨hlt, rfl⟩ := List.getElem?_eq_some_iff.1 hy
  rw [show (i + 1).toNat = i.toNat + 1 by omega]
  exact List.drop_eq_getElem_cons hlt

theorem vc15 : ∀ (a1 : List (Ty.El tRoute)) (a2 : Ty.El tU × Ty.El (Ty.st [tI])) (a3 : Int),
  (F15 () (a1, a2, a3, ())).fst →
    (a1 = a1 ∧
        a3 = a3 ∧
          True ∧
            (-1 : Int) = (-1 : Int) ∧
              a1 = a1 ∧ (↑(List.length a1) : Int) = (↑(List.length a1) : Int) ∧ (0 : Int) = (0 : Int) ∧ a2.fst = a2.fst ∧ a2.snd.fst = a2.snd.fst ∧ () = () ∧ J15 a1 a2 a3 ((-1 : Int), (0 : Int))) ∧
      ∀ (s : (hd15 (a1, a2, a3, ()).fst (a1, a2, a3, ()).snd.fst (a1, a2, a3, ()).snd.snd.fst).σ),
        (hd15 a1 a2 a3).inv s →
          ifb (decide (s.snd < (↑(List.length a1) : Int)))
            (((0 : Int) ≤ s.snd ∧ s.snd < (↑(List.length a1) : Int)) ∧
              ∀ (y : Ty.El tRoute),
                a1[Int.toNat s.snd]? = some y →
                  ifb (y.fst.fst == a2.fst && (y.fst.snd.fst == a2.snd.fst && true))
                    (a1 = a1 ∧
                      a3 = a3 ∧
                        True ∧
                          s.fst = s.fst ∧
                            a1 = a1 ∧
                              (↑(List.length a1) : Int) = (↑(List.length a1) : Int) ∧
                                IntKind.wrap IntKind.i64 (s.snd + (1 : Int)) = IntKind.wrap IntKind.i64 (s.snd + (1 : Int)) ∧
                                  a2.fst = a2.fst ∧
                                    a2.snd.fst = a2.snd.fst ∧
                                      () = () ∧
                                        J15 a1 a2 a3 (s.fst, IntKind.wrap IntKind.i64 (s.snd + (1 : Int))) ∧
                                          (hd15 a1 a2 a3).mes (s.fst, IntKind.wrap IntKind.i64 (s.snd + (1 : Int))) < (hd15 a1 a2 a3).mes s)
                    (True ∧
                      ifb (!contains (y.fst.fst, y.fst.snd.fst, ()) a3)
                        (a1 = a1 ∧
                          a3 = a3 ∧
                            True ∧
                              s.fst = s.fst ∧
                                a1 = a1 ∧
                                  (↑(List.length a1) : Int) = (↑(List.length a1) : Int) ∧
                                    IntKind.wrap IntKind.i64 (s.snd + (1 : Int)) = IntKind.wrap IntKind.i64 (s.snd + (1 : Int)) ∧
                                      a2.fst = a2.fst ∧
                                        a2.snd.fst = a2.snd.fst ∧
                                          () = () ∧
                                            J15 a1 a2 a3 (s.fst, IntKind.wrap IntKind.i64 (s.snd + (1 : Int))) ∧
                                              (hd15 a1 a2 a3).mes (s.fst, IntKind.wrap IntKind.i64 (s.snd + (1 : Int))) < (hd15 a1 a2 a3).mes s)
                        (ifb (decide (s.fst < (0 : Int)))
                          (a1 = a1 ∧
                            a3 = a3 ∧
                              True ∧
                                s.snd = s.snd ∧
                                  a1 = a1 ∧
                                    (↑(List.length a1) : Int) = (↑(List.length a1) : Int) ∧
                                      IntKind.wrap IntKind.i64 (s.snd + (1 : Int)) = IntKind.wrap IntKind.i64 (s.snd + (1 : Int)) ∧
                                        a2.fst = a2.fst ∧
                                          a2.snd.fst = a2.snd.fst ∧
                                            () = () ∧
                                              J15 a1 a2 a3 (s.snd, IntKind.wrap IntKind.i64 (s.snd + (1 : Int))) ∧
                                                (hd15 a1 a2 a3).mes (s.snd, IntKind.wrap IntKind.i64 (s.snd + (1 : Int))) < (hd15 a1 a2 a3).mes s)
                          (((0 : Int) ≤ s.fst ∧ s.fst < (↑(List.length a1) : Int)) ∧
                            ∀ (y_1 : Ty.El tRoute),
                              a1[Int.toNat s.fst]? = some y_1 →
                                ifb (decide (y.fst.snd.fst > y_1.fst.snd.fst))
                                  (a1 = a1 ∧
                                    a3 = a3 ∧
                                      True ∧
                                        s.snd = s.snd ∧
                                          a1 = a1 ∧
                                            (↑(List.length a1) : Int) = (↑(List.length a1) : Int) ∧
                                              IntKind.wrap IntKind.i64 (s.snd + (1 : Int)) = IntKind.wrap IntKind.i64 (s.snd + (1 : Int)) ∧
                                                a2.fst = a2.fst ∧
                                                  a2.snd.fst = a2.snd.fst ∧
                                                    () = () ∧
                                                      J15 a1 a2 a3 (s.snd, IntKind.wrap IntKind.i64 (s.snd + (1 : Int))) ∧
                                                        (hd15 a1 a2 a3).mes (s.snd, IntKind.wrap IntKind.i64 (s.snd + (1 : Int))) < (hd15 a1 a2 a3).mes s)
                                  (a1 = a1 ∧
                                    a3 = a3 ∧
                                      True ∧
                                        s.fst = s.fst ∧
                                          a1 = a1 ∧
                                            (↑(List.length a1) : Int) = (↑(List.length a1) : Int) ∧
                                              IntKind.wrap IntKind.i64 (s.snd + (1 : Int)) = IntKind.wrap IntKind.i64 (s.snd + (1 : Int)) ∧
                                                a2.fst = a2.fst ∧
                                                  a2.snd.fst = a2.snd.fst ∧
                                                    () = () ∧
                                                      J15 a1 a2 a3 (s.fst, IntKind.wrap IntKind.i64 (s.snd + (1 : Int))) ∧
                                                        (hd15 a1 a2 a3).mes (s.fst, IntKind.wrap IntKind.i64 (s.snd + (1 : Int))) < (hd15 a1 a2 a3).mes s)))))
            (() = () ∧ s.fst = resolves a1 a2 a3) := by
  intro a1 a2 a3 hp
  have hp : a1.length ≤ 1048576 := hp
  simp only [true_and, and_true]
  refine ⟨⟨by simp, by simp, by simp, rfl⟩, ?_⟩
  intro s h
  have h : J15 a1 a2 a3 s := h
  refine ifb_intro ?_ ?_
  · intro hlt
    have hlt : s.2 < a1.length := by simpa using hlt
    refine ⟨⟨h.lo, hlt⟩, ?_⟩
    intro y hy
    have hd := drop_at a1 s.2 y h.lo hy
    refine ifb_intro ?_ ?_
    · intro hc
      refine resolves_step a1 a2 a3 s _ y h hp hlt hy (.inl rfl) ?_
      rw [hd]; simp only [resolvesGo]; rw [if_pos]; simp at hc ⊢; exact .inl hc
    · intro hc
      refine ifb_intro ?_ ?_
      · intro hc2
        refine resolves_step a1 a2 a3 s _ y h hp hlt hy (.inl rfl) ?_
        rw [hd]; simp only [resolvesGo]; rw [if_pos]
        simp at hc2 ⊢; exact .inr hc2
      · intro hc2
        have hne : ¬ (((y.1.1 == a2.1 && (y.1.2.1 == a2.2.1)) || !contains y.1 a3) = true) := by
          simp at hc hc2 ⊢
          exact ⟨hc, hc2⟩
        refine ifb_intro ?_ ?_
        · intro hc3
          refine resolves_step a1 a2 a3 s _ y h hp hlt hy (.inr rfl) ?_
          rw [hd]; simp only [resolvesGo]; rw [if_neg hne, if_pos]
          simp at hc3 ⊢; exact .inl hc3
        · intro hc3
          have hc3 : 0 ≤ s.1 := by simpa using hc3
          have := h.lt
          refine ⟨⟨hc3, by omega⟩, ?_⟩
          intro z hz
          refine ifb_intro ?_ ?_
          · intro hc4
            refine resolves_step a1 a2 a3 s _ y h hp hlt hy (.inr rfl) ?_
            rw [hd]; simp only [resolvesGo]; rw [if_neg hne, if_pos]
            rw [hz]; simp at hc4 ⊢; exact .inr hc4
          · intro hc4
            refine resolves_step a1 a2 a3 s _ y h hp hlt hy (.inl rfl) ?_
            rw [hd]; simp only [resolvesGo]; rw [if_neg hne, if_neg]
            rw [hz]; simp at hc4 ⊢; exact ⟨hc3, hc4⟩
  · intro hlt
    have hlt : a1.length ≤ s.2 := by simpa using hlt
    have := h.eq
    rw [List.drop_eq_nil_of_le (by omega)] at this
    exact this

theorem ok52 : FnVC LF G0 (SpecsW.none U) A0 Tryz.f52 (bodyOf Tryz.f52) F52 := by
  rintro ⟨⟩ ⟨a1, ⟨⟩⟩ hp
  exact Eq.mpr (by kernel_rfl) (vc52 a1 hp)
theorem ok51 : FnVC LF G0 S1 A0 Tryz.f51 (bodyOf Tryz.f51) F51 := by
  rintro ⟨⟩ ⟨a1, ⟨⟩⟩ hp
  exact Eq.mpr (by kernel_rfl) (vc51 a1 hp)
theorem ok35 : FnVC LF G0 S2 A0 Tryz.f35 (bodyOf Tryz.f35) F35 := by
  rintro ⟨⟩ ⟨a1, a2, ⟨⟩⟩ hp
  exact Eq.mpr (by kernel_rfl) (vc35 a1 a2 hp)
theorem ok15 : FnVC LF G0 S3 A15 Tryz.f15 (bodyOf Tryz.f15) F15 := by
  rintro ⟨⟩ ⟨a1, a2, a3, ⟨⟩⟩ hp
  exact Eq.mpr (by kernel_rfl) (vc15 a1 a2 a3 hp)
end Go.Ve
