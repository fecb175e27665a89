/-
  law18: contracts of the reference's functions on prefixes, numbers and hops.
-/
import Derived.Test.YtggmpbaiijodiaaGreatNvL3
namespace Go.Ve
open Go Go.Proofs
set_option maxRecDepth 100000

theorem mask_eq (n : Int) : mask n = maskI (clamp n) := by
  have h := clamp_bd n
  unfold mask maskI
  generalize clamp n = k at h
  obtain ⟨h1, h2⟩ := h
  have hk : k = 0 ∨ k = 1 ∨ k = 2 ∨ k = 3 ∨ k = 4 ∨ k = 5 ∨ k = 6 ∨ k = 7 ∨ k = 8 ∨ k = 9 ∨ k = 10 ∨ k = 11 ∨ k = 12 ∨ k = 13 ∨ k = 14 ∨ k = 15 ∨ k = 16 ∨ k = 17 ∨ k = 18 ∨ k = 19 ∨ k = 20 ∨ k = 21 ∨ k = 22 ∨ k = 23 ∨ k = 24 ∨ k = 25 ∨ k = 26 ∨ k = 27 ∨ k = 28 ∨ k = 29 ∨ k = 30 ∨ k = 31 ∨ k = 32 := by omega
  rcases hk with rfl | rfl | rfl | rfl | rfl | rfl | rfl | rfl | rfl | rfl | rfl | rfl | rfl | rfl | rfl | rfl | rfl | rfl | rfl | rfl | rfl | rfl | rfl | rfl | rfl | rfl | rfl | rfl | rfl | rfl | rfl | rfl | rfl <;> rfl

theorem mask_or (k : Int) (h1 : 0 ≤ k) (h2 : k < 32) :
    0 ≤ IntKind.wrap IntKind.u64 (IntKind.wrap IntKind.i64 (31 - k)) ∧
    IntKind.wrap IntKind.u32 ((BitVec.toNat (BitVec.ofInt 32 (maskI k) ||| BitVec.ofInt 32 (IntKind.wrap IntKind.u32 (1 * 2 ^ min (Int.toNat (IntKind.wrap IntKind.u64 (IntKind.wrap IntKind.i64 (31 - k)))) 32)))) : Int) = maskI (k + 1) := by
  have hk : k = 0 ∨ k = 1 ∨ k = 2 ∨ k = 3 ∨ k = 4 ∨ k = 5 ∨ k = 6 ∨ k = 7 ∨ k = 8 ∨ k = 9 ∨ k = 10 ∨ k = 11 ∨ k = 12 ∨ k = 13 ∨ k = 14 ∨ k = 15 ∨ k = 16 ∨ k = 17 ∨ k = 18 ∨ k = 19 ∨ k = 20 ∨ k = 21 ∨ k = 22 ∨ k = 23 ∨ k = 24 ∨ k = 25 ∨ k = 26 ∨ k = 27 ∨ k = 28 ∨ k = 29 ∨ k = 30 ∨ k = 31 := by omega
  rcases hk with rfl | rfl | rfl | rfl | rfl | rfl | rfl | rfl | rfl | rfl | rfl | rfl | rfl | rfl | rfl | rfl | rfl | rfl | rfl | rfl | rfl | rfl | rfl | rfl | rfl | rfl | rfl | rfl | rfl | rfl | rfl | rfl <;> exact ⟨by decide, by kernel_rfl⟩

theorem clamp_eq (n : Int) : clamp n = if n < 0 then 0 else if 32 < n then 32 else n := by
  unfold clamp; split <;> split <;> split <;> omega

theorem vc36 : ∀ (a1 : Int),
  (F36 () (a1, ())).fst →
    (a1 = a1 ∧ (0 : Int) = (0 : Int) ∧ (0 : Int) = (0 : Int) ∧ () = () ∧ J36_3 a1 ((0 : Int), (0 : Int))) ∧
      ∀ (s : (hd36_3 (a1, ()).fst).σ),
        (hd36_3 a1).inv s →
          ifb (decide (s.snd < (32 : Int)))
            (ifb (decide (s.snd < a1))
              ((0 : Int) ≤ IntKind.wrap IntKind.u64 (IntKind.wrap IntKind.i64 ((31 : Int) - s.snd)) ∧
                a1 = a1 ∧
                  IntKind.wrap IntKind.u32
                        (↑(BitVec.toNat
                              (BitVec.ofInt (IntKind.bits IntKind.u32) s.fst |||
                                BitVec.ofInt (IntKind.bits IntKind.u32)
                                  (IntKind.wrap IntKind.u32
                                    ((1 : Int) * (2 : Int) ^ min (Int.toNat (IntKind.wrap IntKind.u64 (IntKind.wrap IntKind.i64 ((31 : Int) - s.snd)))) (IntKind.bits IntKind.u32))))) :
                          Int) =
                      IntKind.wrap IntKind.u32
                        (↑(BitVec.toNat
                              (BitVec.ofInt (IntKind.bits IntKind.u32) s.fst |||
                                BitVec.ofInt (IntKind.bits IntKind.u32)
                                  (IntKind.wrap IntKind.u32
                                    ((1 : Int) * (2 : Int) ^ min (Int.toNat (IntKind.wrap IntKind.u64 (IntKind.wrap IntKind.i64 ((31 : Int) - s.snd)))) (IntKind.bits IntKind.u32))))) :
                          Int) ∧
                    IntKind.wrap IntKind.i64 (s.snd + (1 : Int)) = IntKind.wrap IntKind.i64 (s.snd + (1 : Int)) ∧
                      () = () ∧
                        J36_3 a1
                            (IntKind.wrap IntKind.u32
                                (↑(BitVec.toNat
                                      (BitVec.ofInt (IntKind.bits IntKind.u32) s.fst |||
                                        BitVec.ofInt (IntKind.bits IntKind.u32)
                                          (IntKind.wrap IntKind.u32
                                            ((1 : Int) * (2 : Int) ^ min (Int.toNat (IntKind.wrap IntKind.u64 (IntKind.wrap IntKind.i64 ((31 : Int) - s.snd)))) (IntKind.bits IntKind.u32))))) :
                                  Int),
                              IntKind.wrap IntKind.i64 (s.snd + (1 : Int))) ∧
                          (hd36_3 a1).mes
                              (IntKind.wrap IntKind.u32
                                  (↑(BitVec.toNat
                                        (BitVec.ofInt (IntKind.bits IntKind.u32) s.fst |||
                                          BitVec.ofInt (IntKind.bits IntKind.u32)
                                            (IntKind.wrap IntKind.u32
                                              ((1 : Int) * (2 : Int) ^ min (Int.toNat (IntKind.wrap IntKind.u64 (IntKind.wrap IntKind.i64 ((31 : Int) - s.snd)))) (IntKind.bits IntKind.u32))))) :
                                    Int),
                                IntKind.wrap IntKind.i64 (s.snd + (1 : Int))) <
                            (hd36_3 a1).mes s)
              (a1 = a1 ∧
                s.fst = s.fst ∧
                  IntKind.wrap IntKind.i64 (s.snd + (1 : Int)) = IntKind.wrap IntKind.i64 (s.snd + (1 : Int)) ∧
                    () = () ∧ J36_3 a1 (s.fst, IntKind.wrap IntKind.i64 (s.snd + (1 : Int))) ∧ (hd36_3 a1).mes (s.fst, IntKind.wrap IntKind.i64 (s.snd + (1 : Int))) < (hd36_3 a1).mes s))
            (() = () ∧ s.fst = mask a1) := by
  intro a1 _
  simp only [true_and, and_true]
  have hb := clamp_bd a1
  have hcl := clamp_eq a1
  refine ⟨⟨by simp, by simp, ?_⟩, ?_⟩
  · have : (if clamp a1 < 0 then clamp a1 else 0) = 0 := by rw [if_neg (by omega)]
    simp only [this]; rfl
  · intro s h
    have h : J36_3 a1 s := h
    obtain ⟨h1, h2, h3⟩ := h
    refine ifb_intro (fun hlt => ?_) (fun hlt => ?_)
    · have hlt : s.2 < 32 := by simpa using hlt
      have hw : IntKind.i64.wrap (s.2 + 1) = s.2 + 1 := wrap64 (by omega) (by omega)
      rw [hw]
      refine ifb_intro (fun hc => ?_) (fun hc => ?_)
      · have hc : s.2 < a1 := by simpa using hc
        have hge : s.2 + 1 ≤ clamp a1 := by rw [hcl]; split <;> (try split) <;> omega
        have hs : s.1 = maskI s.2 := by rw [h3, if_neg (by omega)]
        obtain ⟨m1, m2⟩ := mask_or s.2 h1 hlt
        have m2' : IntKind.wrap IntKind.u32 ((BitVec.toNat (BitVec.ofInt (IntKind.bits IntKind.u32) s.1 ||| BitVec.ofInt (IntKind.bits IntKind.u32) (IntKind.wrap IntKind.u32 (1 * 2 ^ min (Int.toNat (IntKind.wrap IntKind.u64 (IntKind.wrap IntKind.i64 (31 - s.2)))) (IntKind.bits IntKind.u32))))) : Int) = maskI (s.2 + 1) := by
          rw [hs]; exact m2
        rw [m2']
        refine ⟨m1, ⟨by simp only; omega, by simp only; omega, ?_⟩, ?_⟩
        · simp only; rw [if_neg (by omega)]
        · simp only [hd36_3, M36_3]; omega
      · have hc : a1 ≤ s.2 := by simpa using hc
        have hle : clamp a1 ≤ s.2 := by rw [hcl]; split <;> (try split) <;> omega
        refine ⟨⟨by simp only; omega, by simp only; omega, ?_⟩, ?_⟩
        · simp only; rw [h3, if_pos (show clamp a1 < s.2 + 1 by omega)]
          split
          · rfl
          · congr 1; omega
        · simp only [hd36_3, M36_3]; omega
    · have hlt : 32 ≤ s.2 := by simpa using hlt
      rw [h3, mask_eq]
      split
      · rfl
      · congr 1; omega

theorem vc37 : ∀ (a1 : Ty.El tU × Ty.El (Ty.st [tI])),
  (F37 () (a1, ())).fst →
    ifb (decide (a1.snd.fst ≥ (0 : Int)))
      (ifb (decide (a1.snd.fst ≤ (32 : Int)))
        (True ∧
          () = () ∧
            (IntKind.wrap IntKind.u32 (↑(BitVec.toNat (BitVec.ofInt (IntKind.bits IntKind.u32) a1.fst &&& ~~~BitVec.ofInt (IntKind.bits IntKind.u32) (mask a1.snd.fst))) : Int) == (0 : Int)) =
              pvalid a1)
        (() = () ∧ false = pvalid a1))
      (() = () ∧ false = pvalid a1) := by
  intro a1 _
  refine ifb_intro (fun h1 => ifb_intro (fun h2 => ⟨trivial, rfl, ?_⟩) (fun h2 => ⟨rfl, ?_⟩)) (fun h1 => ⟨rfl, ?_⟩)
  · simp only [pvalid, h1, h2, Bool.true_and]; rfl
  · simp only [pvalid, h1, h2, Bool.and_false, Bool.false_and]
  · simp only [pvalid, h1, Bool.false_and]

theorem vc17 : ∀ (a1 : Ty.El tU × Ty.El (Ty.st [tI])) (a2 : Int),
  (F17 () (a1, a2, ())).fst →
    True ∧
      () = () ∧ (IntKind.wrap IntKind.u32 (↑(BitVec.toNat (BitVec.ofInt (IntKind.bits IntKind.u32) a2 &&& BitVec.ofInt (IntKind.bits IntKind.u32) (mask a1.snd.fst))) : Int) == a1.fst) = contains a1 a2 := by
  intro a1 a2 _
  exact ⟨trivial, rfl, rfl⟩

theorem vc22 : ∀ (a1 a2 : Ty.El tU × Ty.El (Ty.st [tI])),
  (F22 () (a1, a2, ())).fst →
    ifb (decide (a1.fst < a2.fst)) (() = () ∧ (-1 : Int) = cmpP a1 a2)
      (ifb (a1.fst == a2.fst)
        (ifb (decide (a1.snd.fst < a2.snd.fst)) (() = () ∧ (-1 : Int) = cmpP a1 a2)
          (ifb (a1.fst == a2.fst && (a1.snd.fst == a2.snd.fst && true)) (() = () ∧ (0 : Int) = cmpP a1 a2) (() = () ∧ (1 : Int) = cmpP a1 a2)))
        (ifb (a1.fst == a2.fst && (a1.snd.fst == a2.snd.fst && true)) (() = () ∧ (0 : Int) = cmpP a1 a2) (() = () ∧ (1 : Int) = cmpP a1 a2))) := by
  intro a1 a2 _
  unfold cmpP peq
  (repeat' (first | apply And.intro | apply ifb_intro | intro)) <;> simp_all

theorem vc38 : ∀ (a1 a2 a3 : Int), (F38 () (a1, a2, a3, ())).fst → ifb (decide (a2 ≤ a1)) (() = () ∧ decide (a1 ≤ a3) = within a1 a2 a3) (() = () ∧ false = within a1 a2 a3) := by
  intro a1 a2 a3 _
  unfold within
  (repeat' (first | apply And.intro | apply ifb_intro | intro)) <;> simp_all <;> omega

theorem vc67 : ∀ (a1 a2 : Ty.El tI × Ty.El (Ty.st [tU])),
  (F67 () (a1, a2, ())).fst →
    ifb (decide (a1.fst < a2.fst)) (() = () ∧ true = lessHop a1 a2) (ifb (a1.fst == a2.fst) (() = () ∧ decide (a1.snd.fst < a2.snd.fst) = lessHop a1 a2) (() = () ∧ false = lessHop a1 a2)) := by
  intro a1 a2 _
  unfold lessHop
  (repeat' (first | apply And.intro | apply ifb_intro | intro)) <;> simp_all

theorem vc39 : ∀ (a1 : Ty.El tPrefix × Ty.El (Ty.st [tI, tI, tI, tI, tI, tI, tI, Ty.sl tI, tU, tU, Ty.sl tHop, Ty.bool])) (a2 a3 a4 : Bool),
  (F39 () (a1, a2, a3, a4, ())).fst →
    ifb a2
      (ifb a3 (ifb a4 (() = () ∧ true = plain a1 a2 a3 a4) (() = () ∧ (a1.snd.snd.snd.snd.snd.snd.snd.snd.snd.snd.fst == (0 : Int)) = plain a1 a2 a3 a4))
        (ifb (a1.snd.snd.snd.snd.snd.snd.snd.fst == (0 : Int))
          (ifb ((↑(List.length a1.snd.snd.snd.snd.snd.snd.snd.snd.fst) : Int) == (0 : Int))
            (ifb (a1.snd.snd.snd.snd.snd.snd.snd.snd.snd.fst == (0 : Int))
              (ifb a4 (() = () ∧ true = plain a1 a2 a3 a4) (() = () ∧ (a1.snd.snd.snd.snd.snd.snd.snd.snd.snd.snd.fst == (0 : Int)) = plain a1 a2 a3 a4)) (() = () ∧ false = plain a1 a2 a3 a4))
            (() = () ∧ false = plain a1 a2 a3 a4))
          (() = () ∧ false = plain a1 a2 a3 a4)))
      (ifb (a1.snd.snd.snd.snd.snd.fst == (0 : Int))
        (ifb a3 (ifb a4 (() = () ∧ true = plain a1 a2 a3 a4) (() = () ∧ (a1.snd.snd.snd.snd.snd.snd.snd.snd.snd.snd.fst == (0 : Int)) = plain a1 a2 a3 a4))
          (ifb (a1.snd.snd.snd.snd.snd.snd.snd.fst == (0 : Int))
            (ifb ((↑(List.length a1.snd.snd.snd.snd.snd.snd.snd.snd.fst) : Int) == (0 : Int))
              (ifb (a1.snd.snd.snd.snd.snd.snd.snd.snd.snd.fst == (0 : Int))
                (ifb a4 (() = () ∧ true = plain a1 a2 a3 a4) (() = () ∧ (a1.snd.snd.snd.snd.snd.snd.snd.snd.snd.snd.fst == (0 : Int)) = plain a1 a2 a3 a4)) (() = () ∧ false = plain a1 a2 a3 a4))
              (() = () ∧ false = plain a1 a2 a3 a4))
            (() = () ∧ false = plain a1 a2 a3 a4)))
        (() = () ∧ false = plain a1 a2 a3 a4)) := by
  intro a1 a2 a3 a4 _
  unfold plain
  (repeat' (first | apply And.intro | apply ifb_intro | intro)) <;> simp_all

theorem ok36 : FnVC LF G0 S4 A36 Tryz.f36 (bodyOf Tryz.f36) F36 := by
  rintro ⟨⟩ ⟨a1, ⟨⟩⟩ hp
  exact Eq.mpr (by kernel_rfl) (vc36 a1 hp)
theorem ok37 : FnVC LF G0 S5 A0 Tryz.f37 (bodyOf Tryz.f37) F37 := by
  rintro ⟨⟩ ⟨a1, ⟨⟩⟩ hp
  exact Eq.mpr (by kernel_rfl) (vc37 a1 hp)
theorem ok17 : FnVC LF G0 S5 A0 Tryz.f17 (bodyOf Tryz.f17) F17 := by
  rintro ⟨⟩ ⟨a1, a2, ⟨⟩⟩ hp
  exact Eq.mpr (by kernel_rfl) (vc17 a1 a2 hp)
theorem ok22 : FnVC LF G0 S5 A0 Tryz.f22 (bodyOf Tryz.f22) F22 := by
  rintro ⟨⟩ ⟨a1, a2, ⟨⟩⟩ hp
  exact Eq.mpr (by kernel_rfl) (vc22 a1 a2 hp)
theorem ok38 : FnVC LF G0 S5 A0 Tryz.f38 (bodyOf Tryz.f38) F38 := by
  rintro ⟨⟩ ⟨a1, a2, a3, ⟨⟩⟩ hp
  exact Eq.mpr (by kernel_rfl) (vc38 a1 a2 a3 hp)
theorem ok67 : FnVC LF G0 S6 A0 Tryz.f67 (bodyOf Tryz.f67) F67 := by
  rintro ⟨⟩ ⟨a1, a2, ⟨⟩⟩ hp
  exact Eq.mpr (by kernel_rfl) (vc67 a1 a2 hp)
theorem ok39 : FnVC LF G0 S6 A0 Tryz.f39 (bodyOf Tryz.f39) F39 := by
  rintro ⟨⟩ ⟨a1, a2, a3, a4, ⟨⟩⟩ hp
  exact Eq.mpr (by kernel_rfl) (vc39 a1 a2 a3 a4 hp)
end Go.Ve
