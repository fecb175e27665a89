/-
  law18: contract of Valid.
-/
import Derived.Test.YtggmpbaiijodiaaGreatNvL8
namespace Go.Ve
open Go Go.Proofs
set_option maxRecDepth 100000

theorem vc19 : ∀ (a1 : Ty.El tRoute),
  (F19 () (a1, ())).fst →
    True ∧
      ifb (!pvalid a1.fst) (() = () ∧ false = validR a1)
        (True ∧
          ifb (!within a1.snd.snd.snd.snd.snd.snd.fst (0 : Int) (65535 : Int)) (() = () ∧ false = validR a1)
            (ifb (decide ((↑(List.length a1.snd.snd.snd.snd.snd.snd.snd.snd.fst) : Int) > (64 : Int))) (() = () ∧ false = validR a1)
              ((True ∧
                  (0 : Int) = (0 : Int) ∧
                    a1.fst.fst = a1.fst.fst ∧
                      a1.fst.snd.fst = a1.fst.snd.fst ∧
                        a1.snd.fst = a1.snd.fst ∧
                          a1.snd.snd.fst = a1.snd.snd.fst ∧
                            a1.snd.snd.snd.fst = a1.snd.snd.snd.fst ∧
                              a1.snd.snd.snd.snd.fst = a1.snd.snd.snd.snd.fst ∧
                                a1.snd.snd.snd.snd.snd.fst = a1.snd.snd.snd.snd.snd.fst ∧
                                  a1.snd.snd.snd.snd.snd.snd.fst = a1.snd.snd.snd.snd.snd.snd.fst ∧
                                    a1.snd.snd.snd.snd.snd.snd.snd.fst = a1.snd.snd.snd.snd.snd.snd.snd.fst ∧
                                      a1.snd.snd.snd.snd.snd.snd.snd.snd.fst = a1.snd.snd.snd.snd.snd.snd.snd.snd.fst ∧
                                        a1.snd.snd.snd.snd.snd.snd.snd.snd.snd.fst = a1.snd.snd.snd.snd.snd.snd.snd.snd.snd.fst ∧
                                          a1.snd.snd.snd.snd.snd.snd.snd.snd.snd.snd.fst = a1.snd.snd.snd.snd.snd.snd.snd.snd.snd.snd.fst ∧
                                            a1.snd.snd.snd.snd.snd.snd.snd.snd.snd.snd.snd.fst = a1.snd.snd.snd.snd.snd.snd.snd.snd.snd.snd.snd.fst ∧
                                              a1.snd.snd.snd.snd.snd.snd.snd.snd.snd.snd.snd.snd.fst = a1.snd.snd.snd.snd.snd.snd.snd.snd.snd.snd.snd.snd.fst ∧ () = () ∧ J19_4 a1 (0 : Int)) ∧
                ∀ (s : Int),
                  J19_4 a1 s →
                    ifb (decide (s < (↑(List.length a1.snd.snd.snd.snd.snd.snd.snd.snd.fst) : Int)))
                      (((0 : Int) ≤ s ∧ s < (↑(List.length a1.snd.snd.snd.snd.snd.snd.snd.snd.fst) : Int)) ∧
                        ∀ (y : Ty.El tI),
                          a1.snd.snd.snd.snd.snd.snd.snd.snd.fst[Int.toNat s]? = some y →
                            True ∧
                              ifb (!within y (1 : Int) (65535 : Int)) (() = () ∧ false = validR a1)
                                (True ∧
                                  IntKind.wrap IntKind.i64 (s + (1 : Int)) = IntKind.wrap IntKind.i64 (s + (1 : Int)) ∧
                                    a1.fst.fst = a1.fst.fst ∧
                                      a1.fst.snd.fst = a1.fst.snd.fst ∧
                                        a1.snd.fst = a1.snd.fst ∧
                                          a1.snd.snd.fst = a1.snd.snd.fst ∧
                                            a1.snd.snd.snd.fst = a1.snd.snd.snd.fst ∧
                                              a1.snd.snd.snd.snd.fst = a1.snd.snd.snd.snd.fst ∧
                                                a1.snd.snd.snd.snd.snd.fst = a1.snd.snd.snd.snd.snd.fst ∧
                                                  a1.snd.snd.snd.snd.snd.snd.fst = a1.snd.snd.snd.snd.snd.snd.fst ∧
                                                    a1.snd.snd.snd.snd.snd.snd.snd.fst = a1.snd.snd.snd.snd.snd.snd.snd.fst ∧
                                                      a1.snd.snd.snd.snd.snd.snd.snd.snd.fst = a1.snd.snd.snd.snd.snd.snd.snd.snd.fst ∧
                                                        a1.snd.snd.snd.snd.snd.snd.snd.snd.snd.fst = a1.snd.snd.snd.snd.snd.snd.snd.snd.snd.fst ∧
                                                          a1.snd.snd.snd.snd.snd.snd.snd.snd.snd.snd.fst = a1.snd.snd.snd.snd.snd.snd.snd.snd.snd.snd.fst ∧
                                                            a1.snd.snd.snd.snd.snd.snd.snd.snd.snd.snd.snd.fst = a1.snd.snd.snd.snd.snd.snd.snd.snd.snd.snd.snd.fst ∧
                                                              a1.snd.snd.snd.snd.snd.snd.snd.snd.snd.snd.snd.snd.fst = a1.snd.snd.snd.snd.snd.snd.snd.snd.snd.snd.snd.snd.fst ∧
                                                                () = () ∧ J19_4 a1 (IntKind.wrap IntKind.i64 (s + (1 : Int))) ∧ M19_4 a1 (IntKind.wrap IntKind.i64 (s + (1 : Int))) < M19_4 a1 s))
                      (ifb (a1.snd.fst == (1 : Int))
                        (ifb (a1.snd.snd.fst == (0 : Int))
                          (ifb (a1.snd.snd.snd.fst == (0 : Int))
                            (ifb (a1.snd.snd.snd.snd.fst == (0 : Int))
                              (ifb (a1.snd.snd.snd.snd.snd.snd.fst == (0 : Int))
                                (True ∧
                                  ifb (plain a1 false false false)
                                    (ifb (!a1.snd.snd.snd.snd.snd.snd.snd.snd.snd.snd.snd.snd.fst)
                                      (ifb ((↑(List.length a1.snd.snd.snd.snd.snd.snd.snd.snd.snd.snd.snd.fst) : Int) == (1 : Int))
                                        (List.length a1.snd.snd.snd.snd.snd.snd.snd.snd.snd.snd.snd.fst ≤ (1048576 : Nat) ∧
                                          () = () ∧ hopsOk a1.snd.snd.snd.snd.snd.snd.snd.snd.snd.snd.snd.fst true = validR a1)
                                        (() = () ∧ false = validR a1))
                                      (() = () ∧ false = validR a1))
                                    (() = () ∧ false = validR a1))
                                (() = () ∧ false = validR a1))
                              (() = () ∧ false = validR a1))
                            (() = () ∧ false = validR a1))
                          (() = () ∧ false = validR a1))
                        (ifb (a1.snd.fst == (2 : Int)) ((List.length (Route.path a1) ≤ (1048576 : Nat) ∧ List.length (Route.hops a1) ≤ (1048576 : Nat)) ∧ () = () ∧ validStatic a1 = validR a1)
                          (ifb (a1.snd.fst == (3 : Int)) ((List.length (Route.path a1) ≤ (1048576 : Nat) ∧ List.length (Route.hops a1) ≤ (1048576 : Nat)) ∧ () = () ∧ validLinkState a1 = validR a1)
                            (ifb (a1.snd.fst == (4 : Int)) ((List.length (Route.path a1) ≤ (1048576 : Nat) ∧ List.length (Route.hops a1) ≤ (1048576 : Nat)) ∧ () = () ∧ validDistance a1 = validR a1)
                              (ifb (a1.snd.fst == (5 : Int)) ((List.length (Route.path a1) ≤ (1048576 : Nat) ∧ List.length (Route.hops a1) ≤ (1048576 : Nat)) ∧ () = () ∧ validPath a1 = validR a1)
                                (() = () ∧ false = validR a1))))))))) := by
  intro a1 hp
  have hp : Rok a1 := hp
  have hF : List.length a1.snd.snd.snd.snd.snd.snd.snd.snd.snd.snd.snd.fst ≤ 1048576 := hp.2
  have hP : List.length a1.snd.snd.snd.snd.snd.snd.snd.snd.fst ≤ 1048576 := hp.1
  simp only [true_and, and_true]
  refine ifb_intro (fun c1 => by unfold validR; rw [show (!pvalid (Route.pre a1)) = true from c1]; rfl) (fun c1 => ?_)
  refine ifb_intro (fun c2 => by unfold validR; rw [show (!within (Route.tag a1) 0 65535) = true from c2]; simp) (fun c2 => ?_)
  refine ifb_intro (fun c3 => by unfold validR; rw [show decide ((↑(List.length (Route.path a1)) : Int) > 64) = true from c3]; simp) (fun c3 => ?_)
  have hhead : (!pvalid (Route.pre a1) || !within (Route.tag a1) 0 65535 || decide ((↑(List.length (Route.path a1)) : Int) > 64)) = false := by
    rw [show (!pvalid (Route.pre a1)) = false from c1, show (!within (Route.tag a1) 0 65535) = false from c2, show decide ((↑(List.length (Route.path a1)) : Int) > 64) = false from c3]; rfl
  refine ⟨⟨by omega, by omega, rfl⟩, ?_⟩
  intro s h
  obtain ⟨h1, h2, h3⟩ := h
  refine ifb_intro (fun hlt => ?_) (fun hlt => ?_)
  · have hlt : s < List.length a1.snd.snd.snd.snd.snd.snd.snd.snd.fst := by simpa using hlt
    refine ⟨⟨h1, hlt⟩, fun y hy => ?_⟩
    have hd := drop_get a1.snd.snd.snd.snd.snd.snd.snd.snd.fst s y h1 hy
    refine ifb_intro (fun c4 => ?_) (fun c4 => ?_)
    · have : pathOk (Route.path a1) = false := by
        rw [← h3]
        show pathOk (List.drop s.toNat a1.snd.snd.snd.snd.snd.snd.snd.snd.fst) = false
        rw [hd]; simp only [pathOk, List.all_cons]; rw [show within y 1 65535 = false by simpa using c4]; rfl
      unfold validR; rw [hhead, this]; rfl
    · have hw : IntKind.i64.wrap (s + 1) = s + 1 := wrap64 (by omega) (by omega)
      rw [hw]
      refine ⟨⟨by omega, by show s + 1 ≤ (List.length a1.snd.snd.snd.snd.snd.snd.snd.snd.fst : Int); omega, ?_⟩, ?_⟩
      · rw [← h3]
        show pathOk (List.drop (s + 1).toNat a1.snd.snd.snd.snd.snd.snd.snd.snd.fst) = pathOk (List.drop s.toNat a1.snd.snd.snd.snd.snd.snd.snd.snd.fst)
        rw [hd]; simp only [pathOk, List.all_cons]; rw [show within y 1 65535 = true by simpa using c4]; rfl
      · show ((List.length a1.snd.snd.snd.snd.snd.snd.snd.snd.fst : Int) - (s + 1)).toNat < ((List.length a1.snd.snd.snd.snd.snd.snd.snd.snd.fst : Int) - s).toNat
        omega
  · have hlt : (List.length a1.snd.snd.snd.snd.snd.snd.snd.snd.fst : Int) ≤ s := by simpa using hlt
    have hpath : pathOk (Route.path a1) = true := by
      rw [← h3]
      show pathOk (List.drop s.toNat a1.snd.snd.snd.snd.snd.snd.snd.snd.fst) = true
      rw [List.drop_eq_nil_of_le (by omega)]; rfl
    have hv : validR a1 = if a1.snd.fst == 1 then a1.snd.snd.fst == 0 && a1.snd.snd.snd.fst == 0 && a1.snd.snd.snd.snd.fst == 0 && a1.snd.snd.snd.snd.snd.snd.fst == 0 && plain a1 false false false && !a1.snd.snd.snd.snd.snd.snd.snd.snd.snd.snd.snd.snd.fst && (List.length a1.snd.snd.snd.snd.snd.snd.snd.snd.snd.snd.snd.fst : Int) == 1 && hopsOk a1.snd.snd.snd.snd.snd.snd.snd.snd.snd.snd.snd.fst true
        else if a1.snd.fst == 2 then validStatic a1 else if a1.snd.fst == 3 then validLinkState a1 else if a1.snd.fst == 4 then validDistance a1 else if a1.snd.fst == 5 then validPath a1 else false := by
      unfold validR; rw [hhead, hpath]; rfl
    rw [hv]
    clear hv hpath hhead h3 h2 c1 c2 c3
    (repeat' (first | apply And.intro | apply ifb_intro | intro)) <;> first | exact hp.1 | exact hp.2 | simp_all
end Go.Ve
