/-
  DistFilters (law17) answers true and leaves its arguments as they were. The statement holds at every input of bulk at most 1048576.
-/
import Derived.Test.YtcnlcmbchljpgaaGreatRows
import Derived.WalkKit
import Derived.ProofKit
import Derived.OpenShut
import Derived.JoinedCond
import Derived.Test.YtcnlcmbchljpgaaGreatQf18
import Derived.Test.YtcnlcmbchljpgaaGreatQf27
set_option linter.unusedVariables false
namespace Go.Proofs.YtcnlcmbchljpgaaGreat.distFilters
open Go.ChangeShapes Go.WideShapes Go.ChangeAt Go.RowKit
set_option linter.unusedVariables false
set_option maxRecDepth 100000
set_option maxHeartbeats 0
theorem own : ownKnob Tryz.prog.godebug = none := by kernel_rfl
theorem zYh : laidOutB Tryz.prog = true := by kernel_rfl
theorem zFL {H : Type} {d : DataW H} : ∀ {l : List (DataW H)}, d ∈ l → Rows.uptoBulk d ≤ Rows.uptoBulkAll l := by
 intro l
 induction l with
 | nil => intro h; cases h
 | cons e l ih =>
  intro h
  simp only [Rows.uptoBulkAll]
  rcases List.mem_cons.1 h with rfl | h
  ·omega
  ·have := ih h; omega
theorem zVx {H : Type} (d : DataW H) : 1 ≤ Rows.uptoBulk d := by
 cases d with
 | lit l => cases l <;> simp [Rows.uptoBulk]
 | _ => simp [Rows.uptoBulk]
theorem zQP {H : Type} : ∀ (l : List (DataW H)), l.length ≤ Rows.uptoBulkAll l := by
 intro l
 induction l with
 | nil => simp
 | cons e l ih => have := zVx e; simp only [Rows.uptoBulkAll, List.length_cons]; omega
theorem zYk (H : Type) : Ve.zVN (H := H) Rows.uptoBulk where
 slice := fun es sp => ⟨by have := zQP es; simp only [Rows.uptoBulk]; omega, fun e he => by have := zFL he; simp only [Rows.uptoBulk]; omega⟩
 agg := fun ps p hp => by have := zFL hp; simp only [Rows.uptoBulk]; omega
 str := fun bs => by simp only [Rows.uptoBulk]; omega
theorem zTm : (Tryz.f5.params.toList.all fun t => Ve.zDi Tryz.prog 12 t && Tryz.prog.readableRec t && decide (t < Tryz.prog.types.size)) = true := by kernel_rfl
theorem zW1 : Tryz.f5.params.toList.mapM (Ve.zGN Tryz.prog 12) = some [Ve.zQ, .sl Ve.tI, .sl (.sl Ve.zA)] := by kernel_rfl
theorem zW8 : Tryz.f5.resultTypes = #[4] := by kernel_rfl
theorem zWE : Tryz.prog.underlying 4 = some .bool := by kernel_rfl
theorem zV0 : Tryz.f5.params.size = 3 := by kernel_rfl
theorem zVv (H : Type) (enc : TypeId × Value → H) (W : World) (base : Nat) (args : Array Value) (ds gs : List (DataW H)) (before : List MemPlace)
  (hk : Rows.uptoSmall H (ds ++ gs) = true)
  (hval : ∀ (j : Nat) t v, Tryz.f5.params[j]? = some t → args[j]? = some v → Value.okWide Tryz.prog W .any base t v)
  (hW : DataW.Whole enc Tryz.prog Tryz.f5.params.toList Rows.distFiltersSpec.vars false W args.toList ds gs before) :
  Calls Tryz.prog 5 args W fun e W' => ∃ v, e = .returned v ∧ Rows.distFiltersSpec.post enc Tryz.prog Tryz.f5 false true false false W args v W' := by
 have hsm : Rows.uptoBulkAll (ds ++ gs) ≤ 1048576 := of_decide_eq_true hk
 refine Ve.zOP (bk := Rows.uptoBulk) (N := 1048576) zYh (zYk H) ?_ zW1 rfl ?_ zW8 zWE ?_ Ve.zFt hval hW ?_
 ·intro t ht
  have := List.all_eq_true.1 zTm t ht
  simp only [Bool.and_eq_true, decide_eq_true_eq] at this
  exact ⟨this.1.1, this.1.2, this.2⟩
 ·intro ds hd
  rw [zV0] at hd
  match ds, hd with
  | [a, b, c], _ => rfl
 ·exact Ve.zE5
 ·intro d hd
  exact Nat.le_trans (zFL (List.mem_append_left _ hd)) hsm
theorem zXj (os : Os) (started : os.Started) (H : Type) (enc : TypeId × Value → H) (F : Stop.Interp) :
  ReturnsInHanded {} Tryz.checked os 5 .any ((Rows.OpenSpec.upto Rows.distFiltersSpec).pre6 enc Tryz.prog Tryz.f5 Rows.distFiltersUptoRow.domain false) (((Rows.OpenSpec.upto Rows.distFiltersSpec).at F).post enc Tryz.prog Tryz.f5 false true false false) := by
 refine returnsInHanded_of_cond (C := Tryz.checked) (s := Rows.OpenSpec.upto Rows.distFiltersSpec) (k := Rows.uptoSmall) rfl own started (by kernel_rfl) Tryz.func5
  (OpenSpec.witness (enc := enc) (C := Tryz.checked) (s := Rows.OpenSpec.upto Rows.distFiltersSpec) (k := Rows.uptoSmall) rfl false ⟨#[], #[.agg #[.slice none 0 0], .slice none 0 0, .slice none 0 0], []⟩ 8 (by kernel_rfl) (by kernel_rfl) (by kernel_rfl)
   (x := ([.agg [.nil], .nil, .nil], [], [])) (by kernel_rfl) rfl (by kernel_rfl)) ?_
 intro W base args ds gs before hval hW _ hk _
 exact zVv H enc W base args ds gs before hk hval hW
theorem zXB : joinedFacts Tryz.prog 5 Tryz.f5 (Rows.OpenSpec.upto Rows.distFiltersSpec).bare Rows.distFiltersUptoRow = true := by
 unfold joinedFacts
 simp only [Bool.and_eq_true]
 repeat' apply And.intro
 all_goals as_aux_lemma => kernel_rfl
theorem zYe : Rows.distFiltersUptoRow.holds Tryz.pinned (Rows.OpenSpec.upto Rows.distFiltersSpec) :=
 OpenClaim.holds_of_cond 5 Tryz.f5 rfl rfl rfl rfl rfl rfl rfl ⟨rfl, rfl, rfl, rfl, rfl⟩ rfl rfl rfl rfl rfl (by as_aux_lemma => kernel_rfl) Tryz.func5 zXB
  (of_decide_eq_true (by kernel_rfl)) (by unfold Func.isWrapper; first | (rw [if_pos (by decide +kernel)]; kernel_rfl) | (rw [if_neg (by decide +kernel)]; exact ⟨rfl, rfl⟩))
  (fun os started H enc _ F => zXj os started H enc F)
theorem proved : Rows.DistFiltersUptoSaid :=
 zYe
end Go.Proofs.YtcnlcmbchljpgaaGreat.distFilters
