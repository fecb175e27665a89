/-
  DistTables (law17) answers true and leaves its arguments as they were. The statement holds at every input of bulk at most 1048576.
-/
import Derived.Test.YtcnlcmbchljpgaaGreatRows
import Derived.WalkKit
import Derived.ProofKit
import Derived.OpenShut
import Derived.JoinedCond
import Derived.Test.YtcnlcmbchljpgaaGreatQt23
import Derived.Test.YtcnlcmbchljpgaaGreatQt28
import Derived.Test.YtcnlcmbchljpgaaGreatQt20
set_option linter.unusedVariables false
namespace Go.Proofs.YtcnlcmbchljpgaaGreat.distTables
open Go.ChangeShapes Go.WideShapes Go.ChangeAt Go.RowKit
set_option linter.unusedVariables false
set_option maxRecDepth 100000
set_option maxHeartbeats 0
theorem own : ownKnob Tryz.prog.godebug = none := by kernel_rfl
theorem zZr : laidOutB Tryz.prog = true := by kernel_rfl
theorem zGr {H : Type} {d : DataW H} : ∀ {l : List (DataW H)}, d ∈ l → Rows.uptoBulk d ≤ Rows.uptoBulkAll l := by
 intro l
 induction l with
 | nil => intro h; cases h
 | cons e l ih =>
  intro h
  simp only [Rows.uptoBulkAll]
  rcases List.mem_cons.1 h with rfl | h
  ·omega
  ·have := ih h; omega
theorem zWS {H : Type} (d : DataW H) : 1 ≤ Rows.uptoBulk d := by
 cases d with
 | lit l => cases l <;> simp [Rows.uptoBulk]
 | _ => simp [Rows.uptoBulk]
theorem zSd {H : Type} : ∀ (l : List (DataW H)), l.length ≤ Rows.uptoBulkAll l := by
 intro l
 induction l with
 | nil => simp
 | cons e l ih => have := zWS e; simp only [Rows.uptoBulkAll, List.length_cons]; omega
theorem zZu (H : Type) : Ve.zW7 (H := H) Rows.uptoBulk where
 slice := fun es sp => ⟨by have := zSd es; simp only [Rows.uptoBulk]; omega, fun e he => by have := zGr he; simp only [Rows.uptoBulk]; omega⟩
 agg := fun ps p hp => by have := zGr hp; simp only [Rows.uptoBulk]; omega
 str := fun bs => by simp only [Rows.uptoBulk]; omega
theorem zUM : (Tryz.f3.params.toList.all fun t => Ve.zDI Tryz.prog 12 t && Tryz.prog.readableRec t && decide (t < Tryz.prog.types.size)) = true := by kernel_rfl
theorem zYh : Tryz.f3.params.toList.mapM (Ve.zHG Tryz.prog 12) = some [Ve.zT, .sl Ve.tI, .sl (.sl Ve.zA), .sl Ve.zA] := by kernel_rfl
theorem zYo : Tryz.f3.resultTypes = #[4] := by kernel_rfl
theorem zXU : Tryz.prog.underlying 4 = some .bool := by kernel_rfl
theorem zXk : Tryz.f3.params.size = 4 := by kernel_rfl
theorem zWQ (H : Type) (enc : TypeId × Value → H) (W : World) (base : Nat) (args : Array Value) (ds gs : List (DataW H)) (before : List MemPlace)
  (hk : Rows.uptoSmall H (ds ++ gs) = true)
  (hval : ∀ (j : Nat) t v, Tryz.f3.params[j]? = some t → args[j]? = some v → Value.okWide Tryz.prog W .any base t v)
  (hW : DataW.Whole enc Tryz.prog Tryz.f3.params.toList Rows.distTablesSpec.vars false W args.toList ds gs before) :
  Calls Tryz.prog 3 args W fun e W' => ∃ v, e = .returned v ∧ Rows.distTablesSpec.post enc Tryz.prog Tryz.f3 false true false false W args v W' := by
 have hsm : Rows.uptoBulkAll (ds ++ gs) ≤ 1048576 := of_decide_eq_true hk
 refine Ve.zQa (bk := Rows.uptoBulk) (N := 1048576) zZr (zZu H) ?_ zYh rfl ?_ zYo zXU ?_ Ve.zHc hval hW ?_
 ·intro t ht
  have := List.all_eq_true.1 zUM t ht
  simp only [Bool.and_eq_true, decide_eq_true_eq] at this
  exact ⟨this.1.1, this.1.2, this.2⟩
 ·intro ds hd
  rw [zXk] at hd
  match ds, hd with
  | [a, b, c, d], _ => rfl
 ·exact Ve.zGt
 ·intro d hd
  exact Nat.le_trans (zGr (List.mem_append_left _ hd)) hsm
theorem zYx (os : Os) (started : os.Started) (H : Type) (enc : TypeId × Value → H) (F : Stop.Interp) :
  ReturnsInHanded {} Tryz.checked os 3 .any ((Rows.OpenSpec.upto Rows.distTablesSpec).pre6 enc Tryz.prog Tryz.f3 Rows.distTablesUptoRow.domain false) (((Rows.OpenSpec.upto Rows.distTablesSpec).at F).post enc Tryz.prog Tryz.f3 false true false false) := by
 refine returnsInHanded_of_cond (C := Tryz.checked) (s := Rows.OpenSpec.upto Rows.distTablesSpec) (k := Rows.uptoSmall) rfl own started (by kernel_rfl) Tryz.func3
  (OpenSpec.witness (enc := enc) (C := Tryz.checked) (s := Rows.OpenSpec.upto Rows.distTablesSpec) (k := Rows.uptoSmall) rfl false ⟨#[], #[.agg #[.slice none 0 0], .slice none 0 0, .slice none 0 0, .slice none 0 0], []⟩ 8 (by kernel_rfl) (by kernel_rfl) (by kernel_rfl)
   (x := ([.agg [.nil], .nil, .nil, .nil], [], [])) (by kernel_rfl) rfl (by kernel_rfl)) ?_
 intro W base args ds gs before hval hW _ hk _
 exact zWQ H enc W base args ds gs before hk hval hW
theorem zYN : joinedFacts Tryz.prog 3 Tryz.f3 (Rows.OpenSpec.upto Rows.distTablesSpec).bare Rows.distTablesUptoRow = true := by
 unfold joinedFacts
 simp only [Bool.and_eq_true]
 repeat' apply And.intro
 all_goals as_aux_lemma => kernel_rfl
theorem zZo : Rows.distTablesUptoRow.holds Tryz.pinned (Rows.OpenSpec.upto Rows.distTablesSpec) :=
 OpenClaim.holds_of_cond 3 Tryz.f3 rfl rfl rfl rfl rfl rfl rfl ⟨rfl, rfl, rfl, rfl, rfl⟩ rfl rfl rfl rfl rfl (by as_aux_lemma => kernel_rfl) Tryz.func3 zYN
  (of_decide_eq_true (by kernel_rfl)) (by unfold Func.isWrapper; first | (rw [if_pos (by decide +kernel)]; kernel_rfl) | (rw [if_neg (by decide +kernel)]; exact ⟨rfl, rfl⟩))
  (fun os started H enc _ F => zYx os started H enc F)
theorem proved : Rows.DistTablesUptoSaid :=
 zZo
end Go.Proofs.YtcnlcmbchljpgaaGreat.distTables
