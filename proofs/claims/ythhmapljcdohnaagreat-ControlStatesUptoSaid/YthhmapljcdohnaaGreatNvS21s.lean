/-
  ControlStates (law21) answers true and leaves its arguments as they were. The statement holds at every input of bulk at most 1048576.
-/
import Derived.Test.YthhmapljcdohnaaGreatRows
import Derived.WalkKit
import Derived.ProofKit
import Derived.OpenShut
import Derived.JoinedCond
import Derived.Test.YthhmapljcdohnaaGreatCs21
import Derived.Test.YthhmapljcdohnaaGreatCs24
import Derived.Test.YthhmapljcdohnaaGreatCs18
set_option linter.unusedVariables false
set_option linter.unusedSimpArgs false
namespace Go.Proofs.YthhmapljcdohnaaGreat.controlStates
open Go.ChangeShapes Go.WideShapes Go.ChangeAt Go.RowKit
set_option linter.unusedVariables false
set_option linter.unusedSimpArgs false
set_option maxRecDepth 100000
set_option maxHeartbeats 0

theorem own : ownKnob Tryz.prog.godebug = none := by kernel_rfl
theorem laid : laidOutB Tryz.prog = true := by kernel_rfl

theorem bulkAll_mem {H : Type} {d : DataW H} : ∀ {l : List (DataW H)}, d ∈ l → Rows.uptoBulk d ≤ Rows.uptoBulkAll l := by
  intro l
  induction l with
  | nil => intro h; cases h
  | cons e l ih =>
    intro h
    simp only [Rows.uptoBulkAll]
    rcases List.mem_cons.1 h with rfl | h
    · omega
    · have := ih h; omega

theorem bulk_pos {H : Type} (d : DataW H) : 1 ≤ Rows.uptoBulk d := by
  cases d with
  | lit l => cases l <;> simp [Rows.uptoBulk]
  | _ => simp [Rows.uptoBulk]

theorem bulkAll_len {H : Type} : ∀ (l : List (DataW H)), l.length ≤ Rows.uptoBulkAll l := by
  intro l
  induction l with
  | nil => simp
  | cons e l ih => have := bulk_pos e; simp only [Rows.uptoBulkAll, List.length_cons]; omega

theorem bulk (H : Type) : Ve.Bulk (H := H) Rows.uptoBulk where
  slice := fun es sp => ⟨by have := bulkAll_len es; simp only [Rows.uptoBulk]; omega, fun e he => by have := bulkAll_mem he; simp only [Rows.uptoBulk]; omega⟩
  agg := fun ps p hp => by have := bulkAll_mem hp; simp only [Rows.uptoBulk]; omega
  str := fun bs => by simp only [Rows.uptoBulk]; omega

theorem params_ok : (Tryz.f4.params.toList.all fun t => Ve.tyChk Tryz.prog 12 t && Tryz.prog.readableRec t && decide (t < Tryz.prog.types.size)) = true := by kernel_rfl

theorem tys_ok : Tryz.f4.params.toList.mapM (Ve.tyOf Tryz.prog 12) = some [Ve.tNetwork, .sl Ve.tI, .sl Ve.tTables, .sl Ve.tTables] := by kernel_rfl
theorem res_ok : Tryz.f4.resultTypes = #[4] := by kernel_rfl
theorem bool_ok : Tryz.prog.underlying 4 = some .bool := by kernel_rfl
theorem size_ok : Tryz.f4.params.size = 4 := by kernel_rfl

theorem contract (H : Type) (enc : TypeId × Value → H) (W : World) (base : Nat) (args : Array Value) (ds gs : List (DataW H)) (before : List MemPlace)
    (hk : Rows.uptoSmall H (ds ++ gs) = true)
    (hval : ∀ (j : Nat) t v, Tryz.f4.params[j]? = some t → args[j]? = some v → Value.okWide Tryz.prog W .any base t v)
    (hW : DataW.Whole enc Tryz.prog Tryz.f4.params.toList Rows.controlStatesSpec.vars false W args.toList ds gs before) :
    Calls Tryz.prog 4 args W fun e W' => ∃ v, e = .returned v ∧ Rows.controlStatesSpec.post enc Tryz.prog Tryz.f4 false true false false W args v W' := by
  have hsm : Rows.uptoBulkAll (ds ++ gs) ≤ 1048576 := of_decide_eq_true hk
  refine Ve.law_contract (bk := Rows.uptoBulk) (N := 1048576) laid (bulk H) ?_ tys_ok rfl ?_ res_ok bool_ok ?_ Ve.ok_law21_ControlStates hval hW ?_
  · intro t ht
    have := List.all_eq_true.1 params_ok t ht
    simp only [Bool.and_eq_true, decide_eq_true_eq] at this
    exact ⟨this.1.1, this.1.2, this.2⟩
  · intro ds hd
    rw [size_ok] at hd
    match ds, hd with
    | [a, b, c, d], _ => rfl
  · exact Ve.ans_law21_ControlStates
  · intro d hd
    exact Nat.le_trans (bulkAll_mem (List.mem_append_left _ hd)) hsm

theorem lifted (os : Os) (started : os.Started) (H : Type) (enc : TypeId × Value → H) (F : Stop.Interp) :
    ReturnsInHanded {} Tryz.checked os 4 .any ((Rows.OpenSpec.upto Rows.controlStatesSpec).pre6 enc Tryz.prog Tryz.f4 Rows.controlStatesUptoRow.domain false) (((Rows.OpenSpec.upto Rows.controlStatesSpec).at F).post enc Tryz.prog Tryz.f4 false true false false) := by
  refine returnsInHanded_of_cond (C := Tryz.checked) (s := Rows.OpenSpec.upto Rows.controlStatesSpec) (k := Rows.uptoSmall) rfl own started (by kernel_rfl) Tryz.func4
    (OpenSpec.witness (enc := enc) (C := Tryz.checked) (s := Rows.OpenSpec.upto Rows.controlStatesSpec) (k := Rows.uptoSmall) rfl false ⟨#[], #[.agg #[.slice none 0 0], .slice none 0 0, .slice none 0 0, .slice none 0 0], []⟩ 8 (by kernel_rfl) (by kernel_rfl) (by kernel_rfl)
      (x := ([.agg [.nil], .nil, .nil, .nil], [], [])) (by kernel_rfl) rfl (by kernel_rfl)) ?_
  intro W base args ds gs before hval hW _ hk _
  exact contract H enc W base args ds gs before hk hval hW

theorem closed : joinedFacts Tryz.prog 4 Tryz.f4 (Rows.OpenSpec.upto Rows.controlStatesSpec).bare Rows.controlStatesUptoRow = true := by
  unfold joinedFacts
  simp only [Bool.and_eq_true]
  repeat' apply And.intro
  all_goals as_aux_lemma => kernel_rfl

theorem over : Rows.controlStatesUptoRow.holds Tryz.pinned (Rows.OpenSpec.upto Rows.controlStatesSpec) :=
  OpenClaim.holds_of_cond 4 Tryz.f4 rfl rfl rfl rfl rfl rfl rfl ⟨rfl, rfl, rfl, rfl, rfl⟩ rfl rfl rfl rfl rfl (by as_aux_lemma => kernel_rfl) Tryz.func4 closed
    (of_decide_eq_true (by kernel_rfl)) (by unfold Func.isWrapper; first | (rw [if_pos (by decide +kernel)]; kernel_rfl) | (rw [if_neg (by decide +kernel)]; exact ⟨rfl, rfl⟩))
    (fun os started H enc _ F => lifted os started H enc F)

theorem proved : Rows.ControlStatesUptoSaid :=
  over
end Go.Proofs.YthhmapljcdohnaaGreat.controlStates
