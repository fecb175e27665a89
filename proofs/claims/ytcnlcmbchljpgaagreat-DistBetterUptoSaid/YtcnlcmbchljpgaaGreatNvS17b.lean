/-
  DistBetter (law17) answers true and leaves its arguments as they were. The statement holds at every input of bulk at most 1048576.
-/
import Derived.Test.YtcnlcmbchljpgaaGreatRows
import Derived.WalkKit
import Derived.ProofKit
import Derived.OpenShut
import Derived.JoinedCond
import Derived.Test.YtcnlcmbchljpgaaGreatQb21
import Derived.Test.YtcnlcmbchljpgaaGreatQb26
import Derived.Test.YtcnlcmbchljpgaaGreatQb18
set_option linter.unusedVariables false
namespace Go.Proofs.YtcnlcmbchljpgaaGreat.distBetter
open Go.ChangeShapes Go.WideShapes Go.ChangeAt Go.RowKit
set_option linter.unusedVariables false
set_option maxRecDepth 100000
set_option maxHeartbeats 0
theorem own:ownKnob Tryz.prog.godebug=none:=by kernel_rfl
theorem zXQ:laidOutB Tryz.prog=true:=by kernel_rfl
theorem zFo {H:Type} {d:DataW H} : ∀ {l:List (DataW H)},d∈l→Rows.uptoBulk d≤Rows.uptoBulkAll l:=by
 intro l
 induction l with
 |nil=>intro h;cases h
 |cons e l ih=>
  intro h
  simp only [Rows.uptoBulkAll]
  rcases List.mem_cons.1 h with rfl|h
  ·omega
  ·have:=ih h;omega
theorem zVf {H:Type} (d:DataW H):1≤Rows.uptoBulk d:=by
 cases d with
 |lit l=>cases l<;>simp [Rows.uptoBulk]
 |_=>simp [Rows.uptoBulk]
theorem zQz {H:Type} : ∀ (l:List (DataW H)),l.length≤Rows.uptoBulkAll l:=by
 intro l
 induction l with
 |nil=>simp
 |cons e l ih=>have:=zVf e;simp only [Rows.uptoBulkAll,List.length_cons];omega
theorem zXT (H:Type):Ve.zVu (H:=H) Rows.uptoBulk where
 slice:=fun es sp=>⟨by have:=zQz es;simp only [Rows.uptoBulk];omega,fun e he=>by have:=zFo he;simp only [Rows.uptoBulk];omega⟩
 agg:=fun ps p hp=>by have:=zFo hp;simp only [Rows.uptoBulk];omega
 str:=fun bs=>by simp only [Rows.uptoBulk];omega
theorem zTb:(Tryz.f6.params.toList.all fun t=>Ve.zC4 Tryz.prog 12 t&&Tryz.prog.readableRec t&&decide (t<Tryz.prog.types.size))=true:=by kernel_rfl
theorem zWB:Tryz.f6.params.toList.mapM (Ve.zGx Tryz.prog 12)=some [Ve.zV, .sl Ve.tI, .sl (.sl Ve.zA),Ve.tI,Ve.tI]:=by kernel_rfl
theorem zWI:Tryz.f6.resultTypes= #[4]:=by kernel_rfl
theorem zWj:Tryz.prog.underlying 4=some .bool:=by kernel_rfl
theorem zVE:Tryz.f6.params.size=5:=by kernel_rfl
theorem zVd (H:Type) (enc:TypeId×Value→H) (W:World) (base:Nat) (args:Array Value) (ds gs:List (DataW H)) (before:List MemPlace)
  (hk:Rows.uptoSmall H (ds++gs)=true)
  (hval: ∀ (j:Nat) t v,Tryz.f6.params[j]? =some t→args[j]? =some v→Value.okWide Tryz.prog W .any base t v)
  (hW:DataW.Whole enc Tryz.prog Tryz.f6.params.toList Rows.distBetterSpec.vars false W args.toList ds gs before):
  Calls Tryz.prog 6 args W fun e W'=> ∃v,e= .returned v∧Rows.distBetterSpec.post enc Tryz.prog Tryz.f6 false true false false W args v W':=by
 have hsm:Rows.uptoBulkAll (ds++gs)≤1048576:=of_decide_eq_true hk
 refine Ve.zOy (bk:=Rows.uptoBulk) (N:=1048576) zXQ (zXT H) ?_ zWB rfl ?_ zWI zWj ?_ Ve.zF8 hval hW ?_
 ·intro t ht
  have:=List.all_eq_true.1 zTb t ht
  simp only [Bool.and_eq_true,decide_eq_true_eq] at this
  exact ⟨this.1.1,this.1.2,this.2⟩
 ·intro ds hd
  rw [zVE] at hd
  match ds,hd with
  |[a,b,c,d,e],_=>rfl
 ·exact Ve.zFs
 ·intro d hd
  exact Nat.le_trans (zFo (List.mem_append_left _ hd)) hsm
theorem zWU (os:Os) (started:os.Started) (H:Type) (enc:TypeId×Value→H) (F:Stop.Interp):
  ReturnsInHanded {} Tryz.checked os 6 .any ((Rows.OpenSpec.upto Rows.distBetterSpec).pre6 enc Tryz.prog Tryz.f6 Rows.distBetterUptoRow.domain false) (((Rows.OpenSpec.upto Rows.distBetterSpec).at F).post enc Tryz.prog Tryz.f6 false true false false):=by
 refine returnsInHanded_of_cond (C:=Tryz.checked) (s:=Rows.OpenSpec.upto Rows.distBetterSpec) (k:=Rows.uptoSmall) rfl own started (by kernel_rfl) Tryz.func6
  (OpenSpec.witness (enc:=enc) (C:=Tryz.checked) (s:=Rows.OpenSpec.upto Rows.distBetterSpec) (k:=Rows.uptoSmall) rfl false ⟨#[], #[.agg #[.slice none 0 0], .slice none 0 0, .slice none 0 0, .int .i64 0, .int .i64 0],[]⟩ 8 (by kernel_rfl) (by kernel_rfl) (by kernel_rfl)
   (x:=([.agg [.nil], .nil, .nil, .lit (.int .i64 0), .lit (.int .i64 0)],[],[])) (by kernel_rfl) rfl (by kernel_rfl)) ?_
 intro W base args ds gs before hval hW _ hk _
 exact zVd H enc W base args ds gs before hk hval hW
theorem zXd:joinedFacts Tryz.prog 6 Tryz.f6 (Rows.OpenSpec.upto Rows.distBetterSpec).bare Rows.distBetterUptoRow=true:=by
 unfold joinedFacts
 simp only [Bool.and_eq_true]
 repeat' apply And.intro
 all_goals as_aux_lemma=>kernel_rfl
theorem zXN:Rows.distBetterUptoRow.holds Tryz.pinned (Rows.OpenSpec.upto Rows.distBetterSpec):=
 OpenClaim.holds_of_cond 6 Tryz.f6 rfl rfl rfl rfl rfl rfl rfl ⟨rfl,rfl,rfl,rfl,rfl⟩ rfl rfl rfl rfl rfl (by as_aux_lemma=>kernel_rfl) Tryz.func6 zXd
  (of_decide_eq_true (by kernel_rfl)) (by unfold Func.isWrapper;first|(rw [if_pos (by decide+kernel)];kernel_rfl)|(rw [if_neg (by decide+kernel)];exact ⟨rfl,rfl⟩))
  (fun os started H enc _ F=>zWU os started H enc F)
theorem proved:Rows.DistBetterUptoSaid:=
 zXN
end Go.Proofs.YtcnlcmbchljpgaaGreat.distBetter
