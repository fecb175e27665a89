/-
  PathTables (law20) answers true and leaves its arguments as they were. The statement holds at every input of bulk at most 1048576.
-/
import Derived.Test.YtcnlcmbchljpgaaGreatRows
import Derived.WalkKit
import Derived.ProofKit
import Derived.OpenShut
import Derived.JoinedCond
import Derived.Test.YtcnlcmbchljpgaaGreatPt23
import Derived.Test.YtcnlcmbchljpgaaGreatPt28
import Derived.Test.YtcnlcmbchljpgaaGreatPt19
set_option linter.unusedVariables false
namespace Go.Proofs.YtcnlcmbchljpgaaGreat.pathTables
open Go.ChangeShapes Go.WideShapes Go.ChangeAt Go.RowKit
set_option linter.unusedVariables false
set_option maxRecDepth 100000
set_option maxHeartbeats 0
theorem own:ownKnob Tryz.prog.godebug=none:=by kernel_rfl
theorem qDG:laidOutB Tryz.prog=true:=by kernel_rfl
theorem zIv {H:Type} {d:DataW H} : ∀ {l:List (DataW H)},d∈l→Rows.uptoBulk d≤Rows.uptoBulkAll l:=by
 intro l
 induction l with
 |nil=>intro h;cases h
 |cons e l ih=>
  intro h
  simp only [Rows.uptoBulkAll]
  rcases List.mem_cons.1 h with rfl|h
  ·omega
  ·have:=ih h;omega
theorem qAK {H:Type} (d:DataW H):1≤Rows.uptoBulk d:=by
 cases d with
 |lit l=>cases l<;>simp [Rows.uptoBulk]
 |_=>simp [Rows.uptoBulk]
theorem zVC {H:Type} : ∀ (l:List (DataW H)),l.length≤Rows.uptoBulkAll l:=by
 intro l
 induction l with
 |nil=>simp
 |cons e l ih=>have:=qAK e;simp only [Rows.uptoBulkAll,List.length_cons];omega
theorem qDK (H:Type):Ve.qA1 (H:=H) Rows.uptoBulk where
 slice:=fun es sp=>⟨by have:=zVC es;simp only [Rows.uptoBulk];omega,fun e he=>by have:=zIv he;simp only [Rows.uptoBulk];omega⟩
 agg:=fun ps p hp=>by have:=zIv hp;simp only [Rows.uptoBulk];omega
 str:=fun bs=>by simp only [Rows.uptoBulk];omega
theorem zYi:(Tryz.f10.params.toList.all fun t=>Ve.zFv Tryz.prog 12 t&&Tryz.prog.readableRec t&&decide (t<Tryz.prog.types.size))=true:=by kernel_rfl
theorem qCj:Tryz.f10.params.toList.mapM (Ve.zJV Tryz.prog 12)=some [Ve.zX, .sl Ve.tI, .sl Ve.zS]:=by kernel_rfl
theorem qCq:Tryz.f10.resultTypes= #[4]:=by kernel_rfl
theorem qBV:Tryz.prog.underlying 4=some .bool:=by kernel_rfl
theorem qBc:Tryz.f10.params.size=3:=by kernel_rfl
theorem qAI (H:Type) (enc:TypeId×Value→H) (W:World) (base:Nat) (args:Array Value) (ds gs:List (DataW H)) (before:List MemPlace)
  (hk:Rows.uptoSmall H (ds++gs)=true)
  (hval: ∀ (j:Nat) t v,Tryz.f10.params[j]? =some t→args[j]? =some v→Value.okWide Tryz.prog W .any base t v)
  (hW:DataW.Whole enc Tryz.prog Tryz.f10.params.toList Rows.pathTablesSpec.vars false W args.toList ds gs before):
  Calls Tryz.prog 10 args W fun e W'=> ∃v,e= .returned v∧Rows.pathTablesSpec.post enc Tryz.prog Tryz.f10 false true false false W args v W':=by
 have hsm:Rows.uptoBulkAll (ds++gs)≤1048576:=of_decide_eq_true hk
 refine Ve.zTk (bk:=Rows.uptoBulk) (N:=1048576) qDG (qDK H) ?_ qCj rfl ?_ qCq qBV ?_ Ve.zJs hval hW ?_
 ·intro t ht
  have:=List.all_eq_true.1 zYi t ht
  simp only [Bool.and_eq_true,decide_eq_true_eq] at this
  exact ⟨this.1.1,this.1.2,this.2⟩
 ·intro ds hd
  rw [qBc] at hd
  match ds,hd with
  |[a,b,c],_=>rfl
 ·exact Ve.zIx
 ·intro d hd
  exact Nat.le_trans (zIv (List.mem_append_left _ hd)) hsm
theorem qCz (os:Os) (started:os.Started) (H:Type) (enc:TypeId×Value→H) (F:Stop.Interp):
  ReturnsInHanded {} Tryz.checked os 10 .any ((Rows.OpenSpec.upto Rows.pathTablesSpec).pre6 enc Tryz.prog Tryz.f10 Rows.pathTablesUptoRow.domain false) (((Rows.OpenSpec.upto Rows.pathTablesSpec).at F).post enc Tryz.prog Tryz.f10 false true false false):=by
 refine returnsInHanded_of_cond (C:=Tryz.checked) (s:=Rows.OpenSpec.upto Rows.pathTablesSpec) (k:=Rows.uptoSmall) rfl own started (by kernel_rfl) Tryz.func10
  (OpenSpec.witness (enc:=enc) (C:=Tryz.checked) (s:=Rows.OpenSpec.upto Rows.pathTablesSpec) (k:=Rows.uptoSmall) rfl false ⟨#[], #[.agg #[.slice none 0 0], .slice none 0 0, .slice none 0 0],[]⟩ 8 (by kernel_rfl) (by kernel_rfl) (by kernel_rfl)
   (x:=([.agg [.nil], .nil, .nil],[],[])) (by kernel_rfl) rfl (by kernel_rfl)) ?_
 intro W base args ds gs before hval hW _ hk _
 exact qAI H enc W base args ds gs before hk hval hW
theorem qCS:joinedFacts Tryz.prog 10 Tryz.f10 (Rows.OpenSpec.upto Rows.pathTablesSpec).bare Rows.pathTablesUptoRow=true:=by
 unfold joinedFacts
 simp only [Bool.and_eq_true]
 repeat' apply And.intro
 all_goals as_aux_lemma=>kernel_rfl
theorem qDD:Rows.pathTablesUptoRow.holds Tryz.pinned (Rows.OpenSpec.upto Rows.pathTablesSpec):=
 OpenClaim.holds_of_cond 10 Tryz.f10 rfl rfl rfl rfl rfl rfl rfl ⟨rfl,rfl,rfl,rfl,rfl⟩ rfl rfl rfl rfl rfl (by as_aux_lemma=>kernel_rfl) Tryz.func10 qCS
  (of_decide_eq_true (by kernel_rfl)) (by unfold Func.isWrapper;first|(rw [if_pos (by decide+kernel)];kernel_rfl)|(rw [if_neg (by decide+kernel)];exact ⟨rfl,rfl⟩))
  (fun os started H enc _ F=>qCz os started H enc F)
theorem proved:Rows.PathTablesUptoSaid:=
 qDD
end Go.Proofs.YtcnlcmbchljpgaaGreat.pathTables
