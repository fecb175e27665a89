/-
  PathLoops (law20) answers true and leaves its arguments as they were. The statement holds at every input of bulk at most 1048576.
-/
import Derived.Test.YtcnlcmbchljpgaaGreatRows
import Derived.WalkKit
import Derived.ProofKit
import Derived.OpenShut
import Derived.JoinedCond
import Derived.Test.YtcnlcmbchljpgaaGreatPl21
import Derived.Test.YtcnlcmbchljpgaaGreatPl26
import Derived.Test.YtcnlcmbchljpgaaGreatPl17
set_option linter.unusedVariables false
namespace Go.Proofs.YtcnlcmbchljpgaaGreat.pathLoops
open Go.ChangeShapes Go.WideShapes Go.ChangeAt Go.RowKit
set_option linter.unusedVariables false
set_option maxRecDepth 100000
set_option maxHeartbeats 0
theorem own:ownKnob Tryz.prog.godebug=none:=by kernel_rfl
theorem qA0:laidOutB Tryz.prog=true:=by kernel_rfl
theorem zG2 {H:Type} {d:DataW H} : ∀ {l:List (DataW H)},d∈l→Rows.uptoBulk d≤Rows.uptoBulkAll l:=by
 intro l
 induction l with
 |nil=>intro h;cases h
 |cons e l ih=>
  intro h
  simp only [Rows.uptoBulkAll]
  rcases List.mem_cons.1 h with rfl|h
  ·omega
  ·have:=ih h;omega
theorem zXZ {H:Type} (d:DataW H):1≤Rows.uptoBulk d:=by
 cases d with
 |lit l=>cases l<;>simp [Rows.uptoBulk]
 |_=>simp [Rows.uptoBulk]
theorem zSV {H:Type} : ∀ (l:List (DataW H)),l.length≤Rows.uptoBulkAll l:=by
 intro l
 induction l with
 |nil=>simp
 |cons e l ih=>have:=zXZ e;simp only [Rows.uptoBulkAll,List.length_cons];omega
theorem qA4 (H:Type):Ve.zYj (H:=H) Rows.uptoBulk where
 slice:=fun es sp=>⟨by have:=zSV es;simp only [Rows.uptoBulk];omega,fun e he=>by have:=zG2 he;simp only [Rows.uptoBulk];omega⟩
 agg:=fun ps p hp=>by have:=zG2 hp;simp only [Rows.uptoBulk];omega
 str:=fun bs=>by simp only [Rows.uptoBulk];omega
theorem zVD:(Tryz.f11.params.toList.all fun t=>Ve.zEt Tryz.prog 12 t&&Tryz.prog.readableRec t&&decide (t<Tryz.prog.types.size))=true:=by kernel_rfl
theorem zZD:Tryz.f11.params.toList.mapM (Ve.zIf Tryz.prog 12)=some [Ve.zV, .sl Ve.tI,Ve.zA]:=by kernel_rfl
theorem zZL:Tryz.f11.resultTypes= #[4]:=by kernel_rfl
theorem zZf:Tryz.prog.underlying 4=some .bool:=by kernel_rfl
theorem zYv:Tryz.f11.params.size=3:=by kernel_rfl
theorem zXX (H:Type) (enc:TypeId×Value→H) (W:World) (base:Nat) (args:Array Value) (ds gs:List (DataW H)) (before:List MemPlace)
  (hk:Rows.uptoSmall H (ds++gs)=true)
  (hval: ∀ (j:Nat) t v,Tryz.f11.params[j]? =some t→args[j]? =some v→Value.okWide Tryz.prog W .any base t v)
  (hW:DataW.Whole enc Tryz.prog Tryz.f11.params.toList Rows.pathLoopsSpec.vars false W args.toList ds gs before):
  Calls Tryz.prog 11 args W fun e W'=> ∃v,e= .returned v∧Rows.pathLoopsSpec.post enc Tryz.prog Tryz.f11 false true false false W args v W':=by
 have hsm:Rows.uptoBulkAll (ds++gs)≤1048576:=of_decide_eq_true hk
 refine Ve.zQK (bk:=Rows.uptoBulk) (N:=1048576) qA0 (qA4 H) ?_ zZD rfl ?_ zZL zZf ?_ Ve.zIP hval hW ?_
 ·intro t ht
  have:=List.all_eq_true.1 zVD t ht
  simp only [Bool.and_eq_true,decide_eq_true_eq] at this
  exact ⟨this.1.1,this.1.2,this.2⟩
 ·intro ds hd
  rw [zYv] at hd
  match ds,hd with
  |[a,b,c],_=>rfl
 ·exact Ve.zHZ
 ·intro d hd
  exact Nat.le_trans (zG2 (List.mem_append_left _ hd)) hsm
theorem zZV (os:Os) (started:os.Started) (H:Type) (enc:TypeId×Value→H) (F:Stop.Interp):
  ReturnsInHanded {} Tryz.checked os 11 .any ((Rows.OpenSpec.upto Rows.pathLoopsSpec).pre6 enc Tryz.prog Tryz.f11 Rows.pathLoopsUptoRow.domain false) (((Rows.OpenSpec.upto Rows.pathLoopsSpec).at F).post enc Tryz.prog Tryz.f11 false true false false):=by
 refine returnsInHanded_of_cond (C:=Tryz.checked) (s:=Rows.OpenSpec.upto Rows.pathLoopsSpec) (k:=Rows.uptoSmall) rfl own started (by kernel_rfl) Tryz.func11
  (OpenSpec.witness (enc:=enc) (C:=Tryz.checked) (s:=Rows.OpenSpec.upto Rows.pathLoopsSpec) (k:=Rows.uptoSmall) rfl false ⟨#[], #[.agg #[.slice none 0 0], .slice none 0 0, .agg #[.int .u32 0, .int .i64 0, .int .i64 0, .int .i64 0, .int .i64 0, .int .i64 0, .int .i64 0, .int .i64 0, .int .i64 0, .slice none 0 0, .int .u32 0, .int .u32 0, .slice none 0 0, .bool false]],[]⟩ 8 (by kernel_rfl) (by kernel_rfl) (by kernel_rfl)
   (x:=([.agg [.nil], .nil, .agg [.agg [.lit (.int .u32 0), .lit (.int .i64 0)], .lit (.int .i64 0), .lit (.int .i64 0), .lit (.int .i64 0), .lit (.int .i64 0), .lit (.int .i64 0), .lit (.int .i64 0), .lit (.int .i64 0), .nil, .lit (.int .u32 0), .lit (.int .u32 0), .nil, .lit (.bool false)]],[],[])) (by kernel_rfl) rfl (by kernel_rfl)) ?_
 intro W base args ds gs before hval hW _ hk _
 exact zXX H enc W base args ds gs before hk hval hW
theorem qAe:joinedFacts Tryz.prog 11 Tryz.f11 (Rows.OpenSpec.upto Rows.pathLoopsSpec).bare Rows.pathLoopsUptoRow=true:=by
 unfold joinedFacts
 simp only [Bool.and_eq_true]
 repeat' apply And.intro
 all_goals as_aux_lemma=>kernel_rfl
theorem qAX:Rows.pathLoopsUptoRow.holds Tryz.pinned (Rows.OpenSpec.upto Rows.pathLoopsSpec):=
 OpenClaim.holds_of_cond 11 Tryz.f11 rfl rfl rfl rfl rfl rfl rfl ⟨rfl,rfl,rfl,rfl,rfl⟩ rfl rfl rfl rfl rfl (by as_aux_lemma=>kernel_rfl) Tryz.func11 qAe
  (of_decide_eq_true (by kernel_rfl)) (by unfold Func.isWrapper;first|(rw [if_pos (by decide+kernel)];kernel_rfl)|(rw [if_neg (by decide+kernel)];exact ⟨rfl,rfl⟩))
  (fun os started H enc _ F=>zZV os started H enc F)
theorem proved:Rows.PathLoopsUptoSaid:=
 qAX
end Go.Proofs.YtcnlcmbchljpgaaGreat.pathLoops
