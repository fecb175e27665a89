/-
  PathOwn (law20) answers true and leaves its arguments as they were. The statement holds at every input of bulk at most 1048576.
-/
import Derived.Test.YtcnlcmbchljpgaaGreatRows
import Derived.WalkKit
import Derived.ProofKit
import Derived.OpenShut
import Derived.JoinedCond
import Derived.Test.YtcnlcmbchljpgaaGreatPo22
import Derived.Test.YtcnlcmbchljpgaaGreatPo27
import Derived.Test.YtcnlcmbchljpgaaGreatPo18
set_option linter.unusedVariables false
namespace Go.Proofs.YtcnlcmbchljpgaaGreat.pathOwn
open Go.ChangeShapes Go.WideShapes Go.ChangeAt Go.RowKit
set_option linter.unusedVariables false
set_option maxRecDepth 100000
set_option maxHeartbeats 0
theorem own:ownKnob Tryz.prog.godebug=none:=by kernel_rfl
theorem qBE:laidOutB Tryz.prog=true:=by kernel_rfl
theorem zHg {H:Type} {d:DataW H} : ∀ {l:List (DataW H)},d∈l→Rows.uptoBulk d≤Rows.uptoBulkAll l:=by
 intro l
 induction l with
 |nil=>intro h;cases h
 |cons e l ih=>
  intro h
  simp only [Rows.uptoBulkAll]
  rcases List.mem_cons.1 h with rfl|h
  ·omega
  ·have:=ih h;omega
theorem zYx {H:Type} (d:DataW H):1≤Rows.uptoBulk d:=by
 cases d with
 |lit l=>cases l<;>simp [Rows.uptoBulk]
 |_=>simp [Rows.uptoBulk]
theorem zTg {H:Type} : ∀ (l:List (DataW H)),l.length≤Rows.uptoBulkAll l:=by
 intro l
 induction l with
 |nil=>simp
 |cons e l ih=>have:=zYx e;simp only [Rows.uptoBulkAll,List.length_cons];omega
theorem qBI (H:Type):Ve.zYO (H:=H) Rows.uptoBulk where
 slice:=fun es sp=>⟨by have:=zTg es;simp only [Rows.uptoBulk];omega,fun e he=>by have:=zHg he;simp only [Rows.uptoBulk];omega⟩
 agg:=fun ps p hp=>by have:=zHg hp;simp only [Rows.uptoBulk];omega
 str:=fun bs=>by simp only [Rows.uptoBulk];omega
theorem zV0:(Tryz.f13.params.toList.all fun t=>Ve.zED Tryz.prog 12 t&&Tryz.prog.readableRec t&&decide (t<Tryz.prog.types.size))=true:=by kernel_rfl
theorem qAd:Tryz.f13.params.toList.mapM (Ve.zIA Tryz.prog 12)=some [Ve.zQ, .sl Ve.tI, .sl Ve.zT]:=by kernel_rfl
theorem qAk:Tryz.f13.resultTypes= #[4]:=by kernel_rfl
theorem zZM:Tryz.prog.underlying 4=some .bool:=by kernel_rfl
theorem zY0:Tryz.f13.params.size=3:=by kernel_rfl
theorem zYv (H:Type) (enc:TypeId×Value→H) (W:World) (base:Nat) (args:Array Value) (ds gs:List (DataW H)) (before:List MemPlace)
  (hk:Rows.uptoSmall H (ds++gs)=true)
  (hval: ∀ (j:Nat) t v,Tryz.f13.params[j]? =some t→args[j]? =some v→Value.okWide Tryz.prog W .any base t v)
  (hW:DataW.Whole enc Tryz.prog Tryz.f13.params.toList Rows.pathOwnSpec.vars false W args.toList ds gs before):
  Calls Tryz.prog 13 args W fun e W'=> ∃v,e= .returned v∧Rows.pathOwnSpec.post enc Tryz.prog Tryz.f13 false true false false W args v W':=by
 have hsm:Rows.uptoBulkAll (ds++gs)≤1048576:=of_decide_eq_true hk
 refine Ve.zQY (bk:=Rows.uptoBulk) (N:=1048576) qBE (qBI H) ?_ qAd rfl ?_ qAk zZM ?_ Ve.zLj hval hW ?_
 ·intro t ht
  have:=List.all_eq_true.1 zV0 t ht
  simp only [Bool.and_eq_true,decide_eq_true_eq] at this
  exact ⟨this.1.1,this.1.2,this.2⟩
 ·intro ds hd
  rw [zY0] at hd
  match ds,hd with
  |[a,b,c],_=>rfl
 ·exact Ve.zKS
 ·intro d hd
  exact Nat.le_trans (zHg (List.mem_append_left _ hd)) hsm
theorem qAv (os:Os) (started:os.Started) (H:Type) (enc:TypeId×Value→H) (F:Stop.Interp):
  ReturnsInHanded {} Tryz.checked os 13 .any ((Rows.OpenSpec.upto Rows.pathOwnSpec).pre6 enc Tryz.prog Tryz.f13 Rows.pathOwnUptoRow.domain false) (((Rows.OpenSpec.upto Rows.pathOwnSpec).at F).post enc Tryz.prog Tryz.f13 false true false false):=by
 refine returnsInHanded_of_cond (C:=Tryz.checked) (s:=Rows.OpenSpec.upto Rows.pathOwnSpec) (k:=Rows.uptoSmall) rfl own started (by kernel_rfl) Tryz.func13
  (OpenSpec.witness (enc:=enc) (C:=Tryz.checked) (s:=Rows.OpenSpec.upto Rows.pathOwnSpec) (k:=Rows.uptoSmall) rfl false ⟨#[], #[.agg #[.slice none 0 0], .slice none 0 0, .slice none 0 0],[]⟩ 8 (by kernel_rfl) (by kernel_rfl) (by kernel_rfl)
   (x:=([.agg [.nil], .nil, .nil],[],[])) (by kernel_rfl) rfl (by kernel_rfl)) ?_
 intro W base args ds gs before hval hW _ hk _
 exact zYv H enc W base args ds gs before hk hval hW
theorem qAO:joinedFacts Tryz.prog 13 Tryz.f13 (Rows.OpenSpec.upto Rows.pathOwnSpec).bare Rows.pathOwnUptoRow=true:=by
 unfold joinedFacts
 simp only [Bool.and_eq_true]
 repeat' apply And.intro
 all_goals as_aux_lemma=>kernel_rfl
theorem qBB:Rows.pathOwnUptoRow.holds Tryz.pinned (Rows.OpenSpec.upto Rows.pathOwnSpec):=
 OpenClaim.holds_of_cond 13 Tryz.f13 rfl rfl rfl rfl rfl rfl rfl ⟨rfl,rfl,rfl,rfl,rfl⟩ rfl rfl rfl rfl rfl (by as_aux_lemma=>kernel_rfl) Tryz.func13 qAO
  (of_decide_eq_true (by kernel_rfl)) (by unfold Func.isWrapper;first|(rw [if_pos (by decide+kernel)];kernel_rfl)|(rw [if_neg (by decide+kernel)];exact ⟨rfl,rfl⟩))
  (fun os started H enc _ F=>qAv os started H enc F)
theorem proved:Rows.PathOwnUptoSaid:=
 qBB
end Go.Proofs.YtcnlcmbchljpgaaGreat.pathOwn
