/-
  PathSessions (law20) answers true and leaves its arguments as they were. The statement holds at every input of bulk at most 1048576.
-/
import Derived.Test.YtcnlcmbchljpgaaGreatRows
import Derived.WalkKit
import Derived.ProofKit
import Derived.OpenShut
import Derived.JoinedCond
import Derived.Test.YtcnlcmbchljpgaaGreatPs21
import Derived.Test.YtcnlcmbchljpgaaGreatPs26
import Derived.Test.YtcnlcmbchljpgaaGreatPs17
set_option linter.unusedVariables false
namespace Go.Proofs.YtcnlcmbchljpgaaGreat.pathSessions
open Go.ChangeShapes Go.WideShapes Go.ChangeAt Go.RowKit
set_option linter.unusedVariables false
set_option maxRecDepth 100000
set_option maxHeartbeats 0
theorem own:ownKnob Tryz.prog.godebug=none:=by kernel_rfl
theorem qAt:laidOutB Tryz.prog=true:=by kernel_rfl
theorem zGE {H:Type} {d:DataW H} : ∀ {l:List (DataW H)},d∈l→Rows.uptoBulk d≤Rows.uptoBulkAll l:=by
 intro l
 induction l with
 |nil=>intro h;cases h
 |cons e l ih=>
  intro h
  simp only [Rows.uptoBulkAll]
  rcases List.mem_cons.1 h with rfl|h
  ·omega
  ·have:=ih h;omega
theorem zXp {H:Type} (d:DataW H):1≤Rows.uptoBulk d:=by
 cases d with
 |lit l=>cases l<;>simp [Rows.uptoBulk]
 |_=>simp [Rows.uptoBulk]
theorem zSf {H:Type} : ∀ (l:List (DataW H)),l.length≤Rows.uptoBulkAll l:=by
 intro l
 induction l with
 |nil=>simp
 |cons e l ih=>have:=zXp e;simp only [Rows.uptoBulkAll,List.length_cons];omega
theorem qAx (H:Type):Ve.zXI (H:=H) Rows.uptoBulk where
 slice:=fun es sp=>⟨by have:=zSf es;simp only [Rows.uptoBulk];omega,fun e he=>by have:=zGE he;simp only [Rows.uptoBulk];omega⟩
 agg:=fun ps p hp=>by have:=zGE hp;simp only [Rows.uptoBulk];omega
 str:=fun bs=>by simp only [Rows.uptoBulk];omega
theorem zUX:(Tryz.f7.params.toList.all fun t=>Ve.zEb Tryz.prog 12 t&&Tryz.prog.readableRec t&&decide (t<Tryz.prog.types.size))=true:=by kernel_rfl
theorem zY5:Tryz.f7.params.toList.mapM (Ve.zHS Tryz.prog 12)=some [Ve.zT, .sl Ve.tI]:=by kernel_rfl
theorem zZd:Tryz.f7.resultTypes= #[4]:=by kernel_rfl
theorem zYF:Tryz.prog.underlying 4=some .bool:=by kernel_rfl
theorem zXW:Tryz.f7.params.size=2:=by kernel_rfl
theorem zXn (H:Type) (enc:TypeId×Value→H) (W:World) (base:Nat) (args:Array Value) (ds gs:List (DataW H)) (before:List MemPlace)
  (hk:Rows.uptoSmall H (ds++gs)=true)
  (hval: ∀ (j:Nat) t v,Tryz.f7.params[j]? =some t→args[j]? =some v→Value.okWide Tryz.prog W .any base t v)
  (hW:DataW.Whole enc Tryz.prog Tryz.f7.params.toList Rows.pathSessionsSpec.vars false W args.toList ds gs before):
  Calls Tryz.prog 7 args W fun e W'=> ∃v,e= .returned v∧Rows.pathSessionsSpec.post enc Tryz.prog Tryz.f7 false true false false W args v W':=by
 have hsm:Rows.uptoBulkAll (ds++gs)≤1048576:=of_decide_eq_true hk
 refine Ve.zP6 (bk:=Rows.uptoBulk) (N:=1048576) qAt (qAx H) ?_ zY5 rfl ?_ zZd zYF ?_ Ve.zFN hval hW ?_
 ·intro t ht
  have:=List.all_eq_true.1 zUX t ht
  simp only [Bool.and_eq_true,decide_eq_true_eq] at this
  exact ⟨this.1.1,this.1.2,this.2⟩
 ·intro ds hd
  rw [zXW] at hd
  match ds,hd with
  |[a,b],_=>rfl
 ·exact Ve.zFl
 ·intro d hd
  exact Nat.le_trans (zGE (List.mem_append_left _ hd)) hsm
theorem zZn (os:Os) (started:os.Started) (H:Type) (enc:TypeId×Value→H) (F:Stop.Interp):
  ReturnsInHanded {} Tryz.checked os 7 .any ((Rows.OpenSpec.upto Rows.pathSessionsSpec).pre6 enc Tryz.prog Tryz.f7 Rows.pathSessionsUptoRow.domain false) (((Rows.OpenSpec.upto Rows.pathSessionsSpec).at F).post enc Tryz.prog Tryz.f7 false true false false):=by
 refine returnsInHanded_of_cond (C:=Tryz.checked) (s:=Rows.OpenSpec.upto Rows.pathSessionsSpec) (k:=Rows.uptoSmall) rfl own started (by kernel_rfl) Tryz.func7
  (OpenSpec.witness (enc:=enc) (C:=Tryz.checked) (s:=Rows.OpenSpec.upto Rows.pathSessionsSpec) (k:=Rows.uptoSmall) rfl false ⟨#[], #[.agg #[.slice none 0 0], .slice none 0 0],[]⟩ 8 (by kernel_rfl) (by kernel_rfl) (by kernel_rfl)
   (x:=([.agg [.nil], .nil],[],[])) (by kernel_rfl) rfl (by kernel_rfl)) ?_
 intro W base args ds gs before hval hW _ hk _
 exact zXn H enc W base args ds gs before hk hval hW
theorem zZG:joinedFacts Tryz.prog 7 Tryz.f7 (Rows.OpenSpec.upto Rows.pathSessionsSpec).bare Rows.pathSessionsUptoRow=true:=by
 unfold joinedFacts
 simp only [Bool.and_eq_true]
 repeat' apply And.intro
 all_goals as_aux_lemma=>kernel_rfl
theorem qAq:Rows.pathSessionsUptoRow.holds Tryz.pinned (Rows.OpenSpec.upto Rows.pathSessionsSpec):=
 OpenClaim.holds_of_cond 7 Tryz.f7 rfl rfl rfl rfl rfl rfl rfl ⟨rfl,rfl,rfl,rfl,rfl⟩ rfl rfl rfl rfl rfl (by as_aux_lemma=>kernel_rfl) Tryz.func7 zZG
  (of_decide_eq_true (by kernel_rfl)) (by unfold Func.isWrapper;first|(rw [if_pos (by decide+kernel)];kernel_rfl)|(rw [if_neg (by decide+kernel)];exact ⟨rfl,rfl⟩))
  (fun os started H enc _ F=>zZn os started H enc F)
theorem proved:Rows.PathSessionsUptoSaid:=
 qAq
end Go.Proofs.YtcnlcmbchljpgaaGreat.pathSessions
