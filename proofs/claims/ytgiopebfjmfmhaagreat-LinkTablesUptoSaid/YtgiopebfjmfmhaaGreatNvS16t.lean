/- law16 -/
import Derived.Test.YtgiopebfjmfmhaaGreatRows
import Derived.WalkKit
import Derived.ProofKit
import Derived.OpenShut
import Derived.JoinedCond
import Derived.Test.YtgiopebfjmfmhaaGreatLt25
import Derived.Test.YtgiopebfjmfmhaaGreatLt33
import Derived.Test.YtgiopebfjmfmhaaGreatLt18
set_option linter.unusedVariables false
open Bool renaming false->J
open Go.Proofs.Tryz renaming prog->Aa,checked->Ab,f9->Ac
set_option maxRecDepth 100000
set_option maxHeartbeats 0
namespace Go.Proofs.YtgiopebfjmfmhaaGreat.linkTables
open Go.ChangeShapes Go.WideShapes Go.ChangeAt Go.RowKit
set_option linter.unusedVariables false
theorem own:ownKnob Tryz.prog.godebug=none:=by kernel_rfl
theorem qIf:laidOutB Aa=true:=by kernel_rfl
variable {g:Type}
theorem zKI{d:DataW g}:∀{l:List (DataW g)},d∈l->Rows.uptoBulk d<=Rows.uptoBulkAll l:=by
 intro l
 induction l with
 |nil=>intro h;cases h
 |cons e l a=>
  intro h;simp only[Rows.uptoBulkAll];rcases List.mem_cons.1 h with rfl|h
  .omega
  .have:=a h;omega
theorem qE9(d:DataW g):1<=Rows.uptoBulk d:=by
 cases d with
 |lit l=>cases l<;>simp[Rows.uptoBulk]
 |_=>simp[Rows.uptoBulk]
theorem zYG:∀(l:List (DataW g)),l.length<=Rows.uptoBulkAll l:=by
 intro l
 induction l with
 |nil=>simp
 |cons e l a=>have:=qE9 e;simp only[Rows.uptoBulkAll,List.length_cons];omega
theorem qIi(H:Type):Ve.qFt (H:=H) Rows.uptoBulk where
 slice:=fun a f=>⟨by have:=zYG a;simp only[Rows.uptoBulk];omega,fun e c=>by have:=zKI c;simp only[Rows.uptoBulk];omega⟩
 agg:=fun g p d=>by have:=zKI d;simp only[Rows.uptoBulk];omega
 str:=fun h=>by simp only[Rows.uptoBulk];omega
theorem qCb:(Tryz.f9.params.toList.all fun t=>Ve.zHM Aa 12 t&&Tryz.prog.readableRec t&&decide (t<Tryz.prog.types.size))=true:=by kernel_rfl
theorem qG5:Tryz.f9.params.toList.mapM (Ve.zL8 Aa 12)=some [Ve.zJ,.sl Ve.tI,.sl (.sl Ve.zC)]:=by kernel_rfl
theorem qHa:Tryz.f9.resultTypes= #[4]:=by kernel_rfl
theorem qGA:Tryz.prog.underlying 4=some .bool:=by kernel_rfl
theorem qFJ:Tryz.f9.params.size=3:=by kernel_rfl
theorem qE5(H:Type)(enc:TypeId×Value->H)(W:World)(g:Nat)(args:Array Value)(ds k:List (DataW H))(f:List MemPlace)
  (m:Rows.uptoSmall H (ds++k)=true)
  (h:∀(j:Nat) t v,Tryz.f9.params[j]?=some t->args[j]?=some v->Value.okWide Aa W .any g t v)
  (n:DataW.Whole enc Aa Tryz.f9.params.toList Rows.linkTablesSpec.vars J W args.toList ds k f):
  Calls Aa 9 args W fun e p=>∃v,e=.returned v/\Rows.linkTablesSpec.post enc Aa Ac J true J J W args v p:=by
 have l:Rows.uptoBulkAll (ds++k)<=1048576:=of_decide_eq_true m;refine Ve.zV2 (bk:=Rows.uptoBulk) (N:=1048576) qIf (qIi H) ?_ qG5 rfl ?_ qHa qGA ?_ Ve.zLu h n ?_
 .intro t q;have:=List.all_eq_true.1 qCb t q;simp only[Bool.and_eq_true,decide_eq_true_eq]at this;exact⟨this.1.1,this.1.2,this.2⟩
 .intro ds i;rw[qFJ]at i
  match ds,i with
  |[a,b,c],_=>rfl
 .exact Ve.zKN
 .intro d i;exact Nat.le_trans (zKI (List.mem_append_left _ i)) l
theorem qHi(os:Os)(a:os.Started)(H:Type)(enc:TypeId×Value->H)(F:Stop.Interp):
  ReturnsInHanded {} Ab os 9 .any ((Rows.OpenSpec.upto Rows.linkTablesSpec).pre6 enc Aa Ac Rows.linkTablesUptoRow.domain J) (((Rows.OpenSpec.upto Rows.linkTablesSpec).at F).post enc Aa Ac J true J J):=by
 refine returnsInHanded_of_cond (C:=Ab) (s:=Rows.OpenSpec.upto Rows.linkTablesSpec) (k:=Rows.uptoSmall) rfl own a (by kernel_rfl) Tryz.func9
  (OpenSpec.witness (enc:=enc) (C:=Ab) (s:=Rows.OpenSpec.upto Rows.linkTablesSpec) (k:=Rows.uptoSmall) rfl J ⟨#[], #[.agg #[.slice none 0 0],.slice none 0 0,.slice none 0 0],[]⟩ 8 (by kernel_rfl) (by kernel_rfl) (by kernel_rfl)
   (x:=([.agg [.nil],.nil,.nil],[],[])) (by kernel_rfl) rfl (by kernel_rfl)) ?_
 intro W d e g h c f i _ j _;exact qE5 H enc W d e g h c j f i
theorem qHB:joinedFacts Aa 9 Ac (Rows.OpenSpec.upto Rows.linkTablesSpec).bare Rows.linkTablesUptoRow=true:=by
 unfold joinedFacts;simp only[Bool.and_eq_true]
 repeat' apply And.intro
 all_goals as_aux_lemma=>kernel_rfl
theorem qIc:Rows.linkTablesUptoRow.holds Tryz.pinned (Rows.OpenSpec.upto Rows.linkTablesSpec):=
 OpenClaim.holds_of_cond 9 Ac rfl rfl rfl rfl rfl rfl rfl ⟨rfl,rfl,rfl,rfl,rfl⟩ rfl rfl rfl rfl rfl (by as_aux_lemma=>kernel_rfl) Tryz.func9 qHB
  (of_decide_eq_true (by kernel_rfl)) (by unfold Func.isWrapper;first|(rw[if_pos (by decide+kernel)];kernel_rfl)|(rw[if_neg (by decide+kernel)];exact⟨rfl,rfl⟩))
  (fun c a H enc _ F=>qHi c a H enc F)
theorem proved:Rows.LinkTablesUptoSaid:=
 qIc
end Go.Proofs.YtgiopebfjmfmhaaGreat.linkTables
