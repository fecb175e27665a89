/- law16 -/
import Derived.Test.YtgiopebfjmfmhaaGreatRows
import Derived.WalkKit
import Derived.ProofKit
import Derived.OpenShut
import Derived.JoinedCond
import Derived.Test.YtgiopebfjmfmhaaGreatLp25
import Derived.Test.YtgiopebfjmfmhaaGreatLp33
import Derived.Test.YtgiopebfjmfmhaaGreatLp18
set_option linter.unusedVariables false
open Bool renaming false->J
open Go.Proofs.Tryz renaming prog->Aa,f10->Ab,checked->Ac
set_option maxRecDepth 100000
set_option maxHeartbeats 0
namespace Go.Proofs.YtgiopebfjmfmhaaGreat.linkPartition
open Go.ChangeShapes Go.WideShapes Go.ChangeAt Go.RowKit
set_option linter.unusedVariables false
theorem own:ownKnob Tryz.prog.godebug=none:=by kernel_rfl
theorem qHC:laidOutB Aa=true:=by kernel_rfl
variable {g:Type}
theorem zKl{d:DataW g}:∀{l:List (DataW g)},d∈l->Rows.uptoBulk d<=Rows.uptoBulkAll l:=by
 intro l
 induction l with
 |nil=>intro h;cases h
 |cons e l a=>
  intro h;simp only[Rows.uptoBulkAll];rcases List.mem_cons.1 h with rfl|h
  .omega
  .have:=a h;omega
theorem qEu(d:DataW g):1<=Rows.uptoBulk d:=by
 cases d with
 |lit l=>cases l<;>simp[Rows.uptoBulk]
 |_=>simp[Rows.uptoBulk]
theorem zX4:∀(l:List (DataW g)),l.length<=Rows.uptoBulkAll l:=by
 intro l
 induction l with
 |nil=>simp
 |cons e l a=>have:=qEu e;simp only[Rows.uptoBulkAll,List.length_cons];omega
theorem qHF(H:Type):Ve.qEN (H:=H) Rows.uptoBulk where
 slice:=fun a f=>⟨by have:=zX4 a;simp only[Rows.uptoBulk];omega,fun e c=>by have:=zKl c;simp only[Rows.uptoBulk];omega⟩
 agg:=fun g p d=>by have:=zKl d;simp only[Rows.uptoBulk];omega
 str:=fun h=>by simp only[Rows.uptoBulk];omega
theorem qBu:(Tryz.f10.params.toList.all fun t=>Ve.zHx Aa 12 t&&Tryz.prog.readableRec t&&decide (t<Tryz.prog.types.size))=true:=by kernel_rfl
theorem qGp:Tryz.f10.params.toList.mapM (Ve.zLJ Aa 12)=some [Ve.zI,.sl Ve.tI]:=by kernel_rfl
theorem qGu:Tryz.f10.resultTypes= #[4]:=by kernel_rfl
theorem qFU:Tryz.prog.underlying 4=some .bool:=by kernel_rfl
theorem qE4:Tryz.f10.params.size=2:=by kernel_rfl
theorem qEp(H:Type)(enc:TypeId×Value->H)(W:World)(f:Nat)(args:Array Value)(ds i:List (DataW H))(c:List MemPlace)
  (l:Rows.uptoSmall H (ds++i)=true)
  (g:∀(j:Nat) t v,Tryz.f10.params[j]?=some t->args[j]?=some v->Value.okWide Aa W .any f t v)
  (m:DataW.Whole enc Aa Tryz.f10.params.toList Rows.linkPartitionSpec.vars J W args.toList ds i c):
  Calls Aa 10 args W fun e n=>∃v,e=.returned v/\Rows.linkPartitionSpec.post enc Aa Ab J true J J W args v n:=by
 have k:Rows.uptoBulkAll (ds++i)<=1048576:=of_decide_eq_true l;refine Ve.zVo (bk:=Rows.uptoBulk) (N:=1048576) qHC (qHF H) ?_ qGp rfl ?_ qGu qFU ?_ Ve.zIv g m ?_
 .intro t p;have:=List.all_eq_true.1 qBu t p;simp only[Bool.and_eq_true,decide_eq_true_eq]at this;exact⟨this.1.1,this.1.2,this.2⟩
 .intro ds h;rw[qE4]at h
  match ds,h with
  |[a,b],_=>rfl
 .exact Ve.zH8
 .intro d h;exact Nat.le_trans (zKl (List.mem_append_left _ h)) k
theorem qGC(os:Os)(a:os.Started)(H:Type)(enc:TypeId×Value->H)(F:Stop.Interp):
  ReturnsInHanded {} Ac os 10 .any ((Rows.OpenSpec.upto Rows.linkPartitionSpec).pre6 enc Aa Ab Rows.linkPartitionUptoRow.domain J) (((Rows.OpenSpec.upto Rows.linkPartitionSpec).at F).post enc Aa Ab J true J J):=by
 refine returnsInHanded_of_cond (C:=Ac) (s:=Rows.OpenSpec.upto Rows.linkPartitionSpec) (k:=Rows.uptoSmall) rfl own a (by kernel_rfl) Tryz.func10
  (OpenSpec.witness (enc:=enc) (C:=Ac) (s:=Rows.OpenSpec.upto Rows.linkPartitionSpec) (k:=Rows.uptoSmall) rfl J ⟨#[], #[.agg #[.slice none 0 0],.slice none 0 0],[]⟩ 8 (by kernel_rfl) (by kernel_rfl) (by kernel_rfl)
   (x:=([.agg [.nil],.nil],[],[])) (by kernel_rfl) rfl (by kernel_rfl)) ?_
 intro W d e g h c f i _ j _;exact qEp H enc W d e g h c j f i
theorem qGW:joinedFacts Aa 10 Ab (Rows.OpenSpec.upto Rows.linkPartitionSpec).bare Rows.linkPartitionUptoRow=true:=by
 unfold joinedFacts;simp only[Bool.and_eq_true]
 repeat' apply And.intro
 all_goals as_aux_lemma=>kernel_rfl
theorem qHz:Rows.linkPartitionUptoRow.holds Tryz.pinned (Rows.OpenSpec.upto Rows.linkPartitionSpec):=
 OpenClaim.holds_of_cond 10 Ab rfl rfl rfl rfl rfl rfl rfl ⟨rfl,rfl,rfl,rfl,rfl⟩ rfl rfl rfl rfl rfl (by as_aux_lemma=>kernel_rfl) Tryz.func10 qGW
  (of_decide_eq_true (by kernel_rfl)) (by unfold Func.isWrapper;first|(rw[if_pos (by decide+kernel)];kernel_rfl)|(rw[if_neg (by decide+kernel)];exact⟨rfl,rfl⟩))
  (fun c a H enc _ F=>qGC c a H enc F)
theorem proved:Rows.LinkPartitionUptoSaid:=
 qHz
end Go.Proofs.YtgiopebfjmfmhaaGreat.linkPartition
