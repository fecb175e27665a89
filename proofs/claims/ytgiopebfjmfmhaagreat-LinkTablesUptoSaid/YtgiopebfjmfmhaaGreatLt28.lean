/- law16 -/
import Derived.Test.YtgiopebfjmfmhaaGreatLt26
import Derived.Test.YtgiopebfjmfmhaaGreatLt27
set_option linter.unusedVariables false
set_option maxRecDepth 1000000
set_option maxHeartbeats 4000000
namespace Go.Ve
noncomputable section
open Go Go.Proofs
def zCY:∀a0 x,Cmp (wC a0 x):=by
 rintro a0 ⟨a,c,⟨⟩⟩
 delta wC
 dsimp only
 repeat' (with_reducible first|refine Cmp.bnd ?_ (fun _=>?_)|refine Cmp.cnd _ ?_ ?_|refine Cmp.ct ?_ (fun _=>?_)|refine Cmp.lp 12 (fun _=>?_) _|refine Cmp.ite _ ?_ ?_|refine Cmp.map _ ?_|refine Cmp.mo (fun _=>?_) _)
 all_goals exact Cmp.self _
def zFQ:∀a0 x,Cmp (uP a0 x):=by rintro a0 ⟨a,n,l,⟨⟩⟩;exact Cmp.ite _ (zCY _ _) (Cmp.self _)
def zHj:∀a0 x,Cmp (zAY a0 x):=by
 rintro a0 ⟨⟩
 delta zAY
 try dsimp only
 repeat' (with_reducible first|exact zFQ _ _|refine Cmp.bnd ?_ (fun _=>?_)|refine Cmp.cnd _ ?_ ?_|refine Cmp.ct ?_ (fun _=>?_)|refine Cmp.lp 12 (fun _=>?_) _|refine Cmp.ite _ ?_ ?_|refine Cmp.map _ ?_|refine Cmp.mo (fun _=>?_) _)
 all_goals exact Cmp.self _
def zOH:∀x,Cmp (zCn x):=by
 rintro⟨a,c,⟨⟩⟩
 delta zCn
 dsimp only
 repeat' (with_reducible first|exact zA8 _|exact zHj _ _|refine Cmp.bnd ?_ (fun _=>?_)|refine Cmp.cnd _ ?_ ?_|refine Cmp.ct ?_ (fun _=>?_)|refine Cmp.lp 12 (fun _=>?_) _|refine Cmp.ite _ ?_ ?_|refine Cmp.map _ ?_|refine Cmp.mo (fun _=>?_) _)
 all_goals exact Cmp.self _
def zM8:∀x,Cmp (zAy x):=by
 rintro⟨a,c,⟨⟩⟩
 delta zAy
 dsimp only
 repeat' (with_reducible first|exact zOH _|exact zD7 _|refine Cmp.bnd ?_ (fun _=>?_)|refine Cmp.cnd _ ?_ ?_|refine Cmp.ct ?_ (fun _=>?_)|refine Cmp.lp 12 (fun _=>?_) _|refine Cmp.ite _ ?_ ?_|refine Cmp.map _ ?_|refine Cmp.mo (fun _=>?_) _)
 all_goals exact Cmp.self _
example:zAY [0,0] ()=some ([0,0],()):=(zHj _ _).le _ (by kernel_rfl)
example:zEy (2,())=some 2:=by kernel_rfl
example:yU [0,0] ()=some [0]:=by kernel_rfl
theorem zXG:zAy (x4,1,())=some false:=(zM8 _).le _ (by kernel_rfl)
end
end Go.Ve
