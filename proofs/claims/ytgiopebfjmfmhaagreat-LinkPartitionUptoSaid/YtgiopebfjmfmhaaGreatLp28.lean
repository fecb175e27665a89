/- law16 -/
import Derived.Test.YtgiopebfjmfmhaaGreatLp26
import Derived.Test.YtgiopebfjmfmhaaGreatLp27
set_option linter.unusedVariables false
set_option maxRecDepth 1000000
set_option maxHeartbeats 4000000
namespace Go.Ve
noncomputable section
open Go Go.Proofs
def zCO:∀a0 x,Cmp (j8 a0 x):=by
 rintro a0 ⟨a,c,⟨⟩⟩
 delta j8
 dsimp only
 repeat' (with_reducible first|refine Cmp.bnd ?_ (fun _=>?_)|refine Cmp.cnd _ ?_ ?_|refine Cmp.ct ?_ (fun _=>?_)|refine Cmp.lp 12 (fun _=>?_) _|refine Cmp.ite _ ?_ ?_|refine Cmp.map _ ?_|refine Cmp.mo (fun _=>?_) _)
 all_goals exact Cmp.self _
def zFE:∀a0 x,Cmp (uJ a0 x):=by rintro a0 ⟨a,n,l,⟨⟩⟩;exact Cmp.ite _ (zCO _ _) (Cmp.self _)
def zG4:∀a0 x,Cmp (zAN a0 x):=by
 rintro a0 ⟨⟩
 delta zAN
 try dsimp only
 repeat' (with_reducible first|exact zFE _ _|refine Cmp.bnd ?_ (fun _=>?_)|refine Cmp.cnd _ ?_ ?_|refine Cmp.ct ?_ (fun _=>?_)|refine Cmp.lp 12 (fun _=>?_) _|refine Cmp.ite _ ?_ ?_|refine Cmp.map _ ?_|refine Cmp.mo (fun _=>?_) _)
 all_goals exact Cmp.self _
def zOc:∀x,Cmp (zCe x):=by
 rintro⟨a,c,⟨⟩⟩
 delta zCe
 dsimp only
 repeat' (with_reducible first|exact zAY _|exact zG4 _ _|refine Cmp.bnd ?_ (fun _=>?_)|refine Cmp.cnd _ ?_ ?_|refine Cmp.ct ?_ (fun _=>?_)|refine Cmp.lp 12 (fun _=>?_) _|refine Cmp.ite _ ?_ ?_|refine Cmp.map _ ?_|refine Cmp.mo (fun _=>?_) _)
 all_goals exact Cmp.self _
def zMG:∀x,Cmp (zAo x):=by
 rintro⟨a,c,⟨⟩⟩
 delta zAo
 dsimp only
 repeat' (with_reducible first|exact zOc _|exact zDT _|refine Cmp.bnd ?_ (fun _=>?_)|refine Cmp.cnd _ ?_ ?_|refine Cmp.ct ?_ (fun _=>?_)|refine Cmp.lp 12 (fun _=>?_) _|refine Cmp.ite _ ?_ ?_|refine Cmp.map _ ?_|refine Cmp.mo (fun _=>?_) _)
 all_goals exact Cmp.self _
example:zAN [0,0] ()=some ([0,0],()):=(zG4 _ _).le _ (by kernel_rfl)
example:zEm (2,())=some 2:=by kernel_rfl
example:yT [0,0] ()=some [0]:=by kernel_rfl
theorem zW2:zAo (xR,1,())=some false:=(zMG _).le _ (by kernel_rfl)
end
end Go.Ve
