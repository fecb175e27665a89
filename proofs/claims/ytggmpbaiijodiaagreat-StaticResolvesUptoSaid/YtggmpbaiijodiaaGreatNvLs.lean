/-
  law18: the sanity check, evaluated.
-/
import Derived.Test.YtggmpbaiijodiaaGreatNvL1
namespace Go.Ve
open Go Go.Proofs
theorem sane14 : runF (Γ := U) LF G0 (noSpecs U) 300 14 14 () [] = some ((), .p (.val (.bool true))) := by kernel_rfl
end Go.Ve
