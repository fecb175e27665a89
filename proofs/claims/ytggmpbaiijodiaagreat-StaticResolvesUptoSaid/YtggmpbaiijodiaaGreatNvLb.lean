/-
  law18: the conditions are those of the bodies (Valid, Table, Resolves, the law).
-/
import Derived.Test.YtggmpbaiijodiaaGreatNvL9
namespace Go.Ve
open Go Go.Proofs
set_option maxRecDepth 100000

theorem ok19 : FnVC LF G0 S9 A19 Tryz.f19 (bodyOf Tryz.f19) F19 := by
  rintro ⟨⟩ ⟨a1, ⟨⟩⟩ hp
  exact Eq.mpr (by kernel_rfl) (vc19 a1 hp)
theorem ok8 : FnVC LF G0 S10 A8 Tryz.f8 (bodyOf Tryz.f8) F8 := by
  rintro ⟨⟩ ⟨a1, a2, ⟨⟩⟩ hp
  exact Eq.mpr (by kernel_rfl) (vc8 a1 a2 hp)
theorem ok16 : FnVC LF G0 S11 A16 Tryz.f16 (bodyOf Tryz.f16) F15 := by
  rintro ⟨⟩ ⟨a1, a2, a3, ⟨⟩⟩ hp
  exact Eq.mpr (by kernel_rfl) (vc16 a1 a2 a3 hp)
theorem ok4 : FnVC LF G0 S12 A0 Tryz.f4 (bodyOf Tryz.f4) F4 := by
  rintro ⟨⟩ ⟨a1, a2, a3, ⟨⟩⟩ hp
  exact Eq.mpr (by kernel_rfl) (vc4 a1 a2 a3 hp)
end Go.Ve
