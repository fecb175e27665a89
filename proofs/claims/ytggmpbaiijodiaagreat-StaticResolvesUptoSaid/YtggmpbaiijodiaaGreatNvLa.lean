/-
  law18: the conditions are those of the bodies (valid parts).
-/
import Derived.Test.YtggmpbaiijodiaaGreatNvL6
namespace Go.Ve
open Go Go.Proofs
set_option maxRecDepth 100000

theorem ok40 : FnVC LF G0 S7 A40 Tryz.f40 (bodyOf Tryz.f40) F40 := by
  rintro ⟨⟩ ⟨a1, a2, ⟨⟩⟩ hp
  exact Eq.mpr (by kernel_rfl) (vc40 a1 a2 hp)
theorem ok41 : FnVC LF G0 S8 A0 Tryz.f41 (bodyOf Tryz.f41) F41 := by
  rintro ⟨⟩ ⟨a1, ⟨⟩⟩ hp
  exact Eq.mpr (by kernel_rfl) (vc41 a1 hp)
theorem ok42 : FnVC LF G0 S8 A0 Tryz.f42 (bodyOf Tryz.f42) F42 := by
  rintro ⟨⟩ ⟨a1, ⟨⟩⟩ hp
  exact Eq.mpr (by kernel_rfl) (vc42 a1 hp)
theorem ok43 : FnVC LF G0 S8 A0 Tryz.f43 (bodyOf Tryz.f43) F43 := by
  rintro ⟨⟩ ⟨a1, ⟨⟩⟩ hp
  exact Eq.mpr (by kernel_rfl) (vc43 a1 hp)
theorem ok44 : FnVC LF G0 S8 A0 Tryz.f44 (bodyOf Tryz.f44) F44 := by
  rintro ⟨⟩ ⟨a1, ⟨⟩⟩ hp
  exact Eq.mpr (by kernel_rfl) (vc44 a1 hp)
end Go.Ve
