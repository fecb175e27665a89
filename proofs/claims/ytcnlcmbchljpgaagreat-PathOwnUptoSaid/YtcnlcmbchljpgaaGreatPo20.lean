/-
  Lists joined: what lies where.
-/
import Derived.Shelf.Spec.SlicesGrow
import Derived.Deep.Upon
import Derived.Lib.ReflectliteSwap
import Derived.Test.YtcnlcmbchljpgaaGreatPo10
set_option linter.unusedVariables false

