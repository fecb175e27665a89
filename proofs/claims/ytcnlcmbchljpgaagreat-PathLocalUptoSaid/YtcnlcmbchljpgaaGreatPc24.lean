/-
  slices.Concat at Route: the walk, over the kit's contract of slices.Grow; the contract over typed lists.
-/
import Derived.Test.YtcnlcmbchljpgaaGreatPc20
import Derived.Test.YtcnlcmbchljpgaaGreatPc16
import Derived.Test.YtcnlcmbchljpgaaGreatPc17
set_option linter.unusedVariables false

