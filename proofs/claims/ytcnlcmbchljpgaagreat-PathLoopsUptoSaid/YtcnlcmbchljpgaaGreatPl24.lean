/-
  slices.Concat at Route: the walk, over the kit's contract of slices.Grow; the contract over typed lists.
-/
import Derived.Test.YtcnlcmbchljpgaaGreatPl20
import Derived.Test.YtcnlcmbchljpgaaGreatPl16
import Derived.Test.YtcnlcmbchljpgaaGreatPl18
set_option linter.unusedVariables false

