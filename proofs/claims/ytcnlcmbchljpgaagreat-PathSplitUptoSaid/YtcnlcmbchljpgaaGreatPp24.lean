/-
  slices.Concat at Route: the walk, over the kit's contract of slices.Grow; the contract over typed lists.
-/
import Derived.Test.YtcnlcmbchljpgaaGreatPp20
import Derived.Test.YtcnlcmbchljpgaaGreatPp16
import Derived.Test.YtcnlcmbchljpgaaGreatPp18
set_option linter.unusedVariables false

