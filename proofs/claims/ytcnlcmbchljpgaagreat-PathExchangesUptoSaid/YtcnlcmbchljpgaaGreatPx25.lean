/-
  slices.Concat at Route: the walk, over the kit's contract of slices.Grow; the contract over typed lists.
-/
import Derived.Test.YtcnlcmbchljpgaaGreatPx21
import Derived.Test.YtcnlcmbchljpgaaGreatPx17
import Derived.Test.YtcnlcmbchljpgaaGreatPx18
set_option linter.unusedVariables false

