/-
  slices.Concat at Route: the walk, over the kit's contract of slices.Grow; the contract over typed lists.
-/
import Derived.Test.YtcnlcmbchljpgaaGreatPt21
import Derived.Test.YtcnlcmbchljpgaaGreatPt17
import Derived.Test.YtcnlcmbchljpgaaGreatPt18
set_option linter.unusedVariables false

