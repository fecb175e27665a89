/-
  slices.Concat at Route: the walk, over the kit's contract of slices.Grow; the contract over typed lists.
-/
import Derived.Test.YtcnlcmbchljpgaaGreatPo20
import Derived.Test.YtcnlcmbchljpgaaGreatPo16
import Derived.Test.YtcnlcmbchljpgaaGreatPo17
set_option linter.unusedVariables false

