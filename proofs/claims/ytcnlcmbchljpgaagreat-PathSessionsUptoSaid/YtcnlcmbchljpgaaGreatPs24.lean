/-
  slices.Concat at Route: the walk, over the kit's contract of slices.Grow; the contract over typed lists.
-/
import Derived.Test.YtcnlcmbchljpgaaGreatPs20
import Derived.Test.YtcnlcmbchljpgaaGreatPs16
import Derived.Test.YtcnlcmbchljpgaaGreatPs18
set_option linter.unusedVariables false

