/-
  Sorting by the kit's contract of slices.SortFunc: lists of flat data, as contracts over typed data want it.
-/
import Derived.Shelf.SlSortCmp.InsertionK
import Derived.Test.YthhmapljcdohnaaGreatCs12
set_option linter.unusedVariables false

