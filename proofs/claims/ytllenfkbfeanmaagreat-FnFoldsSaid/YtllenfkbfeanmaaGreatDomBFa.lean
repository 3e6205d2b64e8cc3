/-
  SEVERAL TEXTS IN ONE.
-/
import Derived.Test.YtllenfkbfeanmaaGreatTmplBFa
import Derived.Lib.SlicesCompact
import Derived.Lib.OwnBridge
import Derived.Test.YtllenfkbfeanmaaGreatRowsBFa
import Derived.Test.YtllenfkbfeanmaaGreatShelf
import Derived.Sort.OwnSortedInts

/-
  PLAIN LAW: a list's numbers in rising order, each once; lists that rise.
-/
namespace Go.Proofs.YtllenfkbfeanmaaGreat
open Go.RowKit
set_option linter.unusedSimpArgs false
set_option linter.unusedVariables false

end Go.Proofs.YtllenfkbfeanmaaGreat

/-
  CONTRACTS: lists that rise; the domains of an instance: the reference's side.
-/
namespace Go.Proofs.YtllenfkbfeanmaaGreat
open Go.RowKit Go.Shelf Go.IntWalk
open Rep (Rd Own sz)
set_option linter.unusedSimpArgs false
set_option linter.unusedVariables false

end Go.Proofs.YtllenfkbfeanmaaGreat

/-
  CONTRACTS: slices.Sort, slices.Compact of numbers that are the call's own (out of the shelf); a list's numbers in rising order.
-/
namespace Go.Proofs.YtllenfkbfeanmaaGreat
open Go.RowKit Go.Shelf
open Rep (Rd Own sz)
set_option linter.unusedSimpArgs false
set_option linter.unusedVariables false

end Go.Proofs.YtllenfkbfeanmaaGreat

/-
  CONTRACTS: ValidDomains, both sides.
-/
namespace Go.Proofs.YtllenfkbfeanmaaGreat
open Go.RowKit Go.Shelf Go.IntWalk
open Rep (Rd Own sz)
set_option linter.unusedSimpArgs false
set_option linter.unusedVariables false

end Go.Proofs.YtllenfkbfeanmaaGreat

