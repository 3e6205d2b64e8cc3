/-
  CONTRACT: the relation of the tuples that a function takes (relOf).
-/
import Derived.Test.YtamkfnkikiekaaaGreatRowsBRa
import Derived.Test.YtamkfnkikiekaaaGreatKeepBRa
namespace Go.Proofs.YtamkfnkikiekaaaGreat
open Go.RowKit Go.Shelf
open Rep (Rd Own sz)
set_option linter.unusedSimpArgs false
set_option linter.unusedVariables false

end Go.Proofs.YtamkfnkikiekaaaGreat

