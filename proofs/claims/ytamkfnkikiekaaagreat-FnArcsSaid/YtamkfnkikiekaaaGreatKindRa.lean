/-
  CONTRACTS: kinds of operations: the program's side.
-/
import Derived.Test.YtamkfnkikiekaaaGreatKindPRa
import Derived.Test.YtamkfnkikiekaaaGreatRelOfRa
import Derived.Test.YtamkfnkikiekaaaGreatFailBRa
import Derived.Test.YtamkfnkikiekaaaGreatDomBRa
namespace Go.Proofs.YtamkfnkikiekaaaGreat
open Go.RowKit Go.Shelf Go.IntWalk
open Rep (Rd Own sz)
set_option linter.unusedSimpArgs false
set_option linter.unusedVariables false



end Go.Proofs.YtamkfnkikiekaaaGreat

