/-
  CONTRACTS: MakeArcs and IsArcConsistent, the reference's side.
-/
import Derived.Test.YtllenfkbfeanmaaGreatArcFBSa
import Derived.Test.YtllenfkbfeanmaaGreatArcsSSa
namespace Go.Proofs.YtllenfkbfeanmaaGreat
open Go.RowKit Go.Shelf Go.IntWalk
open Rep (Rd Own sz)
set_option linter.unusedSimpArgs false
set_option linter.unusedVariables false


end Go.Proofs.YtllenfkbfeanmaaGreat

