/-
  CONTRACTS: ValidDomains, both sides.
-/
import Derived.Test.YtbbmadmnmlljmaaGreatDom
import Derived.Test.YtbbmadmnmlljmaaGreatSort
import Derived.Test.YtbbmadmnmlljmaaGreatEqual
namespace Go.Proofs.YtbbmadmnmlljmaaGreat
open Go.RowKit Go.Shelf Go.IntWalk
open Rep (Rd Own sz)
set_option linter.unusedSimpArgs false
set_option linter.unusedVariables false

theorem rises_vals (size : Int) (d : List Int) : risesB 0 (size - 1) d = (valsOk size d d.length && decide (d = riseL d)) := by
  rw [rises_eq]; simp [valsOk]

end Go.Proofs.YtbbmadmnmlljmaaGreat
