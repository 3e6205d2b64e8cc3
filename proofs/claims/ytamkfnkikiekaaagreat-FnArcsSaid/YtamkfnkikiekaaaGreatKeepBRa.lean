/-
  SEVERAL TEXTS IN ONE.
-/
import Derived.Test.YtamkfnkikiekaaaGreatTmplBRa
import Derived.Test.YtamkfnkikiekaaaGreatRowsBRa
import Derived.Lib.BufferMore
import Derived.Test.YtamkfnkikiekaaaGreatRowBRa
import Derived.Shelf.Abstract
import Derived.Deep.RegionHeld3
import Derived.Test.YtamkfnkikiekaaaGreatBaseRa

/-
  CONTRACTS: what an operation makes of tuples; whether it keeps a relation; the program's side.
-/
namespace Go.Proofs.YtamkfnkikiekaaaGreat
open Go.RowKit Go.Shelf Go.IntWalk
open Rep (Rd Own sz)
set_option linter.unusedSimpArgs false
set_option linter.unusedVariables false

end Go.Proofs.YtamkfnkikiekaaaGreat

/-
  CONTRACTS: what an operation makes of tuples; whether it keeps a relation; the reference's side.
-/
namespace Go.Proofs.YtamkfnkikiekaaaGreat
open Go.RowKit Go.Shelf Go.IntWalk
open Rep (Rd Own sz)
set_option linter.unusedSimpArgs false
set_option linter.unusedVariables false


end Go.Proofs.YtamkfnkikiekaaaGreat

/-
  CONTRACTS: operations made of a function.
-/
namespace Go.Proofs.YtamkfnkikiekaaaGreat
open Go.RowKit Go.Shelf
open Rep (Rd Own sz)
set_option linter.unusedSimpArgs false
set_option linter.unusedVariables false

/-- The table of a function of lists. -/
def tableTo (f : List Int → Int) (size : Int) (m : Nat) (k : Nat) : List Int := (List.range k).map fun (i : Nat) => f (digs size m (i : Int))
@[simp] theorem tableTo_length (f : List Int → Int) (size : Int) (m k : Nat) : (tableTo f size m k).length = k := by simp [tableTo]
end Go.Proofs.YtamkfnkikiekaaaGreat

/-
  CONTRACTS: the operation x - y + z.
-/
namespace Go.Proofs.YtamkfnkikiekaaaGreat
open Go.RowKit Go.Shelf
open Rep (Rd Own sz)
set_option linter.unusedSimpArgs false
set_option linter.unusedVariables false

end Go.Proofs.YtamkfnkikiekaaaGreat

/-
  CONTRACTS: is a relation affine?
-/
namespace Go.Proofs.YtamkfnkikiekaaaGreat
open Go.RowKit Go.Shelf Go.IntWalk
open Rep (Rd Own sz)
set_option linter.unusedSimpArgs false
set_option linter.unusedVariables false

end Go.Proofs.YtamkfnkikiekaaaGreat

