/-
  CONTRACTS: is a number in a list; does a tuple agree with itself over a scope.
-/
import Derived.Test.YtllenfkbfeanmaaGreatDomBSa
import Derived.Test.YtllenfkbfeanmaaGreatRowBSa
import Derived.Test.YtllenfkbfeanmaaGreatRowsBSa
namespace Go.Proofs.YtllenfkbfeanmaaGreat
open Go.RowKit Go.Shelf Go.IntWalk
open Rep (Rd Own sz)
set_option linter.unusedSimpArgs false
set_option linter.unusedVariables false

/-- Alike variables of the scope have alike values in the tuple. -/
def agB (sc y : List Int) (i j : Nat) : Bool := !(decide (sc.getD j 0 = sc.getD i 0) && !decide (y.getD j 0 = y.getD i 0))
def wholeB (sc y : List Int) : Bool := (List.range sc.length).all (fun i => (List.range i).all (agB sc y i))
/-- Does the tuple support value a at place p over these domains? -/
def supAt (sc : List Int) (ds : List (List Int)) (y : List Int) (i : Nat) : Bool := hasI (ds.getD (sc.getD i 0).toNat []) (y.getD i 0)
def supY (sc : List Int) (ds : List (List Int)) (p : Nat) (a : Int) (y : List Int) : Bool := (decide (y.getD p 0 = a) && wholeB sc y) && (List.range sc.length).all (supAt sc ds y)
def supB (ts : List (List Int)) (sc : List Int) (ds : List (List Int)) (p : Nat) (a : Int) : Bool := ts.any (supY sc ds p a)

end Go.Proofs.YtllenfkbfeanmaaGreat

