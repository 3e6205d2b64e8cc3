import Derived.Test.YtoblfnoaepbhfaaGreatDomBQb
import Derived.Test.YtoblfnoaepbhfaaGreatRowBQb
import Derived.Test.YtoblfnoaepbhfaaGreatRowsBQb
set_option linter.unusedSimpArgs false
set_option linter.unusedVariables false
namespace Go.Proofs.YtoblfnoaepbhfaaGreat
open Go.RowKit Go.Shelf Go.IntWalk
open Rep (Rd Own sz)
def hasI (l : List Int) (a : Int) : Bool := l.any (fun x => a == x)
def agB (sc y : List Int) (i j : Nat) : Bool := !(decide (sc.getD j 0 = sc.getD i 0) && !decide (y.getD j 0 = y.getD i 0))
def wholeB (sc y : List Int) : Bool := (List.range sc.length).all (fun i => (List.range i).all (agB sc y i))
def supAt (sc : List Int) (ds : List (List Int)) (y : List Int) (i : Nat) : Bool := hasI (ds.getD (sc.getD i 0).toNat []) (y.getD i 0)
def supY (sc : List Int) (ds : List (List Int)) (p : Nat) (a : Int) (y : List Int) : Bool := (decide (y.getD p 0 = a) && wholeB sc y) && (List.range sc.length).all (supAt sc ds y)
def supB (ts : List (List Int)) (sc : List Int) (ds : List (List Int)) (p : Nat) (a : Int) : Bool := ts.any (supY sc ds p a)
end Go.Proofs.YtoblfnoaepbhfaaGreat

