/-
  CONTRACT: the relation of the tuples that a function takes (relOf).
-/
import Derived.Test.YtllenfkbfeanmaaGreatRowsBSa
import Derived.Test.YtllenfkbfeanmaaGreatKeepBSa
namespace Go.Proofs.YtllenfkbfeanmaaGreat
open Go.RowKit Go.Shelf
open Rep (Rd Own sz)
set_option linter.unusedSimpArgs false
set_option linter.unusedVariables false

def RelC (g : Nat) (cb : Array Value) (w : World) (size : Int) (m : Nat) (q : List Int → Bool) : Prop :=
  ∀ (W : World) (l : List Int) (v : Value), Below w.heap.size w W → Rd W [v] l → l.length = m → (∀ a, a ∈ l → 0 ≤ a ∧ a < size) → Calls Tryz.prog g (#[v] ++ cb) W fun e w' => e = .returned (.bool (q l)) ∧ Below W.heap.size W w'

end Go.Proofs.YtllenfkbfeanmaaGreat

