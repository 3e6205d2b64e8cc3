/-
  CONTRACTS of marking an operation, in the shape of the other marks.
-/
import Derived.Test.YtllenfkbfeanmaaGreatLawOpSa
import Derived.Test.YtllenfkbfeanmaaGreatKindsSa
namespace Go.Proofs.YtllenfkbfeanmaaGreat
open Go.RowKit Go.Shelf
open Rep (Rd Own sz)
set_option linter.unusedSimpArgs false
set_option linter.unusedVariables false

def mc_Op (x : OpT) : Nat := x.2.length
def held_Op (x : OpT) (k m : Int) : Prop := heldInts x.2 k m
theorem markOp_g (x : OpT) (v0 v1 : Value) (ps : List Nat) (k : Int) (w : World) (hx : Own ps w [v0, v1] x) (hn : ps.Nodup) (k0 : 0 ≤ k) (k1 : k + mc_Op x ≤ 1000000000) :
    Calls Tryz.prog 24 #[.agg #[v0, v1], .int .i64 k] w fun e w' => ∃ (y : OpT) (m : Int), e = .returned (.int .i64 m) ∧ k ≤ m ∧ m ≤ k + mc_Op x ∧ Own ps w' [v0, v1] y ∧ held_Op y k m ∧ But ps w w' :=
  markOp_h x v0 v1 ps w k hx k0 k1
theorem heldOp_g (x : OpT) (v0 v1 : Value) (k m : Int) (w : World) (hx : Rd w [v0, v1] x) (h : held_Op x k m) (k0 : 0 ≤ k) (k1 : k ≤ m) (k2 : m ≤ 1000000000) :
    Calls Tryz.prog 25 #[.agg #[v0, v1], .int .i64 k] w fun e w' => e = .returned (.int .i64 m) ∧ Below w.heap.size w w' :=
  heldOp_h x v0 v1 w k m hx h k0 k1 k2

end Go.Proofs.YtllenfkbfeanmaaGreat

