import Derived.Test.YtpkdiiagnplpkaaGreatLawOpQm
import Derived.Test.YtpkdiiagnplpkaaGreatKindsQm
set_option linter.unusedSimpArgs false
set_option linter.unusedVariables false
namespace Go.Proofs.YtpkdiiagnplpkaaGreat
open Go.RowKit Go.Shelf
open Rep (Rd Own sz)
def mc_Op (x : OpT) : Nat := x.2.length
def held_Op (x : OpT) (k m : Int) : Prop := heldInts x.2 k m
theorem mcb_Op (x : OpT) : mc_Op x ≤ cost_Op x := by unfold mc_Op cost_Op; omega
theorem markOp_g (x : OpT) (v0 v1 : Value) (ps : List Nat) (k : Int) (w : World) (hx : Own ps w [v0, v1] x) (hn : ps.Nodup) (k0 : 0 ≤ k) (k1 : k + mc_Op x ≤ 1000000000) :
 Calls Tryz.prog 18 #[.agg #[v0, v1], .int .i64 k] w fun e w' => ∃ (y : OpT) (m : Int), e = .returned (.int .i64 m) ∧ k ≤ m ∧ m ≤ k + mc_Op x ∧ Own ps w' [v0, v1] y ∧ held_Op y k m ∧ But ps w w' :=
 markOp_h x v0 v1 ps w k hx k0 k1
end Go.Proofs.YtpkdiiagnplpkaaGreat
