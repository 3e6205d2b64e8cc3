/-
  CONTRACTS: all answers of a system, the reference's side.
-/
import Derived.Test.YthceklaoikeokaaGreatDoorAnswers
import Derived.Test.YthceklaoikeokaaGreatDoorZeros
namespace Go.Proofs.YthceklaoikeokaaGreatDoor
open Go.RowKit Go.Shelf Go.IntWalk
open Rep (Rd Own sz)
set_option linter.unusedSimpArgs false
set_option linter.unusedVariables false

def stopOne (p : Int) (v : List Int) (m : Nat) (e : Eqn) : Bool := decide (lastTo e.1 e.1.length < (v.length : Int)) && !holdsE p (v ++ List.replicate m 0) e
theorem stopE_one (p : Int) (eqs : List Eqn) (v : List Int) (m : Nat) : stopE p eqs v m = eqs.any (stopOne p v m) := rfl
theorem ansE_stop {p : Nat} {eqs : List Eqn} {v : List Int} {m : Nat} (h : stopE p eqs v m = true) : ansE p eqs m v = [] := by
  cases m <;> (unfold ansE; rw [if_pos h])
theorem ansE_zero {p : Nat} {eqs : List Eqn} {v : List Int} (h : stopE p eqs v 0 = false) : ansE p eqs 0 v = [v] := by
  unfold ansE; rw [if_neg (by rw [h]; decide)]
theorem ansE_succ {p : Nat} {eqs : List Eqn} {v : List Int} {m : Nat} (h : stopE p eqs v (m + 1) = false) : ansE p eqs (m + 1) v = (List.range p).flatMap (fun (a : Nat) => ansE p eqs m (v ++ [(a : Int)])) := by
  conv => lhs; unfold ansE
  rw [if_neg (by rw [h]; decide)]
def ansUp (p : Nat) (eqs : List Eqn) (m : Nat) (v : List Int) (k : Nat) : List (List Int) := (List.range k).flatMap (fun (a : Nat) => ansE p eqs m (v ++ [(a : Int)]))
theorem ansUp_succ (p : Nat) (eqs : List Eqn) (m : Nat) (v : List Int) (k : Nat) : ansUp p eqs m v (k + 1) = ansUp p eqs m v k ++ ansE p eqs m (v ++ [(k : Int)]) := by
  unfold ansUp
  rw [List.range_succ, List.flatMap_append]
  simp
theorem ansUp_length {p : Nat} {eqs : List Eqn} {U : Nat} (hU : ∀ e, e ∈ eqs → e.1.length = U) (m : Nat) (v : List Int) (hv : v.length + 1 + m = U) : ∀ k, (ansUp p eqs m v k).length ≤ k * p ^ m
  | 0 => by simp [ansUp]
  | k + 1 => by
    rw [ansUp_succ, List.length_append, Nat.add_mul, Nat.one_mul]
    have h1 := ansUp_length (p := p) hU m v hv k
    have h2 := ansE_length (p := p) hU m (v ++ [(k : Int)]) (by simp; omega)
    omega

end Go.Proofs.YthceklaoikeokaaGreatDoor
