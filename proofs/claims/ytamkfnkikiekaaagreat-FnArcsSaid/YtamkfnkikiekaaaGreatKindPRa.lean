/-
  PLAIN: kinds of operations: what is so of all lists; idempotent, symmetric, associative.
-/
import Derived.Test.YtamkfnkikiekaaaGreatTmplBRa
import Derived.Test.YtamkfnkikiekaaaGreatRowsBRa
import Derived.Test.YtamkfnkikiekaaaGreatDomBRa
namespace Go.Proofs.YtamkfnkikiekaaaGreat
open Go.RowKit Go.IntWalk
open Rep (Rd Own sz)
set_option linter.unusedSimpArgs false
set_option linter.unusedVariables false

theorem digsK_code {size : Int} (hs : 1 ≤ size) : ∀ (m : Nat) (n : Int), codeL size (digs size m n) = n % size ^ m
  | 0, n => by simp [digs, codeL]
  | m + 1, n => by
    rw [digs, codeL_snoc, digsK_code hs m, Int.pow_succ, Int.mul_comm (size ^ m) size]
    have h1 := Int.emod_add_mul_ediv n (size * size ^ m)
    have h2 := Int.emod_add_mul_ediv n size
    have h3 := Int.emod_add_mul_ediv (n / size) (size ^ m)
    have h4 : n / (size * size ^ m) = n / size / size ^ m := (Int.ediv_ediv_of_nonneg (by omega)).symm
    have e1 : size * (n / size) = size * (n / size % size ^ m) + size * size ^ m * (n / size / size ^ m) := by
      conv => lhs; rw [← h3]
      rw [Int.mul_add, Int.mul_assoc]
    have e2 : n / size % size ^ m * size = size * (n / size % size ^ m) := Int.mul_comm _ _
    rw [h4] at h1
    omega
theorem digsK_val {size : Int} (hs : 1 ≤ size) (m : Nat) (n : Int) : Val size (digs size m n) := fun a ha => by have := digs_mem size (by omega) m n a ha; omega
end Go.Proofs.YtamkfnkikiekaaaGreat

