/-
  CONTRACTS of the small functions on numbers.
-/
import Derived.Test.YtkbeihkjhmillaaRows
import Derived.Test.YtkbeihkjhmillaaLib
namespace Go.Proofs.Ytkbeihkjhmillaa
open Go.RowKit
open Rep (Rd Own sz)
set_option linter.unusedSimpArgs false
set_option linter.unusedVariables false

def inB (n lo hi : Int) : Bool := decide (lo ≤ n ∧ n ≤ hi)
theorem inB_true {n lo hi : Int} (h : inB n lo hi = true) : lo ≤ n ∧ n ≤ hi := by simpa [inB] using h
theorem inB_mk {n lo hi : Int} (h : lo ≤ n ∧ n ≤ hi) : inB n lo hi = true := by simpa [inB] using h
theorem inB_no {n lo hi : Int} (h : ¬ (lo ≤ n ∧ n ≤ hi)) : inB n lo hi = false := by simpa [inB] using h
def isPr (p : Int) : Bool := decide (p = 2 ∨ p = 3)
theorem isPr_true {p : Int} (h : isPr p = true) : p = 2 ∨ p = 3 := by simpa [isPr] using h

set_option maxHeartbeats 400000 in
theorem l00In_c (n lo hi : Int) (w : World) :
    Calls Try.prog 72 #[.int .i64 n, .int .i64 lo, .int .i64 hi] w fun e w' => e = .returned (.bool (inB n lo hi)) ∧ w = w' := by
  by_cases h1 : lo ≤ n
  all_goals
    go_enter Try.func72, Try.ntmps72
    go_wp2
    go_ret
    exact ⟨ret_bool (by simp [inB]; omega), rfl⟩
set_option maxHeartbeats 400000 in
theorem within_c (n lo hi : Int) (w : World) :
    Calls Try.prog 108 #[.int .i64 n, .int .i64 lo, .int .i64 hi] w fun e w' => e = .returned (.bool (inB n lo hi)) ∧ w = w' := by
  by_cases h1 : lo ≤ n
  all_goals
    go_enter Try.func108, Try.ntmps108
    go_wp2
    go_ret
    exact ⟨ret_bool (by simp [inB]; omega), rfl⟩
set_option maxHeartbeats 400000 in
theorem isPrime_c (p : Int) (w : World) :
    Calls Try.prog 107 #[.int .i64 p] w fun e w' => e = .returned (.bool (isPr p)) ∧ w = w' := by
  by_cases h1 : (p == 2) = true
  · have h2 : p = 2 := by simpa using h1
    go_enter Try.func107, Try.ntmps107
    go_wp2
    go_ret
    exact ⟨ret_bool (by simp [isPr, h2]), rfl⟩
  · have h1 : (p == 2) = false := by simpa using h1
    have h2 : ¬ p = 2 := by simpa using h1
    go_enter Try.func107, Try.ntmps107
    go_wp2
    go_ret
    exact ⟨ret_bool (by simp [isPr, h2]; rfl), rfl⟩
set_option maxHeartbeats 400000 in
theorem l07Prime_c (p : Int) (w : World) :
    Calls Try.prog 104 #[.int .i64 p] w fun e w' => e = .returned (.bool (isPr p)) ∧ w = w' := by
  by_cases h1 : (p == 2) = true
  · have h2 : p = 2 := by simpa using h1
    go_enter Try.func104, Try.ntmps104
    go_wp2
    go_ret
    exact ⟨ret_bool (by simp [isPr, h2]), rfl⟩
  · have h1 : (p == 2) = false := by simpa using h1
    have h2 : ¬ p = 2 := by simpa using h1
    go_enter Try.func104, Try.ntmps104
    go_wp2
    go_ret
    exact ⟨ret_bool (by simp [isPr, h2]; rfl), rfl⟩
/-- Go's '(a%p + p) % p'. -/
theorem tmod_mod (a p : Int) : (a.tmod p + p) % p = a % p := by
  rw [Int.add_emod_right]
  have e : a = a.tmod p + p * a.tdiv p := (Int.tmod_add_mul_tdiv a p).symm
  conv => rhs; rw [e, Int.add_mul_emod_self_left]
set_option maxHeartbeats 400000 in
theorem l07Mod_c (a p : Int) (w : World) (hp : 0 < p) (hp2 : p ≤ 1000000) :
    Calls Try.prog 115 #[.int .i64 a, .int .i64 p] w fun e w' => e = .returned (.int .i64 (a % p)) ∧ w = w' := by
  have h3 : -p < a.tmod p := by have := Int.lt_tmod_of_pos a hp; omega
  have h4 : a.tmod p < p := Int.tmod_lt_of_pos a hp
  have h5 : p ≠ 0 := by omega
  go_enter Try.func115, Try.ntmps115
  go_wp2
  go_ret
  exact ⟨ret_int (tmod_mod a p), rfl⟩
end Go.Proofs.Ytkbeihkjhmillaa
