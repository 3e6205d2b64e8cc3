/-
  PLAIN: operations of three places: what they give lists with two equal values.
-/
import Derived.Test.YtllenfkbfeanmaaGreatKindPSa
namespace Go.Proofs.YtllenfkbfeanmaaGreat
open Go.RowKit Go.IntWalk
set_option linter.unusedSimpArgs false
set_option linter.unusedVariables false

/-- isTernary at one pair: what is wanted, if it is not negative, is given. -/
def ternQ (size : Int) (f : OpT) (n : Int × Int × Int) (x y : Int) : Bool := ((decide (n.1 < 0) || decide (valOf size f [x, x, y] = n.1)) && (decide (n.2.1 < 0) || decide (valOf size f [x, y, x] = n.2.1))) && (decide (n.2.2 < 0) || decide (valOf size f [y, x, x] = n.2.2))
def ternB (size : Int) (f : OpT) (W : Int → Int → Int × Int × Int) : Bool := decide (f.1 = 3) && allL size 2 (size.toNat * size.toNat) (fun l => ternQ size f (W (l.getD 0 0) (l.getD 1 0)) (l.getD 0 0) (l.getD 1 0))
/-- l02Thirds at one pair. -/
def thirdQ (size : Int) (f : OpT) (mid odd : Bool) (x y : Int) : Bool := (decide (valOf size f [x, x, y] = if odd then y else x) && decide (valOf size f [y, x, x] = if odd then y else x)) && (!mid || decide (valOf size f [x, y, x] = if odd then y else x))
def thirdB (size : Int) (f : OpT) (mid odd : Bool) : Bool := decide (f.1 = 3) && (List.range size.toNat).all (fun (x : Nat) => (List.range size.toNat).all (fun (y : Nat) => thirdQ size f mid odd x y))
def wantM (mid odd : Bool) (x y : Int) : Int × Int × Int := (if odd then y else x, if mid then (if odd then y else x) else -1, if odd then y else x)
theorem tern_third_at {size : Int} {f : OpT} (mid odd : Bool) {x y : Int} (hx : 0 ≤ x) (hy : 0 ≤ y) : ternQ size f (wantM mid odd x y) x y = thirdQ size f mid odd x y := by
  have hx' : decide (x < 0) = false := decide_eq_false (by omega)
  have hy' : decide (y < 0) = false := decide_eq_false (by omega)
  have h1 : decide ((-1 : Int) < 0) = true := by decide
  have key : ∀ D : Int, decide (D < 0) = false → ternQ size f (D, if mid then D else -1, D) x y = ((decide (valOf size f [x, x, y] = D) && decide (valOf size f [y, x, x] = D)) && (!mid || decide (valOf size f [x, y, x] = D))) := by
    intro D hD
    unfold ternQ
    cases mid
    · simp only [Bool.false_eq_true, if_false, hD, h1, Bool.false_or, Bool.true_or, Bool.and_true, Bool.not_false]
    · simp only [if_true, hD, Bool.false_or, Bool.not_true]
      generalize decide (valOf size f [x, x, y] = D) = A
      generalize decide (valOf size f [x, y, x] = D) = B
      generalize decide (valOf size f [y, x, x] = D) = C
      cases A <;> cases B <;> cases C <;> rfl
  unfold thirdQ wantM
  cases odd
  · exact key x hx'
  · exact key y hy'
theorem tern_third {size : Int} (hs : 1 ≤ size) (f : OpT) (mid odd : Bool) : ternB size f (wantM mid odd) = thirdB size f mid odd := by
  have hN : size ^ 2 = ((size.toNat * size.toNat : Nat) : Int) := by
    rw [Int.natCast_mul, Int.toNat_of_nonneg (by omega), Int.pow_succ, Int.pow_succ, Int.pow_zero, Int.one_mul]
  unfold ternB thirdB
  congr 1
  refine bool_iff ?_
  rw [allL_iff hs hN, List.all_eq_true]
  constructor
  · intro h x hx
    rw [List.all_eq_true]
    intro y hy
    have hx2 := List.mem_range.1 hx
    have hy2 := List.mem_range.1 hy
    have := h [(x : Int), (y : Int)] rfl (fun a ha => by
      simp only [List.mem_cons, List.not_mem_nil, or_false] at ha
      rcases ha with rfl | rfl <;> omega)
    simp only [List.getD_cons_zero, List.getD_cons_succ] at this
    rwa [tern_third_at mid odd (by omega) (by omega)] at this
  · intro h l hl hv
    obtain ⟨a, b, rfl⟩ : ∃ a b, l = [a, b] := by
      match l, hl with
      | [a, b], _ => exact ⟨a, b, rfl⟩
    have ha := hv a (by simp)
    have hb := hv b (by simp)
    have h1 := h a.toNat (List.mem_range.2 (by omega))
    rw [List.all_eq_true] at h1
    have h2 := h1 b.toNat (List.mem_range.2 (by omega))
    rw [Int.toNat_of_nonneg (by omega), Int.toNat_of_nonneg (by omega)] at h2
    simp only [List.getD_cons_zero, List.getD_cons_succ]
    rwa [tern_third_at mid odd (by omega) (by omega)]
def majB (size : Int) (f : OpT) : Bool := thirdB size f true false

end Go.Proofs.YtllenfkbfeanmaaGreat

