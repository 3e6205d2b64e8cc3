/-
  PLAIN LAW of values that are chosen one after the other: they are left with each other.
-/
import Derived.Test.YtllenfkbfeanmaaGreatGreedyFa
namespace Go.Proofs.YtllenfkbfeanmaaGreat
open Go.RowKit
set_option linter.unusedSimpArgs false
set_option linter.unusedVariables false

theorem first_fits {q : Int → Bool} {size : Nat} (h : ¬ firstI q (upL 0 size) < 0) : q (firstI q (upL 0 size)) = true ∧ 0 ≤ firstI q (upL 0 size) ∧ firstI q (upL 0 size) < (size : Int) := by
  unfold firstI at h ⊢
  cases hf : (upL 0 size).findIdx? q with
  | none => rw [hf] at h; exact absurd (by decide) h
  | some k =>
    rw [List.findIdx?_eq_some_iff_getElem] at hf
    obtain ⟨hk, hq, _⟩ := hf
    have hl : k < size := by rw [upL_len] at hk; exact hk
    have hg : (upL 0 size)[k] = (k : Int) := by simp [upL]
    rw [hg] at hq
    exact ⟨hq, by show (0 : Int) ≤ (k : Int); omega, by show (k : Int) < size; omega⟩
/-- Values that were chosen: within the size, and left with each other. -/
structure LeftL (size : Nat) (ps : List RelT) (l : List Int) : Prop where
  val : ∀ a, a ∈ l → 0 ≤ a ∧ a < (size : Int)
  left : ∀ j, j < l.length → ∀ i, i < j → leftP ps i j (l.getD i 0) (l.getD j 0) = true
theorem greedyTo_left {size v : Nat} {ps : List RelT} : ∀ k l, greedyTo size v ps k = some l → l.length = k ∧ LeftL size ps l
  | 0, l, h => by
    simp only [greedyTo, Option.some.injEq] at h
    subst h
    exact ⟨rfl, ⟨fun a ha => (by cases ha), fun j hj => absurd hj (Nat.not_lt_zero _)⟩⟩
  | k + 1, l, h => by
    rw [greedyTo] at h
    cases hg : greedyTo size v ps k with
    | none => rw [hg] at h; simp at h
    | some vs =>
      rw [hg] at h
      simp only at h
      obtain ⟨h1, h2⟩ := greedyTo_left k vs hg
      split at h
      · cases h
      · rename_i hn
        obtain ⟨q1, q2, q3⟩ := first_fits hn
        generalize firstI (fitsP size v ps vs) (upL 0 size) = b at *
        simp only [Option.some.injEq] at h
        subst h
        refine ⟨by simp [h1], ⟨fun a ha => ?_, fun j hj i hij => ?_⟩⟩
        · rcases List.mem_append.1 ha with h3 | h3
          · exact h2.val a h3
          · simp only [List.mem_singleton] at h3
            subst h3
            exact ⟨q2, q3⟩
        · simp only [List.length_append, List.length_singleton] at hj
          have hi : (vs ++ [b]).getD i 0 = vs.getD i 0 := by simp [List.getD, List.getElem?_append_left (show i < vs.length by omega)]
          rw [hi]
          rcases Nat.lt_or_ge j vs.length with h3 | h3
          · have hjj : (vs ++ [b]).getD j 0 = vs.getD j 0 := by simp [List.getD, List.getElem?_append_left h3]
            rw [hjj]
            exact h2.left j h3 i hij
          · obtain rfl : j = vs.length := by omega
            have hjj : (vs ++ [b]).getD vs.length 0 = b := by simp [List.getD]
            rw [hjj]
            unfold fitsP at q1
            rw [if_neg (by omega), List.all_eq_true] at q1
            exact q1 i (List.mem_range.2 hij)
/-- The chosen values are left with each other. -/
theorem greedy_left {size v : Nat} {ps : List RelT} (h : (greedyF size v ps).2 = true) : (greedyF size v ps).1.length = v ∧ LeftL size ps (greedyF size v ps).1 := by
  unfold greedyF at h ⊢
  cases hg : greedyTo size v ps v with
  | none => rw [hg] at h; cases h
  | some l => exact greedyTo_left v l hg
theorem left_has {ps : List RelT} {i j : Nat} {a b : Int} (hij : i < j) (h : leftP ps i j a b = true) : hasT (ps.getD (pidx i j) (0, [])).2 [a, b] = true := by
  unfold leftP at h
  rwa [if_neg (by omega)] at h

end Go.Proofs.YtllenfkbfeanmaaGreat

