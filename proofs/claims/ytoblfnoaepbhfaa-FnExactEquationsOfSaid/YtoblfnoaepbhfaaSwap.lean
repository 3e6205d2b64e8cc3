/-
  PLAIN: two elements of an owned slice change places.
-/
import Derived.Test.YtoblfnoaepbhfaaElim
namespace Go.Proofs.Ytoblfnoaepbhfaa
open Go.RowKit
open Rep (Rd Own sz)
set_option linter.unusedSimpArgs false
set_option linter.unusedVariables false

def sigma (i j k : Nat) : Nat := if k = j then i else if k = i then j else k
theorem sigma_inj {i j a b : Nat} (h : sigma i j a = sigma i j b) : a = b := by unfold sigma at h; split at h <;> split at h <;> (try split at h) <;> (try split at h) <;> omega
theorem sigma_lt {i j k n : Nat} (hi : i < n) (hj : j < n) (hk : k < n) : sigma i j k < n := by unfold sigma; split <;> (try split) <;> omega
theorem set2_get {α : Type} (l : List α) (i j k : Nat) (hi : i < l.length) (hj : j < l.length) : ((l.set i l[j]).set j l[i])[k]? = l[sigma i j k]? := by
  unfold sigma
  by_cases hkj : k = j
  · subst hkj
    rw [List.getElem?_set_self (by simpa using hj), if_pos rfl, List.getElem?_eq_getElem hi]
  · rw [List.getElem?_set_ne (Ne.symm hkj), if_neg hkj]
    by_cases hki : k = i
    · subst hki
      rw [List.getElem?_set_self hi, if_pos rfl, List.getElem?_eq_getElem hj]
    · rw [List.getElem?_set_ne (Ne.symm hki), if_neg hki]
theorem swapL_eq {α : Type} (d : α) (l : List α) (i j : Nat) (hi : i < l.length) (hj : j < l.length) : swapL d l i j = (l.set i l[j]).set j l[i] := by
  simp [swapL, List.getD, hi, hj]
theorem nodup_of_disj {L : List (List Nat)} (h1 : ∀ (i : Nat) (p : List Nat), L[i]? = some p → p.Nodup) (h2 : ∀ (i j : Nat) (p q : List Nat), i ≠ j → L[i]? = some p → L[j]? = some q → ∀ x, x ∈ p → x ∉ q) : (List.flatten L).Nodup := by
  unfold List.Nodup
  rw [List.pairwise_flatten]
  refine ⟨fun p hp => ?_, ?_⟩
  · obtain ⟨i, hi⟩ := List.mem_iff_getElem?.1 hp
    exact h1 i p hi
  · rw [List.pairwise_iff_getElem]
    intro a b ha hb hab x hx y hy e
    subst e
    exact h2 a b _ _ (by omega) (List.getElem?_eq_getElem ha) (List.getElem?_eq_getElem hb) x hx hy
theorem disj_of_nodup {L : List (List Nat)} (h : (List.flatten L).Nodup) : (∀ (i : Nat) (p : List Nat), L[i]? = some p → p.Nodup) ∧ ∀ (i j : Nat) (p q : List Nat), i ≠ j → L[i]? = some p → L[j]? = some q → ∀ x, x ∈ p → x ∉ q := by
  unfold List.Nodup at h
  rw [List.pairwise_flatten, List.pairwise_iff_getElem] at h
  refine ⟨fun i p hp => h.1 p (List.mem_of_getElem? hp), fun i j p q hij hp hq x hx hxq => ?_⟩
  obtain ⟨hi, rfl⟩ := List.getElem?_eq_some_iff.1 hp
  obtain ⟨hj, rfl⟩ := List.getElem?_eq_some_iff.1 hq
  rcases Nat.lt_or_gt_of_ne hij with hlt | hlt
  · exact h.2 i j hi hj hlt x hx x hxq rfl
  · exact h.2 j i hj hi hlt x hxq x hx rfl

end Go.Proofs.Ytoblfnoaepbhfaa
