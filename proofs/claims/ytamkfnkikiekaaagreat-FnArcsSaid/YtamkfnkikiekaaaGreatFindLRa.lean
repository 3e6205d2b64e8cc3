/-
  PLAIN: all solutions that begin with some values, in order.
-/
import Derived.Test.YtamkfnkikiekaaaGreatFindPRa
namespace Go.Proofs.YtamkfnkikiekaaaGreat
open Go.RowKit
set_option linter.unusedSimpArgs false
set_option linter.unusedVariables false

/-- What follows behind a list of next values. -/
def overL (f : Int → List (List Int)) : List Int → List (List Int)
  | [] => []
  | a :: al => f a ++ overL f al
def valsUp (size a : Nat) : List Int := ((List.range size).drop a).map (fun (i : Nat) => (i : Int))
theorem valsUp_lt {size a : Nat} (h : a < size) : valsUp size a = (a : Int) :: valsUp size (a + 1) := by
  unfold valsUp
  rw [List.drop_eq_getElem_cons (by simpa using h)]
  simp
theorem valsUp_ge {size a : Nat} (h : size ≤ a) : valsUp size a = [] := by
  unfold valsUp
  simp [h]
theorem valsUp_mem {size a : Nat} {v : Int} (h : v ∈ valsUp size a) : 0 ≤ v ∧ v < (size : Int) := by
  unfold valsUp at h
  rw [List.mem_map] at h
  obtain ⟨i, hi, rfl⟩ := h
  have := List.mem_range.1 (List.mem_of_mem_drop hi)
  omega
/-- The solutions that begin with some values, d values more. -/
def fromL (t : Tmpl) (x : Inst) : Nat → List Int → List (List Int)
  | 0, pre => [pre]
  | d + 1, pre => overL (fun a => if sureB t x (pre ++ [a]) = true then fromL t x d (pre ++ [a]) else []) (valsUp t.1.toNat 0)
theorem overL_mem {f : Int → List (List Int)} {y : List Int} : ∀ {al : List Int}, y ∈ overL f al → ∃ a, a ∈ al ∧ y ∈ f a
  | [], h => by cases h
  | a :: al, h => by
    rw [overL] at h
    rcases List.mem_append.1 h with h | h
    · exact ⟨a, List.mem_cons_self .., h⟩
    · obtain ⟨b, hb, hy⟩ := overL_mem h
      exact ⟨b, List.mem_cons_of_mem _ hb, hy⟩
theorem fromL_listed {t : Tmpl} {x : Inst} (hok : instOk t x = true) : ∀ (d : Nat) (pre : List Int), ((pre.length + d : Nat) : Int) = x.1 → (∀ a, a ∈ pre → 0 ≤ a ∧ a < t.1) → SureU t x pre → ∀ y, y ∈ fromL t x d pre → Listed t x y
  | 0, pre, hl, hv, hu, y, h => by
    rw [fromL] at h
    obtain rfl : y = pre := by simpa using h
    exact sure_full hok hu (by simpa using hl) hv
  | d + 1, pre, hl, hv, hu, y, h => by
    rw [fromL] at h
    obtain ⟨a, ha, hy⟩ := overL_mem h
    have hs := (tmplOk_get (instOk_get hok).1).1
    have hav := valsUp_mem ha
    split at hy
    · rename_i hsu
      refine fromL_listed hok d (pre ++ [a]) (by simp only [List.length_append, List.length_singleton]; omega) (fun b hb => ?_) (sure_next hok hu hsu) y hy
      rcases List.mem_append.1 hb with hb | hb
      · exact hv b hb
      · simp only [List.mem_singleton] at hb; subst hb; omega
    · cases hy
theorem take_app {α : Type} (m : Nat) (a b : List α) : (a.take m ++ b).take m = (a ++ b).take m := by
  rw [List.take_append, List.take_append, List.take_take, Nat.min_self, List.length_take]
  congr 2
  omega
end Go.Proofs.YtamkfnkikiekaaaGreat

