/-
  CONTRACTS: IsRefutation of the program and of the reference. (Printed by wip/genref.py.)
-/
import Derived.Test.YtoblfnoaepbhfaaTimes
import Derived.Test.YtoblfnoaepbhfaaLess
import Derived.Test.YtoblfnoaepbhfaaRref
import Derived.Test.YtoblfnoaepbhfaaHolds
namespace Go.Proofs.Ytoblfnoaepbhfaa
open Go.RowKit Go.Shelf Go.IntWalk
open Rep (Rd Own sz)
set_option linter.unusedSimpArgs false
set_option linter.unusedVariables false

def isRefRow (p : Int) (l : List Eqn) (b : List Int) (U : Nat) : Nat → RowT
  | 0 => (List.replicate (U + 1) 0, [])
  | j + 1 => addR p (b.getD j 0) (isRefRow p l b U j) ((l.getD j ([], 0)).1 ++ [(l.getD j ([], 0)).2], [])
def isRefS (p : Int) (l : List Eqn) (b : List Int) (U : Nat) : Nat → SRow
  | 0 => (List.replicate U 0, 0, [])
  | j + 1 => lessS p (p - b.getD j 0) (isRefS p l b U j) ((l.getD j ([], 0)).1, (l.getD j ([], 0)).2, [])
def isRefF (s : Sys) (b : List Int) : Bool × Int :=
  if validS s = true then (if valsOk s.1 b s.2.2.length = true then (contrQ (isRefRow s.1 s.2.2 b s.2.1.toNat s.2.2.length), 0) else (false, 0)) else (false, 1)
theorem eqn_good {p : Int} {U : Nat} {e : Eqn} (h : eqnOk p U e = true) : e.1.length = U ∧ Res p e.1 ∧ 0 ≤ e.2 ∧ e.2 < p := by
  simp only [eqnOk, Bool.and_eq_true] at h
  obtain ⟨h1, h2⟩ := valsOk_get h.1
  have h3 := inB_true h.2
  refine ⟨by omega, fun a ha => ?_, h3.1, by omega⟩
  obtain ⟨i, hi, rfl⟩ := List.getElem_of_mem ha
  have := h2 i hi
  omega
theorem getD_eqn {p : Int} {U : Nat} {l : List Eqn} (he : ∀ e, e ∈ l → eqnOk p U e = true) {j : Nat} (hj : j < l.length) : eqnOk p U (l.getD j ([], 0)) = true := by
  simp only [List.getD, List.getElem?_eq_getElem hj, Option.getD_some]; exact he _ (List.getElem_mem hj)
theorem isRef_good {p : Int} {U : Nat} {l : List Eqn} (b : List Int) (hp : 2 ≤ p) (he : ∀ e, e ∈ l → eqnOk p U e = true) : ∀ j, j ≤ l.length → GoodS p U 0 (isRefS p l b U j)
  | 0, _ => ⟨by simp [isRefS], rfl, fun a ha => by have := List.eq_of_mem_replicate ha; omega, ⟨Int.le_refl _, by show (0 : Int) < p; omega⟩, fun a ha => by cases ha⟩
  | j + 1, hj => by
    have h := eqn_good (getD_eqn he (by omega : j < l.length))
    exact goodS_less (by omega) _ (isRef_good b hp he j (by omega)) ⟨h.1, rfl, h.2.1, h.2.2, fun a ha => by cases ha⟩
theorem isRef_flat {p : Int} {U : Nat} {l : List Eqn} (b : List Int) (hp : 2 ≤ p) (he : ∀ e, e ∈ l → eqnOk p U e = true) : ∀ j, j ≤ l.length → flat (isRefS p l b U j) = isRefRow p l b U j
  | 0, _ => by
    unfold isRefS isRefRow flat
    simp only
    rw [List.replicate_succ']
  | j + 1, hj => by
    have h := eqn_good (getD_eqn he (by omega : j < l.length))
    have ho : GoodS p U 0 ((l.getD j ([], 0)).1, (l.getD j ([], 0)).2, []) := ⟨h.1, rfl, h.2.1, h.2.2, fun a ha => by cases ha⟩
    unfold isRefS isRefRow
    rw [flat_less _ (isRef_good b hp he j (by omega)) ho, isRef_flat b hp he j (by omega), show p - (p - b.getD j 0) = b.getD j 0 by omega]
    rfl
theorem flat_good {p : Int} {U n : Nat} {r : SRow} (h : GoodS p U n r) : (flat r).1.length = U + 1 ∧ (flat r).2.length = n ∧ Res p (flat r).1 ∧ Res p (flat r).2 := by
  refine ⟨by simp [flat, h.len], h.by_, fun a ha => ?_, h.resBy⟩
  rcases List.mem_append.1 ha with ha | ha
  · exact h.res a ha
  · obtain rfl : a = r.2.1 := by simpa using ha
    exact h.right
theorem res_snoc {p : Int} {l : List Int} {x : Int} (h : Res p l) (hx : 0 ≤ x ∧ x < p) : Res p (l ++ [x]) := fun a ha => by
  rcases List.mem_append.1 ha with ha | ha
  · exact h a ha
  · obtain rfl : a = x := by simpa using ha
    exact hx
theorem fresh_int {H : Nat} {w : World} {n : Int} (h : I64 n) : Fresh H w [.int .i64 n] n := ⟨[], ⟨rfl, rfl, h⟩, by simp, by simp⟩
theorem res_getD {p : Int} {b : List Int} {n : Int} (h : valsOk p b n = true) {j : Nat} (hj : j < b.length) : 0 ≤ b.getD j 0 ∧ b.getD j 0 < p := by
  have := (valsOk_get h).2 j hj
  simp only [List.getD, List.getElem?_eq_getElem hj, Option.getD_some]
  omega


end Go.Proofs.Ytoblfnoaepbhfaa
