/-
  CONTRACTS: pair relations: their index, whether a pair is left; the numbers from one on; both sides.
-/
import Derived.Test.YtamkfnkikiekaaaGreatFailBRa
import Derived.Test.YtamkfnkikiekaaaGreatTmplBRa
import Derived.Test.YtamkfnkikiekaaaGreatRowsBRa
namespace Go.Proofs.YtamkfnkikiekaaaGreat
open Go.RowKit Go.Shelf Go.IntWalk
open Rep (Rd Own sz)
set_option linter.unusedSimpArgs false
set_option linter.unusedVariables false

def pidx (i j : Nat) : Nat := j * (j - 1) / 2 + i
theorem pidx_lt : ∀ v, v ≤ 10 → ∀ j, j < v → ∀ i, i < j → pidx i j < v * (v - 1) / 2 := by decide
/-- Pair relations of v variables. -/
structure PairsOk (size : Int) (v : Nat) (ps : List RelT) : Prop where
  v10 : v ≤ 10
  len : ps.length = v * (v - 1) / 2
  ok : ∀ r, r ∈ ps → relOk size r = true ∧ r.1 = 2
theorem PairsOk.inc {size : Int} {v : Nat} {ps : List RelT} (h : PairsOk size v ps) (r : RelT) (hr : r ∈ ps) : Inc r.2 ∧ r.2.length ≤ 1000000 :=
  ⟨relOk_inc (h.ok r hr).1, by have := (relOk_count (h.ok r hr).1).2; omega⟩
theorem PairsOk.lt {size : Int} {v : Nat} {ps : List RelT} (h : PairsOk size v ps) {i j : Nat} (hij : i < j) (hj : j < v) : pidx i j < ps.length := by
  rw [h.len]; exact pidx_lt v h.v10 j hj i hij

end Go.Proofs.YtamkfnkikiekaaaGreat

