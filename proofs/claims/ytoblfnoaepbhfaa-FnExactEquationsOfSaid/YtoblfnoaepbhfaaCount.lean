/-
  CONTRACTS: CountAnswers. (Printed by wip/gensys.py.)
-/
import Derived.Test.YtoblfnoaepbhfaaRank
namespace Go.Proofs.Ytoblfnoaepbhfaa
open Go.RowKit Go.Shelf Go.IntWalk
open Rep (Rd Own sz)
set_option linter.unusedSimpArgs false
set_option linter.unusedVariables false

theorem ElimOk.pow {s : Sys} (h : ElimOk s) : 0 ≤ s.2.1 - ((elimS s).2.length : Int) ∧ s.2.1 - ((elimS s).2.length : Int) ≤ 12 ∧ s.1 ^ (s.2.1 - ((elimS s).2.length : Int)).toNat ≤ 1000000000 := by
  have h1 := h.leU
  have h2 := h.hu
  have h3 : (s.2.1 - ((elimS s).2.length : Int)).toNat ≤ 12 := by omega
  refine ⟨by omega, by omega, ?_⟩
  have h4 : s.1 ^ (s.2.1 - ((elimS s).2.length : Int)).toNat ≤ s.1 ^ 12 := pow_le_of (by have := h.hp; omega) h3
  refine Int.le_trans h4 ?_
  rcases h.hp with hp | hp <;> rw [hp] <;> decide

end Go.Proofs.Ytoblfnoaepbhfaa
