/-
  CONTRACT: the relation of the tuples that a function takes (relOf).
-/
import Derived.Test.YtllenfkbfeanmaaGreatRowsBFa
import Derived.Test.YtllenfkbfeanmaaGreatKeepBFa
namespace Go.Proofs.YtllenfkbfeanmaaGreat
open Go.RowKit Go.Shelf
open Rep (Rd Own sz)
set_option linter.unusedSimpArgs false
set_option linter.unusedVariables false

def selT (q : List Int → Bool) (size : Int) (m k : Nat) : List (List Int) := ((List.range k).map (fun (i : Nat) => digs size m (i : Int))).filter q
theorem selT_succ (q : List Int → Bool) (size : Int) (m k : Nat) : selT q size m (k + 1) = selT q size m k ++ (if q (digs size m (k : Int)) then [digs size m (k : Int)] else []) := by
  unfold selT
  rw [List.range_succ, List.map_append, List.filter_append]
  congr 1
  simp only [List.map_cons, List.map_nil, List.filter_cons, List.filter_nil]
theorem selT_len (q : List Int → Bool) (size : Int) (m k : Nat) : (selT q size m k).length ≤ k := by
  refine Nat.le_trans (List.length_filter_le _ _) ?_
  simp
end Go.Proofs.YtllenfkbfeanmaaGreat

