/-
  CONTRACTS: lists that rise; the domains of an instance: the reference's side.
-/
import Derived.Test.YtbbmadmnmlljmaaGreatRise
import Derived.Test.YtbbmadmnmlljmaaGreatInst
namespace Go.Proofs.YtbbmadmnmlljmaaGreat
open Go.RowKit Go.Shelf Go.IntWalk
open Rep (Rd Own sz)
set_option linter.unusedSimpArgs false
set_option linter.unusedVariables false

theorem risesB_of {lo hi : Int} {l : List Int} (h : ∀ j, j < l.length → risAt lo hi l j = true) : risesB lo hi l = true := by
  unfold risesB
  rw [List.all_eq_true]
  exact fun j hj => h j (List.mem_range.1 hj)
theorem risesB_not {lo hi : Int} {l : List Int} (j : Nat) (hj : j < l.length) (h : risAt lo hi l j = false) : risesB lo hi l = false := by
  unfold risesB
  rw [List.all_eq_false]
  exact ⟨j, List.mem_range.2 hj, by rw [h]; decide⟩
/-- Are these domains for the variables of the instance? -/
def domsOk (t : Tmpl) (x : Inst) (ds : List (List Int)) : Bool := instOk t x && (decide ((ds.length : Int) = x.1) && ds.all (risesB 0 (t.1 - 1)))

end Go.Proofs.YtbbmadmnmlljmaaGreat
