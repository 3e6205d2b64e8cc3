/-
  CONTRACTS: lists that are the same are told to be the same.
-/
import Derived.Test.YtllenfkbfeanmaaGreatRowsBFa
namespace Go.Proofs.YtllenfkbfeanmaaGreat
open Go.RowKit Go.Shelf Go.IntWalk
open Rep (Rd Own sz)
set_option linter.unusedSimpArgs false
set_option linter.unusedVariables false

theorem l00Same_t (l : List Int) (v1 v2 : Value) (w : World) (r1 : Rd w [v1] l) (r2 : Rd w [v2] l) :
    Calls Tryz.prog 51 #[v1, v2] w fun e w' => e = .returned (.bool true) ∧ Below w.heap.size w w' :=
  (l00Same_c l l v1 v2 w r1 r2).mono fun e w' ⟨he, n, hw⟩ => ⟨by rw [he]; simp, by rw [hw]; exact drewN_below w n⟩
theorem A2Same_t (l : List Int) (v1 v2 : Value) (w : World) (r1 : Rd w [v1] l) (r2 : Rd w [v2] l) :
    Calls Tryz.prog 14 #[v1, v2] w fun e w' => e = .returned (.bool true) ∧ Below w.heap.size w w' := by
  have R1 := Lib.hid r1
  have R2 := Lib.hid r2
  clear r1 r2
  go_enter Tryz.func14, Tryz.ntmps14
  go_wp2_with fail
  refine (l00Same_t l v1 v2 _ R1.out R2.out).mono ?_
  rintro e w1 ⟨rfl, hb⟩
  go_wp2_with fail
  go_ret
  exact ⟨rfl, hb⟩

end Go.Proofs.YtllenfkbfeanmaaGreat

