/-
  CONTRACT: taken: what is left of an equation when the rows that are done are taken away.
-/
import Derived.Test.YthceklaoikeokaaGreatDoorSolB
import Derived.Test.YthceklaoikeokaaGreatDoorRowsB
import Derived.Test.YthceklaoikeokaaGreatDoorBase
namespace Go.Proofs.YthceklaoikeokaaGreatDoor
open Go.RowKit Go.Shelf Go.IntWalk
open Rep (Rd Own sz)
set_option linter.unusedSimpArgs false
set_option linter.unusedVariables false

theorem goodS_of_eqn {p : Int} {U n : Nat} {e : Eqn} (hp : 2 ≤ p) (h : eqnOk p U e = true) : GoodS p U n (e.1, e.2, List.replicate n 0) := by
  have h1 := eqn_good h
  exact ⟨h1.1, by simp, h1.2.1, h1.2.2, fun a ha => by have := List.eq_of_mem_replicate ha; omega⟩
theorem taken_good {s : Sys} (K : ElimOk s) {x : SRow} (hx : GoodS s.1 s.2.1.toNat s.2.2.length x) : ∀ j, j ≤ (elimS s).2.length → GoodS s.1 s.2.1.toNat s.2.2.length (takenTo s.1 (elimS s).1 (elimS s).2 x j)
  | 0, _ => hx
  | j + 1, h => by
    have hp := K.hp
    have hle := K.le
    have hlen := K.len
    exact goodS_less (by omega) _ (taken_good K hx j (by omega)) (goodS_of_get K.good j (by omega) row0)
theorem taken_flat {s : Sys} (K : ElimOk s) {x : SRow} (hx : GoodS s.1 s.2.1.toNat s.2.2.length x) (j : Nat) (hj : j < (elimS s).2.length) (hjr : j < (elimS s).1.length) (b : Nat) (hb : (elimS s).2[j] = b) (hbU : b < s.2.1.toNat) :
    flat (takenTo s.1 (elimS s).1 (elimS s).2 x (j + 1)) = addR s.1 (s.1 - (flat (takenTo s.1 (elimS s).1 (elimS s).2 x j)).1.getD b 0) (flat (takenTo s.1 (elimS s).1 (elimS s).2 x j)) (flat (elimS s).1[j]) := by
  have hg := taken_good K hx j (by omega)
  have e1 : (elimS s).1.getD j row0 = (elimS s).1[j] := by simp [List.getD, hjr]
  have e2 : ((elimS s).2.getD j 0).toNat = b := by simp [List.getD, hj, hb]
  rw [takenTo, flat_less _ hg (by rw [e1]; exact K.good _ (List.getElem_mem hjr)), e1, e2, flat_get (by rw [hg.len]; exact hbU)]

end Go.Proofs.YthceklaoikeokaaGreatDoor
