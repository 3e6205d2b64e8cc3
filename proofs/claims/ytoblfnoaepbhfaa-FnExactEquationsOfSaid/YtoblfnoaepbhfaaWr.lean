/-
  PLAIN: what is owned, and cells, when another cell is written.
-/
import Derived.Test.YtoblfnoaepbhfaaAccP
namespace Go.Proofs.Ytoblfnoaepbhfaa
open Go.RowKit
open Rep (Rd Own sz)

theorem Ip.setCell {α : Type} [Rep α] {A : Nat → Prop} {w : World} {vs : List Value} {x : α} (h : Ip A w vs x) {b o : Nat} (u : Value) (hA : ¬ A b) : Ip A (w.setCell ⟨b, o, none⟩ u) vs x :=
  h.frame (fun k hk _ => Below.heap_setCell _ _ _ _ (fun e => hA (by simp only at e; rw [← e]; exact hk)))
theorem cell_put {w : World} {b o b' o' : Nat} {v u : Value} (h : w.cell? ⟨b, o, none⟩ = some v) (hne : b ≠ b') : (w.setCell ⟨b', o', none⟩ u).cell? ⟨b, o, none⟩ = some v := by
  rw [World.cell?_setCell_other (h := fun e => hne (by simp only [Addr.mk.injEq] at e; exact e.1.symm))]
  exact h

end Go.Proofs.Ytoblfnoaepbhfaa
