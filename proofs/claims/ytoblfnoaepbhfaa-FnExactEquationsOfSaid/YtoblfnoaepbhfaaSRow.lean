/-
  PLAIN: a row of the reference in memory.
-/
import Derived.Test.YtoblfnoaepbhfaaElim
import Derived.Test.YtoblfnoaepbhfaaBase
import Derived.Shelf.Abstract
import Derived.IntWalk
import Derived.Deep.RegionHeld3
namespace Go.Proofs.Ytoblfnoaepbhfaa
open Go.RowKit
open Rep (Rd Own sz)
set_option linter.unusedSimpArgs false
set_option linter.unusedVariables false

theorem set_same (cur : Array Value) (q : Nat) (v : Value) (h : cur[q]? = some v) : cur.setIfInBounds q v = cur := by
  apply Array.ext_getElem?
  intro i
  by_cases hi : q = i
  · subst hi
    rw [Array.getElem?_setIfInBounds_self_of_lt (Array.getElem?_eq_some_iff.1 h).1, h]
  · rw [Array.getElem?_setIfInBounds_ne hi]
/-- A row that may be written: at offset o of block b; its two lists in blocks of their own. -/
structure RowIn (w : World) (b o : Nat) (cur : Array Value) (e : TypeId) (p0 p2 : List Nat) (v0 v2 : Value) (r : SRow) : Prop where
  blk : w.heap[b]? = some (.cells cur e (0, 0))
  c0 : cur[o]? = some v0
  c1 : cur[o + 1]? = some (.int .i64 r.2.1)
  c2 : cur[o + 2]? = some v2
  own0 : OwnSl p0 w v0 r.1
  own2 : OwnSl p2 w v2 r.2.2
  n0 : b ∉ p0
  n2 : b ∉ p2
  dis : ∀ k, k ∈ p0 → k ∉ p2
/-- A row that is read. -/
def OthIn (w : World) (b o : Nat) (u0 u2 : Value) (r : SRow) : Prop :=
  w.cell? ⟨b, o, none⟩ = some u0 ∧ w.cell? ⟨b, o + 1, none⟩ = some (.int .i64 r.2.1) ∧ w.cell? ⟨b, o + 2, none⟩ = some u2 ∧ Rd w [u0] r.1 ∧ Rd w [u2] r.2.2

/-- A writing call: one box is turned, the others stay. -/
theorem St.only {w : World} {B : Nat} {wr w1 : World} {p q : List (Nat × Array Value × TypeId)} {g : Nat} {cs cs' : Array Value} {t : TypeId} (h : St w B wr (p ++ (g, cs, t) :: q)) {ps : List Nat} (ho : OnlyAt ps wr w1) (hps : ∀ k, k ∈ ps → w.heap.size ≤ k)
    (hx : ∀ x, x ∈ p ++ q → x.1 ∉ ps) (hg : w1.heap[g]? = some (.cells cs' t (0, 0))) : St w B w1 (p ++ (g, cs', t) :: q) := by
  have h0 := h.box (g, cs, t) (by simp)
  refine ⟨h.bel.trans (ho.below hps), h.lo, by rw [ho.size]; exact h.hi, fun x hm => ?_⟩
  by_cases he : x = (g, cs', t)
  · subst he; exact ⟨h0.1, h0.2.1, hg⟩
  · have hm' : x ∈ p ++ q := by
      rcases List.mem_append.1 hm with hm | hm
      · exact List.mem_append.2 (.inl hm)
      · rcases List.mem_cons.1 hm with hm | hm
        · exact absurd hm he
        · exact List.mem_append.2 (.inr hm)
    have h1 := h.box x (by rcases List.mem_append.1 hm' with hm' | hm' <;> simp [hm'])
    exact ⟨h1.1, h1.2.1, by rw [ho.block _ (hx x hm')]; exact h1.2.2⟩

end Go.Proofs.Ytoblfnoaepbhfaa
