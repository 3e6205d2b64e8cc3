/-
  PLAIN: many slices that grow by append, each in its place of one slice; beside them one more; a set behind a pointer.
-/
import Derived.Test.YtamkfnkikiekaaaGreatPolyPRa
import Derived.Test.YtamkfnkikiekaaaGreatRowsBRa
namespace Go.Proofs.YtamkfnkikiekaaaGreat
open Go.RowKit
open Rep (Rd Own sz)
set_option linter.unusedSimpArgs false
set_option linter.unusedVariables false

/-- A set of tuples, behind a pointer. -/
structure PSet where
  size : Int
  ar : Int
  has : List Bool
instance : Rep PSet where
  sz := 1
  Rd w vs x := ∃ b ty sl, vs = [.pointer (some ⟨b, 0, none⟩)] ∧ w.heap[b]? = some (.cells #[.int .i64 x.size, .int .i64 x.ar, sl] ty (0, 0)) ∧ Rd w [sl] x.has
  Own ps w vs x := ∃ b ty sl qs, ps = b :: qs ∧ vs = [.pointer (some ⟨b, 0, none⟩)] ∧ w.heap[b]? = some (.cells #[.int .i64 x.size, .int .i64 x.ar, sl] ty (0, 0)) ∧ Own qs w [sl] x.has
  rd_len := by rintro _ _ _ ⟨b, ty, sl, rfl, _⟩; rfl
  rd_mono := by
    rintro _ _ _ _ hb ⟨b, ty, sl, rfl, h1, h2⟩
    exact ⟨b, ty, sl, rfl, by rw [hb.block b (Array.getElem?_eq_some_iff.1 h1).1]; exact h1, Rep.rd_mono hb h2⟩
  own_rd := by rintro _ _ _ _ ⟨b, ty, sl, qs, _, rfl, h1, h2⟩; exact ⟨b, ty, sl, rfl, h1, Rep.own_rd h2⟩
  own_frame := by
    rintro _ _ _ _ _ hk ⟨b, ty, sl, qs, rfl, rfl, h1, h2⟩
    exact ⟨b, ty, sl, qs, rfl, rfl, by rw [hk b (List.mem_cons_self ..)]; exact h1, Rep.own_frame (fun k h => hk k (List.mem_cons_of_mem _ h)) h2⟩
  own_lt := by
    rintro _ _ _ _ ⟨b, ty, sl, qs, rfl, rfl, h1, h2⟩ k hk
    rcases List.mem_cons.1 hk with rfl | hk
    · exact (Array.getElem?_eq_some_iff.1 h1).1
    · exact Rep.own_lt h2 k hk
  rd_one := by
    rintro _ _ _ ⟨b, ty, sl, rfl, _⟩ u hu
    simp only [List.mem_singleton] at hu; subst hu; rfl
/-- Slices L 0, L 1, .. in the cells of block cb, and one more slice S: no block twice, all from lo on, below hi. -/
def RunM {α β : Type} [Rep α] [Rep β] (lo hi : Nat) (w : World) (cb n : Nat) (es ec : TypeId) (sv : Value) (S : List α) (L : Nat → List β) : Prop :=
  ∃ (f : Nat → Nat) (cur : Array Value) (ty : TypeId), w.heap[cb]? = some (.cells cur ty (0, 0)) ∧ cur.size = n ∧ cb < lo ∧ AccP (fun z => (lo ≤ z ∧ z < hi) ∧ f z = n) es w sv S ∧ ∀ p, p < n → ∃ v, cur[p]? = some v ∧ AccP (fun z => (lo ≤ z ∧ z < hi) ∧ f z = p) ec w v (L p)
section
variable {α β : Type} [Rep α] [Rep β] {lo hi : Nat} {w : World} {cb n : Nat} {es ec : TypeId} {sv : Value} {S : List α} {L : Nat → List β}
theorem RunM.nil {ty : TypeId} (h : w.heap[cb]? = some (.cells (Array.replicate n (.slice none 0 0)) ty (0, 0))) (hlo : cb < lo) : RunM (α := α) (β := β) lo hi w cb n es ec (.slice none 0 0) [] (fun _ => []) :=
  ⟨fun _ => 0, _, ty, h, by simp, hlo, AccP.nil _ _ _, fun p hp => ⟨_, by simp [hp], AccP.nil _ _ _⟩⟩
theorem RunM.frame (h : RunM lo hi w cb n es ec sv S L) {w' : World} (hs : w.heap.size ≤ w'.heap.size) (hcb : w'.heap[cb]? = w.heap[cb]?) (hb : ∀ k, lo ≤ k → k < hi → k < w.heap.size → w'.heap[k]? = w.heap[k]?) : RunM lo hi w' cb n es ec sv S L := by
  obtain ⟨f, cur, ty, h1, h2, h3, h4, h5⟩ := h
  exact ⟨f, cur, ty, hcb.trans h1, h2, h3, h4.frame hs (fun k hk hl => hb k hk.1.1 hk.1.2 hl), fun p hp => by
    obtain ⟨v, hv, ha⟩ := h5 p hp
    exact ⟨v, hv, ha.frame hs (fun k hk hl => hb k hk.1.1 hk.1.2 hl)⟩⟩
theorem RunM.lt (h : RunM lo hi w cb n es ec sv S L) : cb < w.heap.size := by
  obtain ⟨f, cur, ty, h1, h2⟩ := h
  exact (Array.getElem?_eq_some_iff.1 h1).1
theorem RunM.mono (h : RunM lo hi w cb n es ec sv S L) {w' : World} (hb : Below w.heap.size w w') : RunM lo hi w' cb n es ec sv S L :=
  h.frame hb.size (hb.block cb h.lt) (fun k _ _ hl => hb.block k hl)
theorem RunM.setCell (h : RunM lo hi w cb n es ec sv S L) {b o : Nat} (u : Value) (h1 : b ≠ cb) (h2 : b < lo ∨ hi ≤ b) : RunM lo hi (w.setCell ⟨b, o, none⟩ u) cb n es ec sv S L :=
  h.frame (by simp [World.setCell]) (Below.heap_setCell _ _ _ _ (fun e => h1 e.symm)) (fun k h3 h4 _ => Below.heap_setCell _ _ _ _ (fun e => by subst e; omega))
/-- The cell at place p, and what it reads as. -/
theorem RunM.at (h : RunM lo hi w cb n es ec sv S L) {p : Nat} (hp : p < n) : ∃ a c, w.cell? ⟨cb, p, none⟩ = some (.slice a (L p).length c) ∧ Rd w [.slice a (L p).length c] (L p) := by
  obtain ⟨f, cur, ty, h1, h2, h3, h4, h5⟩ := h
  obtain ⟨v, hv, ha⟩ := h5 p hp
  obtain ⟨a, c, rfl, _⟩ := ha.len
  exact ⟨a, c, by rw [cell_at_block h1]; exact hv, ha.rd⟩
theorem RunM.free (h : RunM lo hi w cb n es ec sv S L) (p : Nat) : w.frozen? ⟨cb, p, none⟩ = false := by
  obtain ⟨f, cur, ty, h1, _⟩ := h
  exact free_at_block h1
end

end Go.Proofs.YtamkfnkikiekaaaGreat

