/-
  PLAIN: a slice that grows by append; its elements may share memory with each other, but not with the slice's own block.
-/
import Derived.Test.YtamkfnkikiekaaaGreatRowsBRa
namespace Go.Proofs.YtamkfnkikiekaaaGreat
open Go.RowKit
open Rep (Rd Own sz)
set_option linter.unusedSimpArgs false
set_option linter.unusedVariables false

def AccS {α : Type} [Rep α] (A : Nat → Prop) (e : TypeId) (w : World) (v : Value) (l : List α) : Prop :=
  ∃ (xs : List Value) (ps : List Nat), w.ownsRow 0 e (sz α) v l.length xs ∧ (∀ k, k ∈ v.ownBlock.toList → A k ∧ k < w.heap.size ∧ k ∉ ps) ∧ (∀ k, k ∈ ps → A k ∧ k < w.heap.size) ∧
    ∀ i (h : i < l.length), ∃ p vs, (∀ k, k ∈ p → k ∈ ps) ∧ Own p w vs l[i] ∧ ∀ k, k < vs.length → xs[i * sz α + k]? = vs[k]?
theorem AccP.accS {α : Type} [Rep α] {A : Nat → Prop} {e : TypeId} {w : World} {v : Value} {l : List α} (h : AccP A e w v l) : AccS A e w v l := by
  obtain ⟨xs, pss, h1, h2, h3, h4, h5⟩ := h
  rw [List.nodup_append] at h3
  refine ⟨xs, List.flatten pss, h1, fun k hk => ⟨(h4 k (List.mem_append.2 (.inl hk))).1, (h4 k (List.mem_append.2 (.inl hk))).2, fun h => h3.2.2 k hk k h rfl⟩, fun k hk => h4 k (List.mem_append.2 (.inr hk)), fun i hi => ?_⟩
  obtain ⟨p, vs, hp, hO, hc⟩ := h5 i hi
  exact ⟨p, vs, fun k hk => List.mem_flatten.2 ⟨p, List.mem_of_getElem? hp, hk⟩, hO, hc⟩
theorem AccS.wk {α : Type} [Rep α] {A C : Nat → Prop} {e : TypeId} {w : World} {v : Value} {l : List α} (h : AccS A e w v l) (hA : ∀ k, A k → C k) : AccS C e w v l := by
  obtain ⟨xs, ps, h1, h2, h3, h4⟩ := h
  exact ⟨xs, ps, h1, fun k hk => ⟨hA k (h2 k hk).1, (h2 k hk).2⟩, fun k hk => ⟨hA k (h3 k hk).1, (h3 k hk).2⟩, h4⟩
theorem AccS.frame {α : Type} [Rep α] {A : Nat → Prop} {e : TypeId} {w w' : World} {v : Value} {l : List α} (h : AccS A e w v l) (hs : w.heap.size ≤ w'.heap.size) (hb : ∀ k, A k → k < w.heap.size → w'.heap[k]? = w.heap[k]?) : AccS A e w' v l := by
  obtain ⟨xs, ps, h1, h2, h3, h4⟩ := h
  refine ⟨xs, ps, row_frame h1 (fun g hg => ?_), fun k hk => ⟨(h2 k hk).1, by have := (h2 k hk).2.1; omega, (h2 k hk).2.2⟩, fun k hk => ⟨(h3 k hk).1, by have := (h3 k hk).2; omega⟩, fun i hi => ?_⟩
  · have := h2 g (by simp [hg]); exact hb g this.1 this.2.1
  · obtain ⟨p, vs, hp, hO, hc⟩ := h4 i hi
    exact ⟨p, vs, hp, Rep.own_frame (fun k hk => by have := h3 k (hp k hk); exact hb k this.1 this.2) hO, hc⟩
theorem AccS.mono {α : Type} [Rep α] {A : Nat → Prop} {e : TypeId} {w w' : World} {v : Value} {l : List α} (h : AccS A e w v l) (hb : Below w.heap.size w w') : AccS A e w' v l :=
  h.frame hb.size (fun k _ hk => hb.block k hk)
theorem AccS.butP {α : Type} [Rep α] {A C : Nat → Prop} {e : TypeId} {w w' : World} {v : Value} {l : List α} (h : AccS A e w v l) (hb : ButP C w w') (hd : ∀ k, A k → ¬ C k) : AccS A e w' v l :=
  h.frame hb.size (fun k hA hk => hb.block k hk (hd k hA))
theorem AccS.setCell {α : Type} [Rep α] {A : Nat → Prop} {e : TypeId} {w : World} {v : Value} {l : List α} (h : AccS A e w v l) {b o : Nat} (u : Value) (hA : ¬ A b) : AccS A e (w.setCell ⟨b, o, none⟩ u) v l :=
  h.frame (by simp [World.setCell]) (fun k hk _ => Below.heap_setCell _ _ _ _ (fun e => hA (by simp only at e; rw [← e]; exact hk)))
theorem AccS.len {α : Type} [Rep α] {A : Nat → Prop} {e : TypeId} {w : World} {v : Value} {l : List α} (h : AccS A e w v l) : ∃ a c, v = .slice a l.length c ∧ l.length ≤ maxLen := by
  obtain ⟨xs, ps, h1, _⟩ := h
  rcases h1.2 with ⟨rfl, h0⟩ | ⟨g, cap, cur, rfl, hg, hh, hc, hm, hs, ht⟩
  · exact ⟨none, 0, by rw [h0], by omega⟩
  · exact ⟨_, cap, rfl, Nat.le_trans hc hm⟩
theorem AccS.rd {α : Type} [Rep α] {A : Nat → Prop} {e : TypeId} {w : World} {v : Value} {l : List α} (h : AccS A e w v l) : Rd w [v] l := by
  obtain ⟨xs, ps, h1, h2, h3, h4⟩ := h
  rcases h1.2 with ⟨rfl, h0⟩ | ⟨g, cap, cur, rfl, hg, hh, hc, hm, hs, ht⟩
  · obtain rfl : l = [] := List.eq_nil_of_length_eq_zero h0
    exact (AccP.nil (α := α) (fun _ => True) e w).rd
  · refine ⟨_, _, rfl, hc, hm, fun i hi => ?_⟩
    obtain ⟨p, vs, hp, hO, hcell⟩ := h4 i hi
    refine ⟨g, 0, vs, rfl, Own.rd hO, fun k hk => ?_⟩
    have h5 := hcell k hk
    have hk2 : k < sz α := by have := Rep.rd_len (Own.rd hO); omega
    have hb : i * sz α + k < l.length * sz α := by
      have h6 : (i + 1) * sz α ≤ l.length * sz α := Nat.mul_le_mul_right _ hi
      rw [Nat.add_mul] at h6
      omega
    rw [← ht, List.getElem?_take, if_pos hb] at h5
    rw [cell_at_block hh, ← h5]
    simp
/-- Element i of a slice that shares: its blocks, its cells. -/
theorem AccS.at {α : Type} [Rep α] {A : Nat → Prop} {e : TypeId} {w : World} {v : Value} {l : List α} (h : AccS A e w v l) {i : Nat} (hi : i < l.length) :
    ∃ g c vs q, v = .slice (some ⟨g, 0, none⟩) l.length c ∧ Own q w vs l[i] ∧ (∀ k, k ∈ q → A k ∧ k < w.heap.size ∧ k ∉ v.ownBlock.toList) ∧ ∀ k, k < sz α → w.cell? ⟨g, i * sz α + k, none⟩ = vs[k]? := by
  obtain ⟨xs, ps, h1, h2, h3, h4⟩ := h
  obtain ⟨p, vs, hp, hO, hcell⟩ := h4 i hi
  rcases h1.2 with ⟨rfl, h0⟩ | ⟨g, cap, cur, rfl, hg, hh, hc, hm, hs, ht⟩
  · omega
  · refine ⟨g, cap, vs, p, rfl, hO, fun k hk => ⟨(h3 k (hp k hk)).1, (h3 k (hp k hk)).2, fun hm2 => (h2 k hm2).2.2 (hp k hk)⟩, fun k hk => ?_⟩
    have hl := Rep.rd_len (Own.rd hO)
    have h5 := hcell k (by omega)
    have hb : i * sz α + k < l.length * sz α := by
      have h6 : (i + 1) * sz α ≤ l.length * sz α := Nat.mul_le_mul_right _ hi
      rw [Nat.add_mul] at h6
      omega
    rw [← ht, List.getElem?_take, if_pos hb] at h5
    rw [cell_at_block hh, ← h5]
    simp

end Go.Proofs.YtamkfnkikiekaaaGreat

