/-
  PLAIN: one element of an owned slice is taken out and put back; what is marked, as a relation.
-/
import Derived.Test.YtkbeihkjhmillaaPut
namespace Go.Proofs.Ytkbeihkjhmillaa
open Go.RowKit
open Rep (Rd Own sz)
set_option linter.unusedSimpArgs false
set_option linter.unusedVariables false

/-- Element j of an owned slice, and how it is put back. -/
theorem own_elem {α : Type} [Rep α] {ps : List Nat} {w : World} {v : Value} {l : List α} (h : OwnSl ps w v l) (hn : ps.Nodup) (j : Nat) (hj : j < l.length) :
    ∃ g o c cur e p vs, v = .slice (some ⟨g, o, none⟩) l.length c ∧ w.heap[g]? = some (.cells cur e (0, 0)) ∧ Own p w vs l[j] ∧ (∀ k, k < vs.length → cur[o + j * sz α + k]? = vs[k]?) ∧
      g ∈ ps ∧ g ∉ p ∧ p.Nodup ∧ (∀ k, k ∈ p → k ∈ ps) ∧
      ∀ (w' : World) (vs' : List Value) (y : α), w'.heap[g]? = some (.cells (putArr cur (o + j * sz α) vs') e (0, 0)) → Own p w' vs' y → (∀ k, k ∈ ps → k ∉ p → k ≠ g → w'.heap[k]? = w.heap[k]?) → OwnSl ps w' v (l.set j y) := by
  rcases h with ⟨rfl, _⟩ | ⟨g, o, c, cur, e, pss, rfl, h1, h2, h3, rfl, h5, h6⟩
  · exact absurd hj (Nat.not_lt_zero _)
  obtain ⟨p, vs, hp, hO, hc⟩ := h6 j hj
  have hjp : j < pss.length := by omega
  have hpj : pss[j] = p := by rw [List.getElem?_eq_getElem hjp] at hp; simpa using hp
  have hwhole : pss = pss.take j ++ p :: pss.drop (j + 1) := by
    conv => lhs; rw [← List.take_append_drop j pss, List.drop_eq_getElem_cons hjp, hpj]
  have hmem : ∀ k, k ∈ p → k ∈ List.flatten pss := fun k hk => List.mem_flatten.2 ⟨p, List.mem_of_getElem? hp, hk⟩
  have hgn := (List.nodup_cons.1 hn).1
  have hfn := (List.nodup_cons.1 hn).2
  have hdis : ∀ i q, i ≠ j → pss[i]? = some q → ∀ k, k ∈ q → k ∉ p := by
    intro i q hij hq k hk hkp
    rw [hwhole, List.flatten_append, List.flatten_cons] at hfn
    simp only [List.nodup_append, List.mem_append] at hfn
    obtain ⟨_, ⟨_, _, n3⟩, n4⟩ := hfn
    rcases Nat.lt_or_gt_of_ne hij with hlt | hlt
    · refine n4 k (List.mem_flatten.2 ⟨q, ?_, hk⟩) k (.inl hkp) rfl
      refine List.mem_iff_getElem?.2 ⟨i, ?_⟩
      rw [List.getElem?_take_of_lt hlt]; exact hq
    · refine n3 k hkp k (List.mem_flatten.2 ⟨q, ?_, hk⟩) rfl
      refine List.mem_iff_getElem?.2 ⟨i - (j + 1), ?_⟩
      rw [List.getElem?_drop, show j + 1 + (i - (j + 1)) = i by omega]; exact hq
  refine ⟨g, o, c, cur, e, p, vs, rfl, h3, hO, hc, by simp, fun hk => hgn (hmem g hk), ?_, fun k hk => List.mem_cons_of_mem _ (hmem k hk), ?_⟩
  · rw [hwhole, List.flatten_append, List.flatten_cons] at hfn
    simp only [List.nodup_append] at hfn
    exact hfn.2.1.1
  · intro w' vs' y hg hy hk
    have hvl' := Rep.rd_len (Rep.own_rd hy)
    have hvl := Rep.rd_len (Rep.own_rd hO)
    refine .inr ⟨g, o, c, _, e, pss, by simp, by simpa using h1, h2, hg, rfl, by simpa using h5, fun i hi => ?_⟩
    simp only [List.length_set] at hi
    by_cases hij : j = i
    · subst hij
      refine ⟨p, vs', hp, by simpa using hy, fun k hk' => putArr_in vs' _ k cur hk' ?_⟩
      have := hc k (by omega)
      rw [List.getElem?_eq_getElem (by omega)] at this
      exact (Array.getElem?_eq_some_iff.1 this).1
    · obtain ⟨q, us, hq, hOq, hcq⟩ := h6 i hi
      have hul := Rep.rd_len (Rep.own_rd hOq)
      refine ⟨q, us, hq, ?_, fun k hk' => ?_⟩
      · simp only [List.getElem_set_ne hij]
        refine Rep.own_frame (fun k hkq => hk k (List.mem_cons_of_mem _ (List.mem_flatten.2 ⟨q, List.mem_of_getElem? hq, hkq⟩)) (hdis i q (Ne.symm hij) hq k hkq) ?_) hOq
        rintro rfl
        exact hgn (List.mem_flatten.2 ⟨q, List.mem_of_getElem? hq, hkq⟩)
      · rw [putArr_out]
        · exact hcq k hk'
        · have hks : k < sz α := by omega
          rcases Nat.lt_or_gt_of_ne hij with hlt | hlt
          · right
            have : (j + 1) * sz α ≤ i * sz α := Nat.mul_le_mul_right _ hlt
            rw [Nat.add_mul] at this
            omega
          · left
            have := idx_lt (s := sz α) hlt hks
            omega

/-- All elements marked, from k on up to m. -/
def heldL {α : Type} (hE : α → Int → Int → Prop) : List α → Int → Int → Prop
  | [], k, m => k = m
  | x :: xs, k, m => ∃ m', hE x k m' ∧ k ≤ m' ∧ heldL hE xs m' m
theorem heldL_le {α : Type} {hE : α → Int → Int → Prop} : ∀ {l : List α} {k m : Int}, heldL hE l k m → k ≤ m
  | [], k, m, h => by have : k = m := h; omega
  | x :: xs, k, m, h => by obtain ⟨m', _, h1, h2⟩ := h; exact Int.le_trans h1 (heldL_le h2)
theorem heldL_snoc {α : Type} {hE : α → Int → Int → Prop} : ∀ {l : List α} {x : α} {k m m' : Int}, heldL hE l k m → hE x m m' → m ≤ m' → heldL hE (l ++ [x]) k m'
  | [], x, k, m, m', h, h1, h2 => by obtain rfl : k = m := h; exact ⟨m', h1, h2, rfl⟩
  | z :: zs, x, k, m, m', h, h1, h2 => by obtain ⟨q, a, b, c⟩ := h; exact ⟨q, a, b, heldL_snoc c h1 h2⟩
theorem heldL_drop {α : Type} {hE : α → Int → Int → Prop} {l : List α} {j : Nat} {k m : Int} (hj : j < l.length) (h : heldL hE (l.drop j) k m) : ∃ m', hE l[j] k m' ∧ k ≤ m' ∧ heldL hE (l.drop (j + 1)) m' m := by
  rw [List.drop_eq_getElem_cons hj] at h; exact h

end Go.Proofs.Ytkbeihkjhmillaa
