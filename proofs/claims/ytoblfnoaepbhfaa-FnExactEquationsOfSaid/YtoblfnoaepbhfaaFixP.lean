/-
  PLAIN LAW: values put so that all rows that elimination leaves hold.
-/
import Derived.Test.YtoblfnoaepbhfaaSol
namespace Go.Proofs.Ytoblfnoaepbhfaa
open Go.RowKit
set_option linter.unusedSimpArgs false
set_option linter.unusedVariables false

theorem dot_set : ∀ (l v : List Int) (c : Nat) (x : Int), c < v.length → dotI l (v.set c x) = dotI l v + l.getD c 0 * (x - v.getD c 0)
  | [], v, c, x, _ => by simp [dotI]
  | a :: l, [], c, x, h => by simp at h
  | a :: l, b :: v, 0, x, _ => by
    simp only [List.set_cons_zero, dotI_cons, List.getD_cons_zero, Int.mul_sub]; omega
  | a :: l, b :: v, c + 1, x, h => by
    have ih := dot_set l v c x (by simpa using h)
    simp only [List.set_cons_succ, dotI_cons, List.getD_cons_succ, ih]; omega
/-- Values with the unknowns that begin rows put so that the rows hold. -/
def fixTo (p : Int) (rows : List SRow) (bs t : List Int) : Nat → List Int
  | 0 => t
  | j + 1 => (fixTo p rows bs t j).set (bs.getD j 0).toNat (((rows.getD j row0).2.1 - dotI (rows.getD j row0).1 t) % p)
theorem fixTo_len (p : Int) (rows : List SRow) (bs t : List Int) : ∀ j, (fixTo p rows bs t j).length = t.length
  | 0 => rfl
  | j + 1 => by simp [fixTo, fixTo_len p rows bs t j]
theorem fixTo_res {p : Int} (hp : 0 < p) (rows : List SRow) (bs t : List Int) (h : Res p t) : ∀ j, Res p (fixTo p rows bs t j)
  | 0 => h
  | j + 1 => fun a ha => by
    rcases List.mem_or_eq_of_mem_set ha with h1 | h1
    · exact fixTo_res hp rows bs t h j a h1
    · subst h1; exact ⟨Int.emod_nonneg _ (by omega), Int.emod_lt_of_pos _ hp⟩
theorem bs_ne {p : Int} {u : Nat} {rows : List SRow} {bs : List Int} (h : Rref p u rows bs) {i j : Nat} (hi : i < bs.length) (hj : j < bs.length) (hij : i ≠ j) : bs[i] ≠ bs[j] := by
  intro e
  have hr := List.getElem?_eq_getElem (show i < rows.length by have := h.le; omega)
  have h1 := h.col i _ i _ hr (List.getElem?_eq_getElem hi)
  have h2 := h.col i _ j _ hr (List.getElem?_eq_getElem hj)
  rw [← e, h1, if_pos rfl, if_neg hij] at h2
  exact absurd h2 (by decide)
theorem fixTo_at {p : Int} {U : Nat} {rows : List SRow} {bs t : List Int} (h : Rref p U rows bs) (ht : t.length = U) (hz : ∀ j (hj : j < bs.length), t.getD bs[j].toNat 0 = 0) (k : Nat) (hk : k < bs.length) : ∀ j, j ≤ k → (fixTo p rows bs t j).getD bs[k].toNat 0 = 0
  | 0, _ => hz k hk
  | j + 1, hj => by
    have hjb : j < bs.length := by omega
    have ih := fixTo_at h ht hz k hk j (by omega)
    have e : (bs.getD j 0) = bs[j] := by simp [List.getD, hjb]
    have b1 := h.bnd j _ (List.getElem?_eq_getElem hjb)
    have b2 := h.bnd k _ (List.getElem?_eq_getElem hk)
    have hne : bs[j].toNat ≠ bs[k].toNat := by have := bs_ne h hjb hk (by omega); omega
    rw [fixTo, e]
    generalize ((rows.getD j row0).2.1 - dotI (rows.getD j row0).1 t) % p = x
    simp only [List.getD, List.getElem?_set_ne hne]
    simpa [List.getD] using ih
/-- A row's sum behind it. -/
theorem fixTo_dot {p : Int} {U : Nat} {rows : List SRow} {bs t : List Int} (h : Rref p U rows bs) (ht : t.length = U) (hz : ∀ j (hj : j < bs.length), t.getD bs[j].toNat 0 = 0) (x : List Int) :
    ∀ j, j ≤ bs.length → dotI x (fixTo p rows bs t j) = dotI x t + ((List.range j).map (fun i => x.getD (bs.getD i 0).toNat 0 * (((rows.getD i row0).2.1 - dotI (rows.getD i row0).1 t) % p))).sum
  | 0, _ => by simp [fixTo]
  | j + 1, hj => by
    have hjb : j < bs.length := by omega
    have ih := fixTo_dot h ht hz x j (by omega)
    have e : (bs.getD j 0) = bs[j] := by simp [List.getD, hjb]
    have b1 := h.bnd j _ (List.getElem?_eq_getElem hjb)
    have h0 := fixTo_at h ht hz j hjb j (Nat.le_refl _)
    rw [fixTo, dot_set _ _ _ _ (by rw [fixTo_len, e, ht]; omega), ih, List.range_succ, List.map_append, List.sum_append]
    simp only [e, List.map_cons, List.map_nil, List.sum_cons, List.sum_nil, h0, Int.sub_zero, Int.add_zero]
    omega
theorem sum_zero {l : List Nat} {f : Nat → Int} (h : ∀ i, i ∈ l → f i = 0) : (l.map f).sum = 0 := by
  induction l with
  | nil => rfl
  | cons a l ih => rw [List.map_cons, List.sum_cons, h a (List.mem_cons_self ..), ih (fun i hi => h i (List.mem_cons_of_mem _ hi))]; rfl
theorem sum_one {f : Nat → Int} (k : Nat) : ∀ n, k < n → (∀ i, i < n → i ≠ k → f i = 0) → ((List.range n).map f).sum = f k
  | 0, hk, _ => absurd hk (Nat.not_lt_zero _)
  | n + 1, hk, h => by
    rw [List.range_succ, List.map_append, List.sum_append]
    simp only [List.map_cons, List.map_nil, List.sum_cons, List.sum_nil, Int.add_zero]
    by_cases e : k = n
    · subst e
      rw [sum_zero (fun i hi => h i (by have := List.mem_range.1 hi; omega) (by have := List.mem_range.1 hi; omega))]; omega
    · rw [sum_one k n (by omega) (fun i h1 h2 => h i (by omega) h2), h n (by omega) (by omega)]; omega
/-- What has zeros where rows begin sums up as before. -/
theorem fix_same {p : Int} {U : Nat} {rows : List SRow} {bs t : List Int} (h : Rref p U rows bs) (ht : t.length = U) (hz : ∀ j (hj : j < bs.length), t.getD bs[j].toNat 0 = 0) (x : List Int) (hx : ∀ j (hj : j < bs.length), x.getD bs[j].toNat 0 = 0) : dotI x (fixTo p rows bs t bs.length) = dotI x t := by
  rw [fixTo_dot h ht hz x _ (Nat.le_refl _), sum_zero]
  · omega
  · intro i hi
    have hi := List.mem_range.1 hi
    have e : (bs.getD i 0) = bs[i] := by simp [List.getD, hi]
    rw [e, hx i hi, Int.zero_mul]
/-- All rows hold. -/
theorem fix_all {p : Int} {U n : Nat} {rows : List SRow} {bs t : List Int} (hp : 0 < p) (hg : AllG p U n rows) (h : Rref p U rows bs) (hf : ¬ 0 ≤ falseF rows bs.length) (ht : t.length = U) (hz : ∀ j (hj : j < bs.length), t.getD bs[j].toNat 0 = 0) : allD p (fixTo p rows bs t bs.length) rows := by
  intro r hr
  obtain ⟨i, hi, rfl⟩ := List.getElem_of_mem hr
  have hgi := hg _ hr
  unfold rowD
  by_cases hd : i < bs.length
  · have eb : bs.getD i 0 = bs[i] := by simp [List.getD, hd]
    have er : rows.getD i row0 = rows[i] := by simp [List.getD, hi]
    rw [fixTo_dot h ht hz _ _ (Nat.le_refl _), sum_one i _ hd]
    · have hc := h.col i _ i _ (List.getElem?_eq_getElem hi) (List.getElem?_eq_getElem hd)
      rw [if_pos rfl] at hc
      rw [eb, er, hc, Int.one_mul, Int.emod_def]
      exact ⟨-((rows[i].2.1 - dotI rows[i].1 t) / p), by rw [Int.mul_neg]; omega⟩
    · intro j hjb hj
      have ej : bs.getD j 0 = bs[j] := by simp [List.getD, hjb]
      have hc := h.col i _ j _ (List.getElem?_eq_getElem hi) (List.getElem?_eq_getElem hjb)
      rw [if_neg (fun e => hj e.symm)] at hc
      rw [ej, hc, Int.zero_mul]
  · have h7 := falseF_none hf i hi (by omega)
    have h8 : dotI rows[i].1 (fixTo p rows bs t bs.length) = 0 := dot_zero _ _ (fun c hc => by
      rw [hgi.len] at hc
      exact h.low i _ (List.getElem?_eq_getElem hi) (by omega) c hc)
    rw [h7, h8]
    simp

end Go.Proofs.Ytoblfnoaepbhfaa
