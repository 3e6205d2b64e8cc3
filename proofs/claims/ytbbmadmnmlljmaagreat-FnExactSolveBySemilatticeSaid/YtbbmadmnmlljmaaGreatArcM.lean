/-
  PLAIN LAW: making domains consistent along the constraints.
-/
import Derived.Test.YtbbmadmnmlljmaaGreatWithout
namespace Go.Proofs.YtbbmadmnmlljmaaGreat
open Go.RowKit
set_option linter.unusedSimpArgs false
set_option linter.unusedVariables false

abbrev ArcS := List (List Int) × List (Int × Int × Int)
/-- Value a at place p of constraint ci, whose variable is v: kept if supported, else struck and noted. -/
def stepA (ts : List (List Int)) (sc : List Int) (ci p v : Nat) (s : ArcS) (a : Int) : ArcS :=
  if supB ts sc s.1 p a then s else (s.1.set v ((s.1.getD v []).filter (fun x => x != a)), s.2 ++ [((v : Int), a, (ci : Int))])
def placeA (ts : List (List Int)) (sc : List Int) (ci : Nat) (s : ArcS) (p : Nat) : ArcS := (s.1.getD (sc.getD p 0).toNat []).foldl (stepA ts sc ci p (sc.getD p 0).toNat) s
def conA (rs : List RelT) (cs : List OpT) (s : ArcS) (k : Nat) : ArcS := (List.range (cs.getD k (0, [])).2.length).foldl (placeA (rs.getD (cs.getD k (0, [])).1.toNat (0, [])).2 (cs.getD k (0, [])).2 k) s
def roundA (rs : List RelT) (cs : List OpT) (s : ArcS) : ArcS := (List.range cs.length).foldl (conA rs cs) s
def arcsA (rs : List RelT) (cs : List OpT) : Nat → ArcS → ArcS
  | 0, s => s
  | n + 1, s => if (roundA rs cs s).2.length = s.2.length then roundA rs cs s else arcsA rs cs n (roundA rs cs s)

theorem foldl_range_succ {α : Type} (f : α → Nat → α) (s : α) (n : Nat) : (List.range (n + 1)).foldl f s = f ((List.range n).foldl f s) n := by
  rw [List.range_succ, List.foldl_append]; rfl
theorem foldl_take_succ {α β : Type} (f : α → β → α) (s : α) (l : List β) {k : Nat} (hk : k < l.length) : (l.take (k + 1)).foldl f s = f ((l.take k).foldl f s) l[k] := by
  rw [List.take_succ_eq_append_getElem hk, List.foldl_append]; rfl
theorem sum_set (l : List (List Int)) (x : List Int) : ∀ (i : Nat) (h : i < l.length), ((l.set i x).map List.length).sum + l[i].length = (l.map List.length).sum + x.length := by
  induction l with
  | nil => intro i h; cases h
  | cons y l ih =>
    intro i h
    cases i with
    | zero => simp; omega
    | succ i =>
      have := ih i (by simpa using h)
      simp only [List.set_cons_succ, List.map_cons, List.sum_cons, List.getElem_cons_succ]
      omega
theorem filter_lt {l : List Int} {a : Int} (h : a ∈ l) : (l.filter (fun x => x != a)).length + 1 ≤ l.length := by
  induction l with
  | nil => cases h
  | cons y l ih =>
    by_cases hy : y = a
    · have h1 : (y != a) = false := by simp [hy]
      have := List.length_filter_le (fun x => x != a) l
      rw [List.filter_cons, h1, List.length_cons]
      simp only [Bool.false_eq_true, if_false]
      omega
    · have h1 : (y != a) = true := by simp [hy]
      have h2 : a ∈ l := by
        rcases List.mem_cons.1 h with h | h
        · exact absurd h.symm hy
        · exact h
      have := ih h2
      rw [List.filter_cons, h1]
      simp only [if_true, List.length_cons]
      omega
/-- Domains as they are kept: one a variable, each value once, not long; and what bounds the steps. -/
structure ArcOk (V C : Nat) (s : ArcS) : Prop where
  len : s.1.length = V
  small : ∀ d, d ∈ s.1 → d.length ≤ 1048576
  nodup : ∀ d, d ∈ s.1 → d.Nodup
  pot : s.2.length + (s.1.map List.length).sum ≤ C
theorem stepA_ok {V C : Nat} {ts : List (List Int)} {sc : List Int} {ci p v : Nat} {s : ArcS} {a : Int} (h : ArcOk V C s) (hv : v < V) (ha : a ∈ s.1.getD v []) : ArcOk V C (stepA ts sc ci p v s a) := by
  unfold stepA
  split
  · exact h
  · have hl : v < s.1.length := by rw [h.len]; exact hv
    have hg : s.1.getD v [] = s.1[v] := by simp [List.getD, hl]
    rw [hg] at ha ⊢
    have hm : s.1[v] ∈ s.1 := List.getElem_mem hl
    refine ⟨by simpa using h.len, fun d hd => ?_, fun d hd => ?_, ?_⟩
    · rcases List.mem_or_eq_of_mem_set hd with h1 | rfl
      · exact h.small d h1
      · exact Nat.le_trans (List.length_filter_le _ _) (h.small _ hm)
    · rcases List.mem_or_eq_of_mem_set hd with h1 | rfl
      · exact h.nodup d h1
      · exact (h.nodup _ hm).filter _
    · have h1 := sum_set s.1 (s.1[v].filter (fun x => x != a)) v hl
      have h2 := filter_lt ha
      have h3 := h.pot
      simp only [List.length_append, List.length_cons, List.length_nil]
      omega
theorem stepA_keep {V C : Nat} {ts : List (List Int)} {sc : List Int} {ci p v : Nat} {s : ArcS} {a b : Int} (h : ArcOk V C s) (hv : v < V) (hb : b ∈ s.1.getD v []) (hab : b ≠ a) : b ∈ (stepA ts sc ci p v s a).1.getD v [] := by
  unfold stepA
  split
  · exact hb
  · have hl : v < s.1.length := by rw [h.len]; exact hv
    have : (s.1.set v ((s.1.getD v []).filter (fun x => x != a))).getD v [] = (s.1.getD v []).filter (fun x => x != a) := by simp [List.getD, hl]
    simp only [this]
    rw [List.mem_filter]
    exact ⟨hb, by simp [hab]⟩
theorem stepA_more (ts : List (List Int)) (sc : List Int) (ci p v : Nat) (s : ArcS) (a : Int) : s.2.length ≤ (stepA ts sc ci p v s a).2.length ∧ ((stepA ts sc ci p v s a).2.length = s.2.length → stepA ts sc ci p v s a = s) := by
  unfold stepA
  split
  · exact ⟨Nat.le_refl _, fun _ => rfl⟩
  · simp
theorem foldl_more {β : Type} {f : ArcS → β → ArcS} (hf : ∀ s b, s.2.length ≤ (f s b).2.length) : ∀ (l : List β) (s : ArcS), s.2.length ≤ (l.foldl f s).2.length
  | [], _ => Nat.le_refl _
  | b :: l, s => Nat.le_trans (hf s b) (foldl_more hf l (f s b))
theorem placeA_more (ts : List (List Int)) (sc : List Int) (ci : Nat) (s : ArcS) (p : Nat) : s.2.length ≤ (placeA ts sc ci s p).2.length := foldl_more (fun s a => (stepA_more ts sc ci p _ s a).1) _ s
theorem conA_more (rs : List RelT) (cs : List OpT) (s : ArcS) (k : Nat) : s.2.length ≤ (conA rs cs s k).2.length := foldl_more (fun s p => placeA_more _ _ _ s p) _ s
theorem roundA_more (rs : List RelT) (cs : List OpT) (s : ArcS) : s.2.length ≤ (roundA rs cs s).2.length := foldl_more (fun s k => conA_more rs cs s k) _ s
/-- Behind j values of the copied domain L. -/
structure ValInv (V C : Nat) (v : Nat) (L : List Int) (j : Nat) (s : ArcS) : Prop where
  ok : ArcOk V C s
  mem : ∀ i (h : i < L.length), j ≤ i → L[i] ∈ s.1.getD v []
theorem ValInv.step {V C v j : Nat} {L : List Int} {ts : List (List Int)} {sc : List Int} {ci p : Nat} {s : ArcS} (h : ValInv V C v L j s) (hv : v < V) (hL : L.Nodup) (hj : j < L.length) : ValInv V C v L (j + 1) (stepA ts sc ci p v s L[j]) := by
  refine ⟨stepA_ok h.ok hv (h.mem j hj (Nat.le_refl _)), fun i hi hji => stepA_keep h.ok hv (h.mem i hi (by omega)) (fun e => ?_)⟩
  exact (List.pairwise_iff_getElem.1 hL j i hj hi (by omega)) e.symm
theorem ValInv.start {V C v : Nat} {s : ArcS} (h : ArcOk V C s) (hv : v < V) : ValInv V C v (s.1.getD v []) 0 s := ⟨h, fun i hi _ => List.getElem_mem hi⟩
theorem getD_ok {V C v : Nat} {s : ArcS} (h : ArcOk V C s) (hv : v < V) : s.1.getD v [] ∈ s.1 := by
  have hl : v < s.1.length := by rw [h.len]; exact hv
  rw [show s.1.getD v [] = s.1[v] by simp [List.getD, hl]]
  exact List.getElem_mem hl

end Go.Proofs.YtbbmadmnmlljmaaGreat
