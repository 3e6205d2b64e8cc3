/-
  PLAIN LAW: all answers of a system: by counting through all lists, and by prefixes.
-/
import Derived.Test.YthceklaoikeokaaGreatDoorSysB
import Derived.Test.YthceklaoikeokaaGreatDoorRowsB
namespace Go.Proofs.YthceklaoikeokaaGreatDoor
open Go.RowKit
set_option linter.unusedSimpArgs false
set_option linter.unusedVariables false

/-- A prefix and m values more, in order. -/
def extL (p : Nat) : Nat → List Int → List (List Int)
  | 0, v => [v]
  | m + 1, v => (List.range p).flatMap (fun (a : Nat) => extL p m (v ++ [(a : Int)]))
theorem fm_sing {α β : Type} (f : α → β) (l : List α) : l.flatMap (fun a => [f a]) = l.map f := by
  induction l with
  | nil => rfl
  | cons x xs ih => rw [List.flatMap_cons, ih]; rfl
theorem sum_rep (n m : Nat) : (List.replicate n m).sum = n * m := by
  induction n with
  | zero => simp
  | succ n ih => rw [List.replicate_succ, List.sum_cons, ih, Nat.succ_mul]; omega
theorem extL_succ (p : Nat) : ∀ (m : Nat) (v : List Int), extL p (m + 1) v = (extL p m v).flatMap (fun t => (List.range p).map (fun (a : Nat) => t ++ [(a : Int)]))
  | 0, v => by
    simp only [extL]
    rw [fm_sing]
    simp
  | m + 1, v => by
    rw [extL]
    conv => lhs; arg 1; ext a; rw [extL_succ p m]
    rw [extL, List.flatMap_assoc]
theorem extL_length (p : Nat) : ∀ (m : Nat) (v : List Int), (extL p m v).length = p ^ m
  | 0, v => by simp [extL]
  | m + 1, v => by
    rw [extL, List.length_flatMap]
    have : (List.range p).map (fun a => (extL p m (v ++ [((a : Nat) : Int)])).length) = List.replicate p (p ^ m) := by
      apply List.ext_getElem
      · simp
      · intro i h1 h2
        simp [extL_length p m]
    rw [this, sum_rep, Nat.pow_succ, Nat.mul_comm]
theorem extL_mem (p : Nat) : ∀ (m : Nat) (v t : List Int), t ∈ extL p m v → ∃ u, t = v ++ u ∧ u.length = m ∧ ∀ a, a ∈ u → 0 ≤ a ∧ a < p
  | 0, v, t, h => ⟨[], by simpa [extL] using h, rfl, by simp⟩
  | m + 1, v, t, h => by
    rw [extL, List.mem_flatMap] at h
    obtain ⟨a, ha, h⟩ := h
    obtain ⟨u, rfl, hl, hu⟩ := extL_mem p m _ t h
    rw [List.mem_range] at ha
    refine ⟨(a : Int) :: u, by simp, by simp [hl], fun b hb => ?_⟩
    rcases List.mem_cons.1 hb with rfl | hb
    · omega
    · exact hu b hb
/-! ### Counting through -/
theorem range_mul (n p : Nat) : List.range (n * p) = (List.range n).flatMap (fun i => (List.range p).map (fun a => i * p + a)) := by
  induction n with
  | zero => simp
  | succ n ih =>
    rw [Nat.add_mul, Nat.one_mul, List.range_add, ih, List.range_succ, List.flatMap_append]
    simp
theorem digs_snoc (p : Nat) (m : Nat) (i a : Nat) (ha : a < p) : digs p (m + 1) ((i * p + a : Nat) : Int) = digs p m i ++ [(a : Int)] := by
  have h0 : (p : Int) ≠ 0 := by omega
  rw [digs]
  have e1 : ((i * p + a : Nat) : Int) / (p : Int) = i := by
    rw [← Int.natCast_ediv]
    congr 1
    rw [Nat.mul_comm, Nat.mul_add_div (by omega), Nat.div_eq_of_lt ha, Nat.add_zero]
  have e2 : ((i * p + a : Nat) : Int) % (p : Int) = a := by
    rw [← Int.natCast_emod]
    congr 1
    rw [Nat.mul_comm, Nat.mul_add_mod, Nat.mod_eq_of_lt ha]
  rw [e1, e2]
theorem allL_ext (p : Nat) : ∀ m, (List.range (p ^ m)).map (fun i => digs p m ((i : Nat) : Int)) = extL p m []
  | 0 => by simp [digs, extL]
  | m + 1 => by
    rw [extL_succ, ← allL_ext p m, Nat.pow_succ, range_mul, List.map_flatMap, List.flatMap_map]
    congr 1
    funext i
    rw [List.map_map]
    apply List.map_congr_left
    intro a ha
    rw [List.mem_range] at ha
    exact digs_snoc p m i a ha
/-! ### By prefixes -/
/-- The last number other than 0 among the first k. -/
def lastTo (l : List Int) : Nat → Int
  | 0 => -1
  | k + 1 => if l.getD k 0 = 0 then lastTo l k else k
theorem lastTo_bd (l : List Int) : ∀ k, -1 ≤ lastTo l k ∧ lastTo l k < k
  | 0 => by simp [lastTo]
  | k + 1 => by
    have := lastTo_bd l k
    unfold lastTo
    split <;> omega
theorem lastTo_zero (l : List Int) : ∀ (k n : Nat), lastTo l k < n → ∀ i, n ≤ i → i < k → l.getD i 0 = 0
  | 0, n, _, i, _, h => absurd h (Nat.not_lt_zero _)
  | k + 1, n, h, i, hn, hi => by
    unfold lastTo at h
    split at h
    · rename_i h0
      by_cases hik : i = k
      · subst hik; exact h0
      · exact lastTo_zero l k n h i hn (by omega)
    · omega
def stopE (p : Int) (eqs : List Eqn) (v : List Int) (m : Nat) : Bool := eqs.any (fun e => decide (lastTo e.1 e.1.length < (v.length : Int)) && !holdsE p (v ++ List.replicate m 0) e)
def ansE (p : Nat) (eqs : List Eqn) : Nat → List Int → List (List Int)
  | 0, v => if stopE p eqs v 0 = true then [] else [v]
  | m + 1, v => if stopE p eqs v (m + 1) = true then [] else (List.range p).flatMap (fun (a : Nat) => ansE p eqs m (v ++ [(a : Int)]))
theorem dot_prefix : ∀ (l v s t : List Int), (∀ i, v.length ≤ i → i < l.length → l.getD i 0 = 0) → dotI l (v ++ s) = dotI l (v ++ t)
  | [], v, s, t, _ => by simp [dotI]
  | a :: l, [], s, t, h => by
    have h1 : ∀ c, c < (a :: l).length → (a :: l).getD c 0 = 0 := fun c hc => h c (Nat.zero_le _) hc
    rw [dot_zero _ _ h1, dot_zero _ _ h1]
  | a :: l, b :: v, s, t, h => by
    rw [List.cons_append, List.cons_append, dotI_cons, dotI_cons, dot_prefix l v s t (fun i h1 h2 => by
      have := h (i + 1) (by simpa using h1) (by simpa using h2)
      simpa using this)]
theorem stop_none {p : Nat} {eqs : List Eqn} {v : List Int} {m : Nat} (h : stopE p eqs v m = true) (u : List Int) : eqs.all (holdsE p (v ++ u)) = false := by
  unfold stopE at h
  rw [List.any_eq_true] at h
  obtain ⟨e, he, h⟩ := h
  simp only [Bool.and_eq_true, decide_eq_true_eq, Bool.not_eq_true'] at h
  rw [List.all_eq_false]
  refine ⟨e, he, ?_⟩
  rw [Bool.not_eq_true, ← h.2]
  unfold holdsE
  rw [dot_prefix e.1 v u (List.replicate m 0) (fun i h1 h2 => lastTo_zero e.1 e.1.length v.length h.1 i h1 h2)]
theorem ansE_ext {p : Nat} {eqs : List Eqn} {U : Nat} (hU : ∀ e, e ∈ eqs → e.1.length = U) : ∀ (m : Nat) (v : List Int), v.length + m = U → ansE p eqs m v = (extL p m v).filter (fun t => eqs.all (holdsE p t))
  | 0, v, hv => by
    unfold ansE extL
    by_cases h : stopE p eqs v 0 = true
    · rw [if_pos h]
      have := stop_none h []
      simp only [List.append_nil] at this
      simp [this]
    · rw [if_neg h]
      have hall : eqs.all (holdsE p v) = true := by
        rw [List.all_eq_true]
        intro e he
        unfold stopE at h
        rw [Bool.not_eq_true, List.any_eq_false] at h
        have h2 := h e he
        have hl := (lastTo_bd e.1 e.1.length).2
        rw [hU e he] at hl
        have hd : decide (lastTo e.1 e.1.length < (v.length : Int)) = true := by rw [hU e he]; simp; omega
        rw [hd] at h2
        simpa using h2
      simp [hall]
  | m + 1, v, hv => by
    unfold ansE
    by_cases h : stopE p eqs v (m + 1) = true
    · rw [if_pos h]
      symm
      rw [List.filter_eq_nil_iff]
      intro t ht
      obtain ⟨u, rfl, _⟩ := extL_mem p _ _ t ht
      rw [stop_none h u]
      simp
    · rw [if_neg h, extL, List.filter_flatMap]
      congr 1
      funext a
      exact ansE_ext hU m _ (by simp; omega)
theorem ansE_length {p : Nat} {eqs : List Eqn} {U : Nat} (hU : ∀ e, e ∈ eqs → e.1.length = U) (m : Nat) (v : List Int) (hv : v.length + m = U) : (ansE p eqs m v).length ≤ p ^ m := by
  rw [ansE_ext hU m v hv]
  exact Nat.le_trans (List.length_filter_le _ _) (by rw [extL_length]; exact Nat.le_refl _)
/-! ### All answers -/
def ansTo (p U : Nat) (eqs : List Eqn) (i : Nat) : List (List Int) := ((List.range i).map (fun k => digs p U ((k : Nat) : Int))).filter (fun t => eqs.all (holdsE p t))
theorem ansTo_succ (p U : Nat) (eqs : List Eqn) (i : Nat) : ansTo p U eqs (i + 1) = ansTo p U eqs i ++ (if eqs.all (holdsE p (digs p U i)) = true then [digs p U i] else []) := by
  unfold ansTo
  rw [List.range_succ, List.map_append, List.filter_append]
  congr 1
  simp only [List.map_cons, List.map_nil, List.filter_cons, List.filter_nil]
theorem ansTo_length (p U : Nat) (eqs : List Eqn) (i : Nat) : (ansTo p U eqs i).length ≤ i := by
  unfold ansTo
  exact Nat.le_trans (List.length_filter_le _ _) (by simp)
def answersS (s : Sys) : List (List Int) := ansTo s.1.toNat s.2.1.toNat s.2.2 (s.1.toNat ^ s.2.1.toNat)
theorem answersS_ext (s : Sys) : answersS s = (extL s.1.toNat s.2.1.toNat []).filter (fun t => s.2.2.all (holdsE s.1.toNat t)) := by
  unfold answersS ansTo
  rw [allL_ext]
theorem reduced_len {s : Sys} (h : validS s = true) : ∀ e, e ∈ (reducedF s).2.2 → e.1.length = s.2.1.toNat := by
  have K := elim_ok h
  intro e he
  unfold reducedF at he
  simp only at he
  split at he
  · simp only [List.mem_cons, List.not_mem_nil, or_false] at he
    subst he; simp
  · obtain ⟨r, hr, rfl⟩ := List.mem_map.1 he
    exact (K.good r (List.mem_of_mem_take hr)).len
/-- The reference finds the same. -/
theorem ansE_reduced {s : Sys} (h : validS s = true) : ansE s.1.toNat (reducedF s).2.2 s.2.1.toNat [] = answersS s := by
  have hp := (elim_ok h).hp
  have e1 : ((s.1.toNat : Nat) : Int) = s.1 := by omega
  rw [ansE_ext (reduced_len h) _ _ (by simp), answersS_ext]
  congr 1
  funext t
  rw [e1]
  exact reduced_all h t
def answersF (s : Sys) : List (List Int) × Int := if validS s = true then (if 500 < (countF s).1 then ([], 3) else (answersS s, 0)) else ([], 1)
def relOfF (s : Sys) : RelT × Int := if validS s = true then (if 4 < s.2.1 then ((0, []), 2) else ((s.2.1, answersS s), 0)) else ((0, []), 1)

end Go.Proofs.YthceklaoikeokaaGreatDoor
