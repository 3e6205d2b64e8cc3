/-
  PLAIN: relations, operations, templates: when they are valid; the order of tuples.
-/
import Derived.Test.YtoblfnoaepbhfaaValidS
namespace Go.Proofs.Ytoblfnoaepbhfaa
open Go.RowKit
set_option linter.unusedSimpArgs false
set_option linter.unusedVariables false

/-- slices.Compare. -/
def cmpL : List Int → List Int → Int
  | [], [] => 0
  | [], _ :: _ => -1
  | _ :: _, [] => 1
  | a :: l, b :: m => if a < b then -1 else if b < a then 1 else cmpL l m
/-- l01Before. -/
def befL : List Int → List Int → Bool
  | [], _ => false
  | _ :: _, [] => false
  | a :: l, b :: m => if a = b then befL l m else decide (a < b)
theorem cmp_bef : ∀ (l m : List Int), l.length = m.length → befL l m = decide (cmpL l m < 0)
  | [], [], _ => by simp [befL, cmpL]
  | a :: l, b :: m, h => by
    have ih := cmp_bef l m (by simpa using h)
    unfold befL cmpL
    by_cases h1 : a = b
    · subst h1; simp [ih]
    · rw [if_neg h1]
      by_cases h2 : a < b
      · rw [if_pos h2]; simp [h2]
      · rw [if_neg h2, if_pos (by omega)]; simp; omega
theorem cmp_bd : ∀ (l m : List Int), -1 ≤ cmpL l m ∧ cmpL l m ≤ 1
  | [], [] => by simp [cmpL]
  | [], _ :: _ => by simp [cmpL]
  | _ :: _, [] => by simp [cmpL]
  | a :: l, b :: m => by
    have := cmp_bd l m
    unfold cmpL
    split
    · omega
    · split <;> omega
/-- Compared up to place k, alike so far. -/
theorem cmp_drop (l m : List Int) (k : Nat) (hl : k < l.length) (hm : k < m.length) : cmpL (l.drop k) (m.drop k) = if l[k] < m[k] then -1 else if m[k] < l[k] then 1 else cmpL (l.drop (k + 1)) (m.drop (k + 1)) := by
  rw [List.drop_eq_getElem_cons hl, List.drop_eq_getElem_cons hm, cmpL]
theorem bef_drop (l m : List Int) (k : Nat) (hl : k < l.length) (hm : k < m.length) : befL (l.drop k) (m.drop k) = if l[k] = m[k] then befL (l.drop (k + 1)) (m.drop (k + 1)) else decide (l[k] < m[k]) := by
  rw [List.drop_eq_getElem_cons hl, List.drop_eq_getElem_cons hm, befL]
/-- Tuple i is right, and comes behind the one before. -/
def tupAt (size ar : Int) (l : List (List Int)) (i : Nat) : Bool := valsOk size (l.getD i []) ar && (decide (i = 0) || decide (cmpL (l.getD (i - 1) []) (l.getD i []) < 0))
def tupsOk (size ar : Int) (l : List (List Int)) : Bool := (List.range l.length).all (tupAt size ar l)
def relOk (size : Int) (r : RelT) : Bool := inB size 1 4 && inB r.1 1 4 && tupsOk size r.1 r.2
theorem tupsOk_of {size ar : Int} {l : List (List Int)} (h : ∀ j, j < l.length → tupAt size ar l j = true) : tupsOk size ar l = true := by
  unfold tupsOk
  rw [List.all_eq_true]
  intro j hj
  exact h j (List.mem_range.1 hj)
theorem tupsOk_not {size ar : Int} {l : List (List Int)} (j : Nat) (hj : j < l.length) (h : tupAt size ar l j = false) : tupsOk size ar l = false := by
  unfold tupsOk
  rw [List.all_eq_false]
  exact ⟨j, List.mem_range.2 hj, by rw [h]; decide⟩
theorem tupsOk_get {size ar : Int} {l : List (List Int)} (h : tupsOk size ar l = true) (j : Nat) (hj : j < l.length) : tupAt size ar l j = true := by
  unfold tupsOk at h
  rw [List.all_eq_true] at h
  exact h j (List.mem_range.2 hj)
def tmplOk (t : Tmpl) : Bool := inB t.1 1 4 && decide (t.2.length ≤ 6) && t.2.all (relOk t.1)
def opOk (size : Int) (f : OpT) : Bool := inB size 1 4 && inB f.1 1 3 && valsOk size f.2 (size ^ f.1.toNat)
def conOk (t : Tmpl) (vars : Int) (c : OpT) : Bool := inB c.1 0 (t.2.length - 1) && valsOk vars c.2 (t.2.getD c.1.toNat (0, [])).1
def instOk (t : Tmpl) (x : Inst) : Bool := tmplOk t && inB x.1 1 10 && decide (x.2.length ≤ 24) && x.2.all (conOk t x.1)
theorem relOk_get {size : Int} {r : RelT} (h : relOk size r = true) : (1 ≤ size ∧ size ≤ 4) ∧ (1 ≤ r.1 ∧ r.1 ≤ 4) ∧ tupsOk size r.1 r.2 = true := by
  simp only [relOk, Bool.and_eq_true] at h
  exact ⟨inB_true h.1.1, inB_true h.1.2, h.2⟩
theorem tmplOk_get {t : Tmpl} (h : tmplOk t = true) : (1 ≤ t.1 ∧ t.1 ≤ 4) ∧ t.2.length ≤ 6 ∧ ∀ r, r ∈ t.2 → relOk t.1 r = true := by
  simp only [tmplOk, Bool.and_eq_true, decide_eq_true_eq, List.all_eq_true] at h
  exact ⟨inB_true h.1.1, h.1.2, h.2⟩
theorem opOk_get {size : Int} {f : OpT} (h : opOk size f = true) : (1 ≤ size ∧ size ≤ 4) ∧ (1 ≤ f.1 ∧ f.1 ≤ 3) ∧ valsOk size f.2 (size ^ f.1.toNat) = true := by
  simp only [opOk, Bool.and_eq_true] at h
  exact ⟨inB_true h.1.1, inB_true h.1.2, h.2⟩
theorem instOk_get {t : Tmpl} {x : Inst} (h : instOk t x = true) : tmplOk t = true ∧ (1 ≤ x.1 ∧ x.1 ≤ 10) ∧ x.2.length ≤ 24 ∧ ∀ c, c ∈ x.2 → conOk t x.1 c = true := by
  simp only [instOk, Bool.and_eq_true, decide_eq_true_eq, List.all_eq_true] at h
  exact ⟨h.1.1.1, inB_true h.1.1.2, h.1.2, h.2⟩
/-- The number of a tuple. -/
def codeL (size : Int) (l : List Int) : Int := l.foldl (fun n a => n * size + a) 0
theorem codeL_snoc (size : Int) (l : List Int) (a : Int) : codeL size (l ++ [a]) = codeL size l * size + a := by simp [codeL]
theorem pow_ge1 {s : Int} (hs : 1 ≤ s) : ∀ n : Nat, 1 ≤ s ^ n
  | 0 => by simp
  | n + 1 => by
    have ih := pow_ge1 hs n
    rw [Int.pow_succ]
    have := Int.mul_le_mul ih hs (by omega) (by omega)
    omega
theorem fold_bd {size : Int} (hs : 1 ≤ size) : ∀ (l : List Int) (n : Int), 0 ≤ n → (∀ a, a ∈ l → 0 ≤ a ∧ a ≤ size - 1) → n * size ^ l.length ≤ l.foldl (fun n a => n * size + a) n ∧ l.foldl (fun n a => n * size + a) n < (n + 1) * size ^ l.length
  | [], n, hn, _ => by simp; omega
  | a :: l, n, hn, h => by
    have ha := h a (List.mem_cons_self ..)
    have hX := pow_ge1 hs l.length
    have h0 : 0 ≤ n * size := Int.mul_nonneg hn (by omega)
    obtain ⟨h1, h2⟩ := fold_bd hs l (n * size + a) (by omega) (fun b hb => h b (List.mem_cons_of_mem _ hb))
    rw [List.length_cons, Int.pow_succ, List.foldl_cons]
    have e1 : n * (size ^ l.length * size) = n * size * size ^ l.length := by rw [Int.mul_comm (size ^ l.length) size, Int.mul_assoc]
    have e2 : (n + 1) * (size ^ l.length * size) = (n * size + size) * size ^ l.length := by rw [Int.mul_comm (size ^ l.length) size, ← Int.mul_assoc, Int.add_mul, Int.one_mul]
    rw [e1, e2]
    have h3 : n * size * size ^ l.length ≤ (n * size + a) * size ^ l.length := Int.mul_le_mul_of_nonneg_right (by omega) (by omega)
    have h4 : (n * size + a + 1) * size ^ l.length ≤ (n * size + size) * size ^ l.length := Int.mul_le_mul_of_nonneg_right (by omega) (by omega)
    omega
theorem codeL_bd {size : Int} (hs : 1 ≤ size) (l : List Int) (h : ∀ a, a ∈ l → 0 ≤ a ∧ a ≤ size - 1) : 0 ≤ codeL size l ∧ codeL size l < size ^ l.length := by
  have := fold_bd hs l 0 (Int.le_refl _) h
  unfold codeL
  rw [Int.zero_mul, Int.zero_add, Int.one_mul] at this
  exact this

end Go.Proofs.Ytoblfnoaepbhfaa
