/-
  PLAIN LAW: whether a tuple is one of a relation: by searching, by its number; when an operation keeps a relation.
-/
import Derived.Test.YtoblfnoaepbhfaaFold
namespace Go.Proofs.Ytoblfnoaepbhfaa
open Go.RowKit
set_option linter.unusedSimpArgs false
set_option linter.unusedVariables false

theorem cmp_self : ∀ l : List Int, cmpL l l = 0
  | [] => rfl
  | a :: l => by
    have ih := cmp_self l
    unfold cmpL; rw [if_neg (by omega), if_neg (by omega)]; exact ih
theorem cmp_zero : ∀ l m : List Int, cmpL l m = 0 → l = m
  | [], [], _ => rfl
  | [], _ :: _, h => by simp [cmpL] at h
  | _ :: _, [], h => by simp [cmpL] at h
  | a :: l, b :: m, h => by
    unfold cmpL at h
    split at h
    · omega
    · split at h
      · omega
      · have := cmp_zero l m h
        subst this
        obtain rfl : a = b := by omega
        rfl
theorem cmp_trans : ∀ l m n : List Int, cmpL l m < 0 → cmpL m n < 0 → cmpL l n < 0
  | [], [], _, h, _ => by simp [cmpL] at h
  | _ :: _, [], _, h, _ => by simp [cmpL] at h
  | _, _ :: _, [], _, h => by simp [cmpL] at h
  | [], _ :: _, _ :: _, _, _ => by simp [cmpL]
  | a :: l, b :: m, c :: n, h, k => by
    unfold cmpL at h k ⊢
    by_cases h1 : a < b
    · by_cases h2 : b < c
      · rw [if_pos (by omega)]; omega
      · rw [if_neg h2] at k
        by_cases h3 : c < b
        · rw [if_pos h3] at k; omega
        · rw [if_pos (by omega)]; omega
    · rw [if_neg h1] at h
      by_cases h2 : b < a
      · rw [if_pos h2] at h; omega
      · rw [if_neg h2] at h
        by_cases h3 : b < c
        · rw [if_pos (by omega)]; omega
        · rw [if_neg h3] at k
          by_cases h4 : c < b
          · rw [if_pos h4] at k; omega
          · rw [if_neg h4] at k
            rw [if_neg (by omega), if_neg (by omega)]
            exact cmp_trans l m n h k
/-- Tuples that rise. -/
def Inc (x : List (List Int)) : Prop := ∀ i j, i < j → j < x.length → cmpL (x.getD i []) (x.getD j []) < 0
theorem inc_of {x : List (List Int)} (h : ∀ j, j + 1 < x.length → cmpL (x.getD j []) (x.getD (j + 1) []) < 0) : Inc x := by
  intro i j hij hj
  induction j with
  | zero => omega
  | succ j ih =>
    rcases Nat.lt_or_ge i j with h1 | h1
    · exact cmp_trans _ _ _ (ih h1 (by omega)) (h j hj)
    · obtain rfl : i = j := by omega
      exact h i hj
/-- Whether a tuple is one of them. -/
def hasT (x : List (List Int)) (t : List Int) : Bool := x.contains t
theorem search_end {x : List (List Int)} {t : List Int} (hi : Inc x) {k : Nat} (hk : k ≤ x.length) (h1 : ∀ i, i < k → cmpL (x.getD i []) t < 0) (h2 : ∀ i, k ≤ i → i < x.length → 0 ≤ cmpL (x.getD i []) t) :
    hasT x t = (decide (k < x.length) && decide (cmpL (x.getD k []) t = 0)) := by
  unfold hasT
  rw [Bool.eq_iff_iff]
  simp only [List.contains_iff_mem, Bool.and_eq_true, decide_eq_true_eq]
  constructor
  · intro hm
    obtain ⟨i, hil, rfl⟩ := List.getElem_of_mem hm
    have e : x.getD i [] = x[i] := by simp [List.getD, hil]
    have hki : k ≤ i := by
      rcases Nat.lt_or_ge i k with h | h
      · have := h1 i h; rw [e, cmp_self] at this; omega
      · exact h
    rcases Nat.lt_or_ge k i with h | h
    · have a := hi k i h hil
      have b := h2 k (Nat.le_refl _) (by omega)
      rw [e] at a
      omega
    · obtain rfl : i = k := by omega
      exact ⟨hil, by rw [e, cmp_self]⟩
  · rintro ⟨hl, he⟩
    have e : x.getD k [] = x[k] := by simp [List.getD, hl]
    rw [e] at he
    rw [← cmp_zero _ _ he]
    exact List.getElem_mem hl
theorem search_lo {x : List (List Int)} {t : List Int} (hi : Inc x) {h : Nat} (hl : h < x.length) (hc : cmpL (x.getD h []) t < 0) : ∀ i, i < h + 1 → cmpL (x.getD i []) t < 0 := by
  intro i hih
  rcases Nat.lt_or_ge i h with h1 | h1
  · exact cmp_trans _ _ _ (hi i h h1 hl) hc
  · obtain rfl : i = h := by omega
    exact hc
theorem search_hi {x : List (List Int)} {t : List Int} (hi : Inc x) {h : Nat} (hc : ¬ cmpL (x.getD h []) t < 0) : ∀ i, h ≤ i → i < x.length → 0 ≤ cmpL (x.getD i []) t := by
  intro i hih hil
  rcases Nat.lt_or_ge h i with h1 | h1
  · have a := hi h i h1 hil
    by_cases hn : cmpL (x.getD i []) t < 0
    · exact absurd (cmp_trans _ _ _ a hn) hc
    · omega
  · obtain rfl : i = h := by omega
    omega
def Val (size : Int) (l : List Int) : Prop := ∀ a, a ∈ l → 0 ≤ a ∧ a ≤ size - 1
theorem codeL_cons (size : Int) (a : Int) : ∀ l : List Int, codeL size (a :: l) = a * size ^ l.length + codeL size l := by
  have key : ∀ (l : List Int) (n : Int), l.foldl (fun n a => n * size + a) n = n * size ^ l.length + l.foldl (fun n a => n * size + a) 0 := by
    intro l
    induction l with
    | nil => intro n; simp
    | cons b l ih =>
      intro n
      rw [List.foldl_cons, List.foldl_cons, ih (n * size + b), ih (0 * size + b), List.length_cons, Int.pow_succ, Int.zero_mul, Int.zero_add, Int.add_mul, Int.mul_comm (size ^ l.length) size, Int.mul_assoc]
      omega
  intro l
  unfold codeL
  rw [List.foldl_cons, key l, Int.zero_mul, Int.zero_add]
/-- Numbers of tuples rise as the tuples do. -/
theorem code_lt {size : Int} (hs : 1 ≤ size) : ∀ (l m : List Int), l.length = m.length → Val size l → Val size m → cmpL l m < 0 → codeL size l < codeL size m
  | [], [], _, _, _, h => by simp [cmpL] at h
  | a :: l, b :: m, hl, hv, hw, h => by
    have hl' : l.length = m.length := by simpa using hl
    have hv' : Val size l := fun x hx => hv x (List.mem_cons_of_mem _ hx)
    have hw' : Val size m := fun x hx => hw x (List.mem_cons_of_mem _ hx)
    rw [codeL_cons, codeL_cons, ← hl']
    have b1 := codeL_bd hs l hv'
    have b2 := codeL_bd hs m hw'
    rw [← hl'] at b2
    unfold cmpL at h
    split at h
    · rename_i hab
      have : (a + 1) * size ^ l.length ≤ b * size ^ l.length := Int.mul_le_mul_of_nonneg_right (by omega) (by omega)
      rw [Int.add_mul] at this
      omega
    · split at h
      · omega
      · obtain rfl : a = b := by omega
        have := code_lt hs l m hl' hv' hw' h
        omega
theorem cmp_tri : ∀ (l m : List Int), l.length = m.length → l = m ∨ cmpL l m < 0 ∨ cmpL m l < 0
  | [], [], _ => .inl rfl
  | a :: l, b :: m, h => by
    by_cases h1 : a < b
    · exact .inr (.inl (by unfold cmpL; rw [if_pos h1]; omega))
    · by_cases h2 : b < a
      · exact .inr (.inr (by unfold cmpL; rw [if_pos h2]; omega))
      · obtain rfl : a = b := by omega
        rcases cmp_tri l m (by simpa using h) with h3 | h3 | h3
        · exact .inl (by rw [h3])
        · exact .inr (.inl (by unfold cmpL; rw [if_neg h1, if_neg h1]; exact h3))
        · exact .inr (.inr (by unfold cmpL; rw [if_neg h1, if_neg h1]; exact h3))
theorem code_inj {size : Int} (hs : 1 ≤ size) {l m : List Int} (h : l.length = m.length) (hl : Val size l) (hm : Val size m) (e : codeL size l = codeL size m) : l = m := by
  rcases cmp_tri l m h with h1 | h1 | h1
  · exact h1
  · have := code_lt hs l m h hl hm h1; omega
  · have := code_lt hs m l h.symm hm hl h1; omega
/-- As many rising tuples as there are: all of them. -/
theorem full_mem {size : Int} (hs : 1 ≤ size) {ar : Nat} {x : List (List Int)} (hi : Inc x) (hv : ∀ t, t ∈ x → t.length = ar ∧ Val size t) (hn : (x.length : Int) = size ^ ar) {t : List Int} (hl : t.length = ar) (ht : Val size t) : t ∈ x := by
  have hg : ∀ i, i < x.length → x.getD i [] ∈ x := fun i h => by simp [List.getD, h]
  have lo : ∀ i : Nat, i < x.length → (i : Int) ≤ codeL size (x.getD i []) := by
    intro i
    induction i with
    | zero => intro h; exact (codeL_bd hs _ (hv _ (hg 0 h)).2).1
    | succ i ih =>
      intro h
      have h1 := ih (by omega)
      have a := hv _ (hg i (by omega))
      have b := hv _ (hg (i + 1) h)
      have := code_lt hs _ _ (a.1.trans b.1.symm) a.2 b.2 (hi i (i + 1) (by omega) h)
      omega
  have hi2 : ∀ d i : Nat, i + d + 1 = x.length → codeL size (x.getD i []) ≤ i := by
    intro d
    induction d with
    | zero =>
      intro i h
      have b := hv _ (hg i (by omega))
      have := (codeL_bd hs _ b.2).2
      rw [b.1, ← hn] at this
      omega
    | succ d ih =>
      intro i h
      have h1 := ih (i + 1) (by omega)
      have a := hv _ (hg i (by omega))
      have b := hv _ (hg (i + 1) (by omega))
      have := code_lt hs _ _ (a.1.trans b.1.symm) a.2 b.2 (hi i (i + 1) (by omega) (by omega))
      omega
  have hb := codeL_bd hs t ht
  rw [hl, ← hn] at hb
  obtain ⟨k, hk⟩ : ∃ k : Nat, codeL size t = k := ⟨(codeL size t).toNat, by omega⟩
  have hkl : k < x.length := by omega
  have a := hv _ (hg k hkl)
  have e : x.getD k [] = t := code_inj hs (a.1.trans hl.symm) a.2 ht (by have := lo k hkl; have := hi2 (x.length - 1 - k) k (by omega); omega)
  rw [← e]; exact hg k hkl
/-- The set of tuples, told by their numbers. -/
def setTo (size : Int) (n : Nat) (x : List (List Int)) : Nat → List Bool
  | 0 => List.replicate n false
  | k + 1 => (setTo size n x k).set (codeL size (x.getD k [])).toNat true
theorem setTo_len (size : Int) (n : Nat) (x : List (List Int)) : ∀ k, (setTo size n x k).length = n
  | 0 => by simp [setTo]
  | k + 1 => by simp [setTo, setTo_len size n x k]
theorem setTo_get {size : Int} {n : Nat} {x : List (List Int)} (hx : ∀ t, t ∈ x → 0 ≤ codeL size t ∧ codeL size t < n) (c : Nat) (hc : c < n) : ∀ k, k ≤ x.length → (setTo size n x k).getD c false = decide (∃ j, j < k ∧ codeL size (x.getD j []) = c)
  | 0, _ => by simp [setTo, List.getD, hc]
  | k + 1, h => by
    have ih := setTo_get hx c hc k (by omega)
    have hm : x.getD k [] ∈ x := by simp [List.getD, show k < x.length by omega]
    have hb := hx _ hm
    unfold setTo
    by_cases he : codeL size (x.getD k []) = c
    · have : (codeL size (x.getD k [])).toNat = c := by omega
      rw [this]
      have h2 : ((setTo size n x k).set c true).getD c false = true := by simp [List.getD, setTo_len, hc]
      rw [h2]
      symm
      rw [decide_eq_true_eq]
      exact ⟨k, by omega, he⟩
    · have hne : (codeL size (x.getD k [])).toNat ≠ c := by omega
      have h2 : ((setTo size n x k).set (codeL size (x.getD k [])).toNat true).getD c false = (setTo size n x k).getD c false := by
        generalize (codeL size (x.getD k [])).toNat = q at hne ⊢
        simp [List.getD, List.getElem?_set_ne hne]
      rw [h2, ih]
      apply decide_eq_decide.2
      constructor
      · rintro ⟨j, hj, e⟩; exact ⟨j, by omega, e⟩
      · rintro ⟨j, hj, e⟩
        rcases Nat.lt_or_ge j k with h3 | h3
        · exact ⟨j, h3, e⟩
        · obtain rfl : j = k := by omega
          exact absurd e he
theorem setTo_mem {size : Int} (hs : 1 ≤ size) {ar : Nat} {n : Nat} (hn : (n : Int) = size ^ ar) {x : List (List Int)} (hv : ∀ t, t ∈ x → t.length = ar ∧ Val size t) {t : List Int} (hl : t.length = ar) (ht : Val size t) :
    (setTo size n x x.length).getD (codeL size t).toNat false = hasT x t := by
  unfold hasT
  have hb := codeL_bd hs t ht
  rw [hl, ← hn] at hb
  have hx : ∀ t, t ∈ x → 0 ≤ codeL size t ∧ codeL size t < n := fun t h => by
    have := hv t h
    have h2 := codeL_bd hs t this.2
    rw [this.1, ← hn] at h2
    exact h2
  rw [setTo_get hx _ (by omega) _ (Nat.le_refl _), Bool.eq_iff_iff, decide_eq_true_eq, List.contains_iff_mem]
  constructor
  · rintro ⟨j, hj, e⟩
    have hm : x.getD j [] ∈ x := by simp [List.getD, hj]
    have a := hv _ hm
    have := code_inj hs (a.1.trans hl.symm) a.2 ht (by omega)
    rw [← this]; exact hm
  · intro hm
    obtain ⟨j, hj, rfl⟩ := List.getElem_of_mem hm
    exact ⟨j, hj, by simp [List.getD, hj]; omega⟩

theorem relOk_inc {size : Int} {r : RelT} (h : relOk size r = true) : Inc r.2 := by
  have ht := (relOk_get h).2.2
  refine inc_of fun j hj => ?_
  have := tupsOk_get ht (j + 1) hj
  simp only [tupAt, Bool.and_eq_true, Bool.or_eq_true, decide_eq_true_eq] at this
  rcases this.2 with h1 | h1
  · omega
  · simpa using h1
theorem relOk_val {size : Int} {r : RelT} (h : relOk size r = true) : ∀ t, t ∈ r.2 → t.length = r.1.toNat ∧ Val size t := by
  intro t ht
  obtain ⟨j, hj, rfl⟩ := List.getElem_of_mem ht
  have h2 := tupsOk_get (relOk_get h).2.2 j hj
  simp only [tupAt, Bool.and_eq_true] at h2
  have h3 := h2.1
  rw [show r.2.getD j [] = r.2[j] by simp [List.getD, hj]] at h3
  have h4 := valsOk_len h3
  simp only [valsOk, Bool.and_eq_true, List.all_eq_true] at h3
  exact ⟨by omega, fun a ha => inB_true (h3.2 a ha)⟩
theorem pow256 {s a : Int} (hs : 1 ≤ s ∧ s ≤ 4) (ha : 1 ≤ a ∧ a ≤ 4) : 1 ≤ s ^ a.toNat ∧ s ^ a.toNat ≤ 256 := by
  obtain rfl | rfl | rfl | rfl : a = 1 ∨ a = 2 ∨ a = 3 ∨ a = 4 := by omega
  all_goals (obtain rfl | rfl | rfl | rfl : s = 1 ∨ s = 2 ∨ s = 3 ∨ s = 4 := by omega) <;> decide
theorem relOk_count {size : Int} {r : RelT} (h : relOk size r = true) : (r.2.length : Int) ≤ size ^ r.1.toNat ∧ r.2.length ≤ 256 := by
  have hs := (relOk_get h).1
  have hp := pow256 hs (relOk_get h).2.1
  have hi := relOk_inc h
  have hv := relOk_val h
  have hg : ∀ i, i < r.2.length → r.2.getD i [] ∈ r.2 := fun i h => by simp [List.getD, h]
  have lo : ∀ i : Nat, i < r.2.length → (i : Int) ≤ codeL size (r.2.getD i []) := by
    intro i
    induction i with
    | zero => intro h; exact (codeL_bd hs.1 _ (hv _ (hg 0 h)).2).1
    | succ i ih =>
      intro h
      have h1 := ih (by omega)
      have a := hv _ (hg i (by omega))
      have b := hv _ (hg (i + 1) h)
      have := code_lt hs.1 _ _ (a.1.trans b.1.symm) a.2 b.2 (hi i (i + 1) (by omega) h)
      omega
  by_cases h0 : r.2.length = 0
  · omega
  · have h1 := lo (r.2.length - 1) (by omega)
    have b := hv _ (hg (r.2.length - 1) (by omega))
    have h2 := (codeL_bd hs.1 _ b.2).2
    rw [b.1] at h2
    omega
/-- What an operation makes of tuples; whether it keeps a relation. -/
def makeT (size : Int) (f : OpT) (ts : List (List Int)) (ar : Nat) : List Int := (List.range ar).map (fun p => valOf size f (ts.map (fun t => t.getD p 0)))
def pickT (x : List (List Int)) (places : List Int) : List (List Int) := places.map (fun k => x.getD k.toNat [])
def keepAt (size : Int) (f : OpT) (r : RelT) (i : Nat) : Bool := hasT r.2 (makeT size f (pickT r.2 (digs r.2.length f.1.toNat i)) r.1.toNat)
def keepsP (size : Int) (f : OpT) (r : RelT) : Bool := (List.range (r.2.length ^ f.1.toNat)).all (fun i => keepAt size f r i)
theorem pick_mem {x : List (List Int)} {l : List Int} (h : ∀ a, a ∈ l → 0 ≤ a ∧ a < x.length) : ∀ t, t ∈ pickT x l → t ∈ x := by
  intro t ht
  simp only [pickT, List.mem_map] at ht
  obtain ⟨a, ha, rfl⟩ := ht
  have := h a ha
  simp [List.getD, show a.toNat < x.length by omega]
theorem make_val {size : Int} {f : OpT} (hok : opOk size f = true) {ar : Nat} {ts : List (List Int)} (hl : (ts.length : Int) = f.1) (hv : ∀ t, t ∈ ts → t.length = ar ∧ Val size t) :
    (makeT size f ts ar).length = ar ∧ Val size (makeT size f ts ar) ∧ ∀ p, p < ar → Val size (ts.map (fun t => t.getD p 0)) := by
  have h1 : ∀ p, p < ar → Val size (ts.map (fun t => t.getD p 0)) := by
    intro p hp a ha
    simp only [List.mem_map] at ha
    obtain ⟨t, ht, rfl⟩ := ha
    have := hv t ht
    refine this.2 _ ?_
    simp [List.getD, show p < t.length by omega]
  refine ⟨by simp [makeT], ?_, h1⟩
  intro a ha
  simp only [makeT, List.mem_map, List.mem_range] at ha
  obtain ⟨p, hp, rfl⟩ := ha
  obtain ⟨_, _, _, _, g1, g2, _⟩ := valOf_at (args := ts.map (fun t => t.getD p 0)) hok (by simpa using hl) (fun a ha => h1 p hp a ha)
  exact ⟨g1, g2⟩
theorem keeps_full {size : Int} {f : OpT} {r : RelT} (hf : opOk size f = true) (hr : relOk size r = true) (hn : (r.2.length : Int) = size ^ r.1.toNat) : keepsP size f r = true := by
  have hs := (relOk_get hr).1
  have har := (opOk_get hf).2.1
  unfold keepsP
  rw [List.all_eq_true]
  intro i _
  have hp := pow256 hs (relOk_get hr).2.1
  have h1 : ∀ t, t ∈ pickT r.2 (digs r.2.length f.1.toNat i) → t ∈ r.2 := pick_mem (fun a ha => by
    have := digs_mem r.2.length (by omega) f.1.toNat i a ha
    omega)
  have h2 := make_val (ar := r.1.toNat) hf (ts := pickT r.2 (digs r.2.length f.1.toNat i)) (by simp [pickT]; omega) (fun t ht => relOk_val hr t (h1 t ht))
  unfold keepAt hasT
  rw [List.contains_iff_mem]
  exact full_mem hs.1 (relOk_inc hr) (relOk_val hr) hn h2.1 h2.2.1

end Go.Proofs.Ytoblfnoaepbhfaa
