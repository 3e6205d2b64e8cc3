/-
  PLAIN: the search for polymorphisms: value after value, each one looked at; by recursion and by going on; the lists that are looked at.
-/
import Derived.Test.YtllenfkbfeanmaaGreatTmplBSa
import Derived.Test.YtllenfkbfeanmaaGreatRowsBSa
namespace Go.Proofs.YtllenfkbfeanmaaGreat
open Go.RowKit
set_option linter.unusedSimpArgs false
set_option linter.unusedVariables false

/-- How a search ends: with a table, by the budget, or with none, after so many steps. -/
inductive PolyR where
  | hit (l : List Int)
  | out
  | dry (s : Nat)
def loopA (f : Nat → Int → PolyR) : List Int → Nat → PolyR
  | [], s => .dry s
  | a :: al, s => match f s a with
    | .dry s' => loopA f al s'
    | .hit l => .hit l
    | .out => .out
def tryA (rec : List Int → Nat → PolyR) (fit : List Int → Bool) (pre : List Int) (s : Nat) (a : Int) : PolyR :=
  if s = 6000 then .out else if fit (pre ++ [a]) then rec (pre ++ [a]) (s + 1) else .dry (s + 1)
/-- The values 0 .. size - 1, from a on. -/
def fromA (size a : Nat) : List Int := ((List.range size).drop a).map (fun (i : Nat) => (i : Int))
theorem fromA_lt {size a : Nat} (h : a < size) : fromA size a = (a : Int) :: fromA size (a + 1) := by
  unfold fromA
  rw [List.drop_eq_getElem_cons (by simpa using h)]
  simp
theorem fromA_ge {size a : Nat} (h : size ≤ a) : fromA size a = [] := by
  unfold fromA
  simp [h]
section
variable (kind fit : List Int → Bool) (size : Nat)
/-- The search for d more values behind some. -/
def dfs : Nat → List Int → Nat → PolyR
  | 0, pre, s => if kind pre then .hit pre else .dry s
  | d + 1, pre, s => loopA (tryA (dfs d) fit pre) (fromA size 0) s
/-- The search that goes on behind some values (the last one first) with value a, and then with others for those. -/
def upR (n : Nat) : List Int → Nat → Nat → PolyR
  | [], a, s => loopA (tryA (dfs kind fit size (n - 1)) fit []) (fromA size a) s
  | v :: rp, a, s => match loopA (tryA (dfs kind fit size (n - (rp.length + 1) - 1)) fit (v :: rp).reverse) (fromA size a) s with
    | .dry s' => upR n rp (v.toNat + 1) s'
    | .hit l => .hit l
    | .out => .out
theorem upR_go (n : Nat) (rp : List Int) (a s : Nat) : upR kind fit size n rp a s = match loopA (tryA (dfs kind fit size (n - rp.length - 1)) fit rp.reverse) (fromA size a) s with
    | .dry s' => (match rp with | [] => .dry s' | v :: rq => upR kind fit size n rq (v.toNat + 1) s')
    | .hit l => .hit l
    | .out => .out := by
  cases rp with
  | nil =>
    rw [upR]
    simp only [List.length_nil, Nat.sub_zero, List.reverse_nil]
    cases loopA (tryA (dfs kind fit size (n - 1)) fit []) (fromA size a) s <;> rfl
  | cons v rp => rw [upR]; rfl
/-- The next value is tried. -/
theorem upR_step {n : Nat} {rp : List Int} {a s : Nat} (ha : a < size) (hn : rp.length < n) : upR kind fit size n rp a s =
    if s = 6000 then .out else if fit (rp.reverse ++ [(a : Int)]) then (if rp.length + 1 = n then (if kind (rp.reverse ++ [(a : Int)]) then .hit (rp.reverse ++ [(a : Int)]) else upR kind fit size n rp (a + 1) (s + 1)) else upR kind fit size n ((a : Int) :: rp) 0 (s + 1)) else upR kind fit size n rp (a + 1) (s + 1) := by
  rw [upR_go, fromA_lt ha, loopA]
  unfold tryA
  by_cases h1 : s = 6000
  · simp [h1]
  · simp only [h1, if_false]
    by_cases h2 : fit (rp.reverse ++ [(a : Int)]) = true
    · simp only [h2, if_true]
      by_cases h3 : rp.length + 1 = n
      · simp only [h3, if_true]
        have : n - rp.length - 1 = 0 := by omega
        rw [this, dfs]
        by_cases h4 : kind (rp.reverse ++ [(a : Int)]) = true
        · simp only [h4, if_true]
        · simp only [h4]
          rw [upR_go]
          rw [this]
          rfl
      · simp only [h3, if_false]
        obtain ⟨d, hd⟩ : ∃ d, n - rp.length - 1 = d + 1 := ⟨n - rp.length - 2, by omega⟩
        rw [hd, dfs, upR_go (rp := (a : Int) :: rp)]
        have e : n - ((a : Int) :: rp).length - 1 = d := by simp only [List.length_cons]; omega
        rw [e]
        simp only [List.reverse_cons, Int.toNat_natCast]
        cases hL : loopA (tryA (dfs kind fit size d) fit (rp.reverse ++ [(a : Int)])) (fromA size 0) (s + 1) with
        | hit l => rfl
        | out => rfl
        | dry s' =>
          simp only
          rw [upR_go, hd]
          rfl
    · simp only [h2]
      rw [upR_go]
      rfl
/-- No value is left. -/
theorem upR_end {n : Nat} {rp : List Int} {a s : Nat} (ha : size ≤ a) : upR kind fit size n rp a s = (match rp with | [] => .dry s | v :: rq => upR kind fit size n rq (v.toNat + 1) s) := by
  rw [upR_go, fromA_ge ha, loopA]
/-- The whole search. -/
theorem dfs_up {n : Nat} (hn : 1 ≤ n) : dfs kind fit size n [] 0 = upR kind fit size n [] 0 0 := by
  obtain ⟨d, rfl⟩ : ∃ d, n = d + 1 := ⟨n - 1, by omega⟩
  rw [dfs, upR]
  rfl
/-- What is found is a table of values of the kind. -/
theorem loopA_hit {f : Nat → Int → PolyR} {q : List Int → Prop} : ∀ (al : List Int) (s : Nat) (l : List Int), (∀ a, a ∈ al → ∀ s l, f s a = .hit l → q l) → loopA f al s = .hit l → q l
  | [], s, l, _, h => by simp [loopA] at h
  | a :: al, s, l, hq, h => by
    rw [loopA] at h
    cases hf : f s a with
    | hit m =>
      rw [hf] at h
      simp only [PolyR.hit.injEq] at h
      subst h
      exact hq a (List.mem_cons_self ..) s m hf
    | out => rw [hf] at h; simp at h
    | dry s' =>
      rw [hf] at h
      exact loopA_hit al s' l (fun b hb => hq b (List.mem_cons_of_mem _ hb)) h
theorem fromA_mem {a : Int} {z : Nat} (h : a ∈ fromA size z) : 0 ≤ a ∧ a < (size : Int) := by
  unfold fromA at h
  rw [List.mem_map] at h
  obtain ⟨i, hi, rfl⟩ := h
  have := List.mem_range.1 (List.mem_of_mem_drop hi)
  omega
theorem dfs_hit : ∀ (d : Nat) (pre : List Int) (s : Nat) (l : List Int), (∀ a, a ∈ pre → 0 ≤ a ∧ a < (size : Int)) → dfs kind fit size d pre s = .hit l → l.length = pre.length + d ∧ (∀ a, a ∈ l → 0 ≤ a ∧ a < (size : Int)) ∧ kind l = true
  | 0, pre, s, l, hv, h => by
    rw [dfs] at h
    split at h
    · rename_i hk
      simp only [PolyR.hit.injEq] at h
      subst h
      exact ⟨by simp, hv, hk⟩
    · simp at h
  | d + 1, pre, s, l, hv, h => by
    rw [dfs] at h
    refine loopA_hit (q := fun l => l.length = pre.length + (d + 1) ∧ (∀ a, a ∈ l → 0 ≤ a ∧ a < (size : Int)) ∧ kind l = true) _ _ _ (fun a ha s m hm => ?_) h
    unfold tryA at hm
    split at hm
    · simp at hm
    · split at hm
      · obtain ⟨h1, h2, h3⟩ := dfs_hit d (pre ++ [a]) (s + 1) m (fun b hb => by
          rcases List.mem_append.1 hb with hb | hb
          · exact hv b hb
          · simp only [List.mem_singleton] at hb; subst hb; exact fromA_mem size ha) hm
        exact ⟨by rw [h1]; simp; omega, h2, h3⟩
      · simp at hm
end

/-- The place of a list of chosen tuples at p. -/
def cellP (size : Int) (r : RelT) (ch : List Int) (p : Nat) : Int := codeL size (ch.map (fun i => (r.2.getD i.toNat []).getD p 0))
/-- The places of the list of chosen tuples with number n. -/
def cellsL (size : Int) (m : Nat) (r : RelT) (n : Nat) : List Int := (List.range r.1.toNat).map (cellP size r (digs r.2.length m n))
def maxC (l : List Int) : Int := l.foldl max 0
def lookN (size : Int) (m k : Nat) (r : RelT) (n : Nat) : OpT := ((k : Int), cellsL size m r n)
def looksR (size : Int) (m k : Nat) (r : RelT) : List OpT := (List.range (r.2.length ^ m)).map (lookN size m k r)
def looksTo (t : Tmpl) (m : Nat) : Nat → List OpT
  | 0 => []
  | j + 1 => looksTo t m j ++ looksR t.1 m j (t.2.getD j (0, []))
def manyTo (t : Tmpl) (m : Nat) : Nat → Nat
  | 0 => 0
  | j + 1 => manyTo t m j + (t.2.getD j (0, [])).2.length ^ m
def dueL (L : List OpT) (p : Nat) : List OpT := L.filter (fun l => decide (maxC l.2 = (p : Int)))
/-- Whether the values at the places of a look are a tuple of its relation. -/
def inL (t : Tmpl) (tab : List Int) (l : OpT) : Bool := hasT (t.2.getD l.1.toNat (0, [])).2 (l.2.map (fun c => tab.getD c.toNat 0))
def fitL (t : Tmpl) (m : Nat) (tab : List Int) : Bool := (dueL (looksTo t m t.2.length) (tab.length - 1)).all (inL t tab)
theorem maxC_ge : ∀ (l : List Int) (z a : Int), a ∈ l ∨ a = z → a ≤ l.foldl max z
  | [], z, a, h => by
    rcases h with h | h
    · cases h
    · subst h; exact Int.le_refl _
  | b :: l, z, a, h => by
    rw [List.foldl_cons]
    rcases h with h | h
    · rcases List.mem_cons.1 h with h | h
      · subst h
        exact Int.le_trans (Int.le_max_right _ _) (maxC_ge l _ _ (.inr rfl))
      · exact maxC_ge l _ a (.inl h)
    · subst h
      exact Int.le_trans (Int.le_max_left _ _) (maxC_ge l _ _ (.inr rfl))
theorem maxC_lt : ∀ (l : List Int) (z n : Int), z < n → (∀ a, a ∈ l → a < n) → l.foldl max z < n
  | [], z, n, h, _ => h
  | b :: l, z, n, h, h2 => by
    rw [List.foldl_cons]
    refine maxC_lt l _ n ?_ (fun a ha => h2 a (List.mem_cons_of_mem _ ha))
    have := h2 b (List.mem_cons_self ..)
    omega
/-- What is known of a look of a valid template. -/
structure LookOk (t : Tmpl) (m : Nat) (l : OpT) : Prop where
  rel : 0 ≤ l.1 ∧ l.1 < (t.2.length : Int)
  len : l.2.length = (t.2.getD l.1.toNat (0, [])).1.toNat
  val : ∀ c, c ∈ l.2 → 0 ≤ c ∧ c < t.1 ^ m
theorem digs_lt {n m : Nat} {i : Nat} (hi : i < n ^ m) : ∀ a, a ∈ digs (n : Int) m (i : Int) → 0 ≤ a ∧ a < (n : Int) := by
  intro a ha
  rcases Nat.eq_zero_or_pos n with h | h
  · subst h
    cases m with
    | zero => cases ha
    | succ m => simp at hi
  · exact digs_mem n (by omega) m i a ha
theorem cellP_bd {size : Int} {m : Nat} {r : RelT} (hr : relOk size r = true) {i : Nat} (hi : i < r.2.length ^ m) {p : Nat} (hp : p < r.1.toNat) : 0 ≤ cellP size r (digs r.2.length m i) p ∧ cellP size r (digs r.2.length m i) p < size ^ m ∧ Val size ((digs r.2.length m i).map (fun i => (r.2.getD i.toNat []).getD p 0)) := by
  have hs := (relOk_get hr).1
  have hv : Val size ((digs r.2.length m i).map (fun i => (r.2.getD i.toNat []).getD p 0)) := by
    intro a ha
    rw [List.mem_map] at ha
    obtain ⟨k, hk, rfl⟩ := ha
    have h1 := digs_lt hi k hk
    have hm : r.2.getD k.toNat [] ∈ r.2 := by simp [List.getD, show k.toNat < r.2.length by omega]
    have h2 := relOk_val hr _ hm
    refine h2.2 _ ?_
    simp [List.getD, show p < (r.2.getD k.toNat []).length by omega]
    have h3 : p < (r.2[k.toNat]?.getD []).length := by have := h2.1; simp only [List.getD] at this; omega
    simp [h3]
  have h := codeL_bd hs.1 _ hv
  simp only [List.length_map, digs_length] at h
  exact ⟨h.1, h.2, hv⟩
theorem lookN_ok {t : Tmpl} (ht : tmplOk t = true) {m k : Nat} (hk : k < t.2.length) {i : Nat} (hi : i < (t.2.getD k (0, [])).2.length ^ m) : LookOk t m (lookN t.1 m k (t.2.getD k (0, [])) i) := by
  have hm : t.2.getD k (0, []) ∈ t.2 := by simp [List.getD, hk]
  have hr := (tmplOk_get ht).2.2 _ hm
  refine ⟨⟨by simp [lookN], by simp [lookN]; omega⟩, by simp [lookN, cellsL], fun c hc => ?_⟩
  simp only [lookN, cellsL, List.mem_map, List.mem_range] at hc
  obtain ⟨p, hp, rfl⟩ := hc
  exact ⟨(cellP_bd hr hi hp).1, (cellP_bd hr hi hp).2.1⟩
theorem looksTo_ok {t : Tmpl} (ht : tmplOk t = true) {m : Nat} : ∀ j, j ≤ t.2.length → ∀ l, l ∈ looksTo t m j → LookOk t m l
  | 0, _, l, h => by cases h
  | j + 1, hj, l, h => by
    rw [looksTo] at h
    rcases List.mem_append.1 h with h | h
    · exact looksTo_ok ht j (by omega) l h
    · unfold looksR at h
      rw [List.mem_map] at h
      obtain ⟨i, hi, rfl⟩ := h
      exact lookN_ok ht (by omega) (List.mem_range.1 hi)
theorem looksTo_len (t : Tmpl) (m : Nat) : ∀ j, (looksTo t m j).length = manyTo t m j
  | 0 => rfl
  | j + 1 => by simp [looksTo, manyTo, looksTo_len t m j, looksR]
theorem looksR_succ (size : Int) (m k : Nat) (r : RelT) (n : Nat) : (List.range (n + 1)).map (lookN size m k r) = (List.range n).map (lookN size m k r) ++ [lookN size m k r n] := by
  rw [List.range_succ, List.map_append, List.map_singleton]
theorem dueL_snoc (L : List OpT) (l : OpT) (p : Nat) : dueL (L ++ [l]) p = if maxC l.2 = (p : Int) then dueL L p ++ [l] else dueL L p := by
  unfold dueL
  rw [List.filter_append]
  by_cases h : maxC l.2 = (p : Int)
  · simp [h]
  · simp [h]
theorem dueL_mem {L : List OpT} {l : OpT} {p : Nat} (h : l ∈ dueL L p) : l ∈ L ∧ maxC l.2 = (p : Int) := by
  unfold dueL at h
  rw [List.mem_filter] at h
  exact ⟨h.1, of_decide_eq_true h.2⟩
theorem dueL_len (L : List OpT) (p : Nat) : (dueL L p).length ≤ L.length := List.length_filter_le _ _
theorem look_max {t : Tmpl} {m : Nat} {l : OpT} (ht : 1 ≤ t.1) (h : LookOk t m l) : 0 ≤ maxC l.2 ∧ maxC l.2 < t.1 ^ m := by
  refine ⟨maxC_ge l.2 0 0 (.inr rfl), maxC_lt l.2 0 _ ?_ (fun a ha => (h.val a ha).2)⟩
  have := pow_ge1 ht m
  omega
/-- The values at a look's places lie within the relation's set. -/
theorem inL_set {t : Tmpl} (ht : tmplOk t = true) {m : Nat} {l : OpT} (h : LookOk t m l) {tab : List Int} (hv : Val t.1 tab) (hm : ∀ c, c ∈ l.2 → c.toNat < tab.length) {PN : Nat} (hp : t.1 ^ (t.2.getD l.1.toNat (0, [])).1.toNat = (PN : Int)) :
    (setTo t.1 PN (t.2.getD l.1.toNat (0, [])).2 (t.2.getD l.1.toNat (0, [])).2.length).getD (codeL t.1 (l.2.map (fun c => tab.getD c.toNat 0))).toNat false = inL t tab l ∧ Val t.1 (l.2.map (fun c => tab.getD c.toNat 0)) ∧ 0 ≤ codeL t.1 (l.2.map (fun c => tab.getD c.toNat 0)) ∧ codeL t.1 (l.2.map (fun c => tab.getD c.toNat 0)) < (PN : Int) := by
  have hm2 : t.2.getD l.1.toNat (0, []) ∈ t.2 := by have := h.rel; simp [List.getD, show l.1.toNat < t.2.length by omega]
  have hr := (tmplOk_get ht).2.2 _ hm2
  have hs := (tmplOk_get ht).1
  have hV : Val t.1 (l.2.map (fun c => tab.getD c.toNat 0)) := by
    intro a ha
    rw [List.mem_map] at ha
    obtain ⟨c, hc, rfl⟩ := ha
    refine hv _ ?_
    simp [List.getD, hm c hc]
  have hb := codeL_bd hs.1 _ hV
  rw [List.length_map, h.len, hp] at hb
  refine ⟨?_, hV, hb.1, hb.2⟩
  unfold inL
  exact setTo_mem hs.1 hp.symm (relOk_val hr) (by rw [List.length_map, h.len]) hV
theorem maxC_mem {l : List Int} {a : Int} (h : a ∈ l) : a ≤ maxC l := maxC_ge l 0 a (.inl h)
/-- The search for the first polymorphism of a kind. -/
def firstR (kind : List Int → Bool) (t : Tmpl) (m : Nat) : PolyR := dfs kind (fitL t m) t.1.toNat (t.1 ^ m).toNat [] 0
/-- Its code and its operation. -/
def firstF (t : Tmpl) (m : Nat) (isK : OpT → Bool) : Int × OpT :=
  if tmplOk t = false then (1, (0, [])) else if 4000 < manyTo t m t.2.length then (3, (0, []))
  else match firstR (fun l => isK ((m : Int), l)) t m with
    | .hit l => (0, ((m : Int), l))
    | .out => (7, (0, []))
    | .dry _ => (6, (0, []))
theorem first_hit {t : Tmpl} {m : Nat} {kind : List Int → Bool} {l : List Int} (ht : tmplOk t = true) (hm : 1 ≤ m ∧ m ≤ 3) (h : firstR kind t m = .hit l) : opOk t.1 ((m : Int), l) = true ∧ kind l = true := by
  have hs := (tmplOk_get ht).1
  obtain ⟨h1, h2, h3⟩ := dfs_hit kind (fitL t m) t.1.toNat (t.1 ^ m).toNat [] 0 l (fun a ha => by cases ha) h
  refine ⟨?_, h3⟩
  have hp := pow_ge1 hs.1 m
  simp only [opOk, Bool.and_eq_true, Int.toNat_natCast]
  refine ⟨⟨inB_mk (by omega), inB_mk (by omega)⟩, ?_⟩
  simp only [valsOk, Bool.and_eq_true, decide_eq_true_eq, List.all_eq_true]
  refine ⟨by rw [h1]; simp; omega, fun a ha => inB_mk (by have := h2 a ha; omega)⟩
theorem first_ok {t : Tmpl} {m : Nat} {isK : OpT → Bool} (hm : 1 ≤ m ∧ m ≤ 3) (h : (firstF t m isK).1 = 0) : tmplOk t = true ∧ opOk t.1 (firstF t m isK).2 = true ∧ isK (firstF t m isK).2 = true ∧ (firstF t m isK).2.1 = (m : Int) := by
  unfold firstF at h ⊢
  cases ht : tmplOk t with
  | false => rw [ht] at h; simp at h
  | true =>
    rw [ht] at h
    simp only [Bool.true_eq_false, if_false] at h ⊢
    split at h
    · simp at h
    · rename_i hl
      rw [if_neg hl]
      cases hr : firstR (fun l => isK ((m : Int), l)) t m with
      | hit l => have := first_hit ht hm hr; exact ⟨trivial, this.1, this.2, rfl⟩
      | out => rw [hr] at h; simp at h
      | dry s => rw [hr] at h; simp at h

end Go.Proofs.YtllenfkbfeanmaaGreat

