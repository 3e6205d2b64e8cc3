/-
  PLAIN: the pairs that constraints tell; pairs that are taken away through a third variable.
-/
import Derived.Test.YtjkjfjpajmjglaaGreatPairA
import Derived.Test.YtjkjfjpajmjglaaGreatRelOf
import Derived.Test.YtjkjfjpajmjglaaGreatPairs
import Derived.Test.YtjkjfjpajmjglaaGreatReplayP
namespace Go.Proofs.YtjkjfjpajmjglaaGreat
open Go.RowKit Go.IntWalk
open Rep (Rd Own sz)
set_option linter.unusedSimpArgs false
set_option linter.unusedVariables false

/-- All constraints leave the pair. -/
def okPair (rs : List RelT) (cs : List OpT) (i j a b : Int) : Bool := cs.all (fun c => tellsB (rs.getD c.1.toNat (0, [])).2 c.2 i j a b)
def okY (rs : List RelT) (cs : List OpT) (i j : Int) (y : List Int) : Bool := okPair rs cs i j (y.getD 0 0) (y.getD 1 0)
def sqN (size : Int) : Nat := size.toNat * size.toNat
def fstRel (t : Tmpl) (x : Inst) (j i : Nat) : RelT := (2, selT (okY t.2 x.2 i j) t.1 2 (sqN t.1))
def fstRow (t : Tmpl) (x : Inst) (j i : Nat) : List RelT := (List.range i).map (fstRel t x j)
def fstP (t : Tmpl) (x : Inst) : Nat → List RelT
  | 0 => []
  | j + 1 => fstP t x j ++ fstRow t x j j
def tri : Nat → Nat
  | 0 => 0
  | j + 1 => tri j + j
theorem fstRow_succ (t : Tmpl) (x : Inst) (j i : Nat) : fstRow t x j (i + 1) = fstRow t x j i ++ [fstRel t x j i] := by
  unfold fstRow
  rw [List.range_succ, List.map_append]
  rfl
@[simp] theorem fstRow_len (t : Tmpl) (x : Inst) (j i : Nat) : (fstRow t x j i).length = i := by simp [fstRow]
@[simp] theorem fstP_len (t : Tmpl) (x : Inst) : ∀ j, (fstP t x j).length = tri j
  | 0 => rfl
  | j + 1 => by simp [fstP, tri, fstP_len t x j]
theorem tri_le {i j : Nat} (h : i ≤ j) : tri i ≤ tri j := by
  induction j with
  | zero =>
    obtain rfl : i = 0 := by omega
    exact Nat.le_refl _
  | succ j ih =>
    rcases Nat.lt_or_ge i (j + 1) with h1 | h1
    · have := ih (by omega)
      simp only [tri]
      omega
    · obtain rfl : i = j + 1 := by omega
      exact Nat.le_refl _
theorem tri_lt {i j V : Nat} (h : i < j) (hj : j < V) : tri j + i < tri V := by
  have := tri_le (show j + 1 ≤ V from hj)
  simp only [tri] at this
  omega
theorem tri_ten {V : Nat} (h : V ≤ 10) : tri V ≤ 45 := by
  have := tri_le h
  have h2 : tri 10 = 45 := by decide
  omega
theorem tri_nat : ∀ j : Nat, j * (j - 1) = 2 * tri j
  | 0 => rfl
  | 1 => rfl
  | j + 2 => by
    have := tri_nat (j + 1)
    simp only [tri, Nat.add_sub_cancel] at this ⊢
    have e : (j + 2) * (j + 2 - 1) = (j + 1) * j + 2 * (j + 1) := by
      rw [show j + 2 - 1 = j + 1 by omega, Nat.mul_comm (j + 1) j, ← Nat.add_mul, Nat.mul_comm]
    omega
theorem tri_half (j : Nat) : j * (j - 1) / 2 = tri j := by rw [tri_nat]; omega
theorem pidx_tri (i j : Nat) : pidx i j = tri j + i := by unfold pidx; rw [tri_half]
theorem pidx_lt2 {i j V : Nat} (h : i < j) (hj : j < V) : pidx i j < tri V := by rw [pidx_tri]; exact tri_lt h hj
theorem sqN_le {size : Int} (h : 1 ≤ size ∧ size ≤ 4) : 1 ≤ sqN size ∧ sqN size ≤ 16 ∧ size ^ 2 = (sqN size : Int) ∧ size * size = (sqN size : Int) := by
  obtain rfl | rfl | rfl | rfl : size = 1 ∨ size = 2 ∨ size = 3 ∨ size = 4 := by omega
  all_goals decide

theorem sqN_int {size : Int} (h : 0 ≤ size) : (sqN size : Int) = size * size := by
  unfold sqN
  rw [Int.natCast_mul, Int.toNat_of_nonneg h]
theorem digs_two {size : Int} (hs : 1 ≤ size) {n : Nat} (h : n < sqN size) : digs size 2 (n : Int) = [(n : Int) / size, (n : Int) % size] := by
  have e := sqN_int (show 0 ≤ size by omega)
  have h2 : (n : Int) / size < size := Int.ediv_lt_of_lt_mul (by omega) (by omega)
  have h3 : 0 ≤ (n : Int) / size := Int.ediv_nonneg (by omega) (by omega)
  simp only [digs, List.nil_append, List.cons_append, List.singleton_append]
  rw [Int.emod_eq_of_lt h3 h2]
def throughB (size : Int) (P : List RelT) (i j k : Nat) (y : List Int) : Bool := (List.range size.toNat).any (fun (c : Nat) => leftP P i k (y.getD 0 0) (c : Int) && leftP P k j (c : Int) (y.getD 1 0))
def ownT (P : List RelT) (i j : Nat) : List (List Int) := (P.getD (pidx i j) (0, [])).2
def cutT (size : Int) (P : List RelT) (i j k : Nat) : List (List Int) := (ownT P i j).filter (throughB size P i j k)
def goneB (size : Int) (P : List RelT) (i j k : Nat) : Bool := decide ((cutT size P i j k).length < (ownT P i j).length)
def narrowP (size : Int) (P : List RelT) (i j k : Nat) : List RelT := P.set (pidx i j) (2, cutT size P i j k)

/-- The relations of all pairs of V variables, each a choice of the pairs of values. -/
structure PairOk (size : Int) (V : Nat) (P : List RelT) : Prop where
  len : P.length = tri V
  sel : ∀ r, r ∈ P → ∃ q, r = (2, selT q size 2 (sqN size))
theorem getD_mem {α : Type} {l : List α} {n : Nat} (d : α) (h : n < l.length) : l.getD n d ∈ l := by
  rw [List.getD, List.getElem?_eq_getElem h]
  exact List.getElem_mem h
theorem PairOk.own {size : Int} {V i j : Nat} {P : List RelT} (h : PairOk size V P) (hij : i < j) (hj : j < V) : ∃ q, P.getD (pidx i j) (0, []) = (2, selT q size 2 (sqN size)) :=
  h.sel _ (getD_mem _ (by rw [h.len]; exact pidx_lt2 hij hj))
theorem selT_has (q : List Int → Bool) (size : Int) (m k : Nat) (thr : List Int → Bool) : selT (fun y => hasT (selT q size m k) y && thr y) size m k = (selT q size m k).filter thr := by
  conv => rhs; unfold selT
  unfold selT
  rw [List.filter_filter]
  refine List.filter_congr (fun y hy => ?_)
  have : hasT (((List.range k).map (fun (i : Nat) => digs size m (i : Int))).filter q) y = q y := by
    unfold hasT
    rw [Bool.eq_iff_iff, List.contains_iff_mem, List.mem_filter]
    exact ⟨fun h => h.2, fun h => ⟨hy, h⟩⟩
  rw [this, Bool.and_comm]
theorem selT_filter (q : List Int → Bool) (size : Int) (m k : Nat) (thr : List Int → Bool) : (selT q size m k).filter thr = selT (fun y => thr y && q y) size m k := by
  unfold selT
  rw [List.filter_filter]
theorem digs_code {size : Int} (hs : 1 ≤ size) : ∀ (m : Nat) (n : Int), codeL size (digs size m n) = n % size ^ m
  | 0, n => by simp [digs, codeL]
  | m + 1, n => by
    rw [digs, codeL_snoc, digs_code hs m, Int.pow_succ, Int.mul_comm (size ^ m) size]
    have h1 := Int.emod_add_mul_ediv n (size * size ^ m)
    have h2 := Int.emod_add_mul_ediv n size
    have h3 := Int.emod_add_mul_ediv (n / size) (size ^ m)
    have h4 : n / (size * size ^ m) = n / size / size ^ m := (Int.ediv_ediv_of_nonneg (by omega)).symm
    have e1 : size * (n / size) = size * (n / size % size ^ m) + size * size ^ m * (n / size / size ^ m) := by
      conv => lhs; rw [← h3]
      rw [Int.mul_add, Int.mul_assoc]
    have e2 : n / size % size ^ m * size = size * (n / size % size ^ m) := Int.mul_comm _ _
    rw [h4] at h1
    omega
theorem selT_inc (q : List Int → Bool) {size : Int} (hs : 1 ≤ size) {m k : Nat} (hk : (k : Int) ≤ size ^ m) : Inc (selT q size m k) := by
  have hp : List.Pairwise (fun a b => cmpL a b < 0) ((List.range k).map (fun (i : Nat) => digs size m (i : Int))) := by
    rw [List.pairwise_map]
    rw [List.pairwise_iff_getElem]
    intro a b ha hb hab
    simp only [List.length_range] at ha hb
    simp only [List.getElem_range]
    have hv : ∀ n : Int, Val size (digs size m n) := fun n a ha => by have := digs_mem size (by omega) m n a ha; omega
    have hc : ∀ n : Nat, n < k → codeL size (digs size m (n : Int)) = n := fun n hn => by rw [digs_code hs]; exact Int.emod_eq_of_lt (by omega) (by omega)
    rcases cmp_tri (digs size m (a : Int)) (digs size m (b : Int)) (by simp) with h | h | h
    · have h1 := hc a ha
      rw [h, hc b hb] at h1
      omega
    · exact h
    · have := code_lt hs _ _ (by simp) (hv _) (hv _) h
      rw [hc a ha, hc b hb] at this
      omega
  have hf : List.Pairwise (fun a b => cmpL a b < 0) (selT q size m k) := hp.filter q
  intro a b hab hb
  rw [List.pairwise_iff_getElem] at hf
  have := hf a b (by omega) hb hab
  rw [List.getD, List.getElem?_eq_getElem (show a < _ by omega), List.getD, List.getElem?_eq_getElem hb]
  exact this
theorem selT_mem2 {q : List Int → Bool} {size : Int} (hs : 1 ≤ size) {m k : Nat} {y : List Int} (h : y ∈ selT q size m k) : y.length = m ∧ ∀ a, a ∈ y → 0 ≤ a ∧ a < size := by
  unfold selT at h
  obtain ⟨n, _, rfl⟩ := List.mem_map.1 (List.mem_filter.1 h).1
  exact ⟨by simp, digs_mem size (by omega) m _⟩
theorem selT_rel {q : List Int → Bool} {size : Int} (hs : 1 ≤ size ∧ size ≤ 4) : relOk size (2, selT q size 2 (sqN size)) = true := by
  have hi := selT_inc q hs.1 (m := 2) (k := sqN size) (by rw [(sqN_le hs).2.2.1]; omega)
  have h1 : inB size 1 4 = true := inB_mk hs
  have h2 : inB 2 1 4 = true := by decide
  unfold relOk
  simp only [h1, h2, Bool.true_and]
  refine tupsOk_of (fun j hj => ?_)
  have hm := selT_mem2 hs.1 (getD_mem [] hj)
  unfold tupAt valsOk
  simp only [Bool.and_eq_true, Bool.or_eq_true, decide_eq_true_eq, List.all_eq_true]
  refine ⟨⟨by rw [hm.1]; rfl, fun a ha => ?_⟩, ?_⟩
  · have := hm.2 a ha
    exact inB_mk (by omega)
  · by_cases h0 : j = 0
    · exact .inl h0
    · exact .inr (hi (j - 1) j (by omega) hj)
theorem PairOk.pairs {size : Int} {V : Nat} {P : List RelT} (h : PairOk size V P) (hs : 1 ≤ size ∧ size ≤ 4) (hV : V ≤ 10) : PairsOk size V P :=
  ⟨hV, by rw [h.len, tri_half], fun r hr => by
    obtain ⟨q, rfl⟩ := h.sel r hr
    exact ⟨selT_rel hs, rfl⟩⟩
theorem ownT_sel {size : Int} {V i j : Nat} {P : List RelT} (h : PairOk size V P) (hij : i < j) (hj : j < V) : ∃ q, ownT P i j = selT q size 2 (sqN size) := by
  obtain ⟨q, hq⟩ := h.own hij hj
  exact ⟨q, by unfold ownT; rw [hq]⟩
theorem cutT_sel {size : Int} {V i j k : Nat} {P : List RelT} (h : PairOk size V P) (hij : i < j) (hj : j < V) : selT (fun y => hasT (ownT P i j) y && throughB size P i j k y) size 2 (sqN size) = cutT size P i j k := by
  obtain ⟨q, hq⟩ := ownT_sel h hij hj
  unfold cutT
  rw [hq, selT_has]
theorem narrow_ok {size : Int} {V i j k : Nat} {P : List RelT} (h : PairOk size V P) (hij : i < j) (hj : j < V) : PairOk size V (narrowP size P i j k) := by
  obtain ⟨q, hq⟩ := ownT_sel h hij hj
  refine ⟨by simp [narrowP, h.len], fun r hr => ?_⟩
  rcases List.mem_or_eq_of_mem_set hr with h1 | rfl
  · exact h.sel r h1
  · exact ⟨_, by unfold cutT; rw [hq, selT_filter]⟩
theorem filter_all_of_len {α : Type} {l : List α} {f : α → Bool} (h : ¬ (l.filter f).length < l.length) : l.filter f = l := by
  refine List.filter_eq_self.2 ?_
  have h1 := List.length_filter_le f l
  have h2 : (l.filter f).length = l.length := by omega
  exact List.length_filter_eq_length_iff.1 h2
theorem narrow_same {size : Int} {V i j k : Nat} {P : List RelT} (h : PairOk size V P) (hij : i < j) (hj : j < V) (hg : goneB size P i j k = false) : narrowP size P i j k = P := by
  obtain ⟨q, hq⟩ := h.own hij hj
  have hc : cutT size P i j k = ownT P i j := filter_all_of_len (of_decide_eq_false hg)
  unfold narrowP
  rw [hc]
  unfold ownT
  have hl : pidx i j < P.length := by rw [h.len]; exact pidx_lt2 hij hj
  rw [hq]
  rw [List.getD, List.getElem?_eq_getElem hl] at hq
  simp only [Option.getD_some] at hq
  rw [← hq]
  exact List.set_getElem_self hl
theorem fst_ok {t : Tmpl} {x : Inst} : ∀ V, PairOk t.1 V (fstP t x V) := fun V => ⟨by simp, fun r hr => by
  induction V with
  | zero => cases hr
  | succ j ih =>
    rcases List.mem_append.1 hr with h | h
    · exact ih h
    · obtain ⟨i, _, rfl⟩ := List.mem_map.1 h
      exact ⟨_, rfl⟩⟩
def lensP (P : List RelT) : Nat := (P.map (fun r => r.2.length)).sum
theorem lensP_set (r : RelT) : ∀ (P : List RelT) (i : Nat) (h : i < P.length), lensP (P.set i r) + P[i].2.length = lensP P + r.2.length
  | [], i, h => by cases h
  | y :: l, 0, h => by simp [lensP]; omega
  | y :: l, i + 1, h => by
    have := lensP_set r l i (by simpa using h)
    unfold lensP at this
    simp only [lensP, List.set_cons_succ, List.map_cons, List.sum_cons, List.getElem_cons_succ]
    omega
theorem lensP_le {n : Nat} : ∀ (P : List RelT), (∀ r, r ∈ P → r.2.length ≤ n) → lensP P ≤ n * P.length
  | [], _ => by simp [lensP]
  | r :: P, h => by
    have h1 := h r (by simp)
    have h2 := lensP_le P (fun e he => h e (by simp [he]))
    unfold lensP at h2 ⊢
    simp only [List.map_cons, List.sum_cons, List.length_cons, Nat.mul_add, Nat.mul_one]
    omega
theorem PairOk.lens {size : Int} {V : Nat} {P : List RelT} (h : PairOk size V P) : lensP P ≤ sqN size * tri V := by
  rw [← h.len]
  refine lensP_le P (fun r hr => ?_)
  obtain ⟨q, rfl⟩ := h.sel r hr
  exact selT_len _ _ _ _
theorem lensP_narrow {size : Int} {V i j k : Nat} {P : List RelT} (h : PairOk size V P) (hij : i < j) (hj : j < V) (hg : goneB size P i j k = true) : lensP (narrowP size P i j k) + 1 ≤ lensP P := by
  have hl : pidx i j < P.length := by rw [h.len]; exact pidx_lt2 hij hj
  have h1 := lensP_set (2, cutT size P i j k) P (pidx i j) hl
  have h2 : (cutT size P i j k).length < (ownT P i j).length := of_decide_eq_true hg
  have h3 : (ownT P i j).length = P[pidx i j].2.length := by
    unfold ownT
    rw [List.getD, List.getElem?_eq_getElem hl]
    rfl
  unfold narrowP
  simp only at h1
  omega

abbrev PairS := List RelT × List (Int × Int × Int)
/-- Variables i, j through k. -/
def throughS (size : Int) (j i : Nat) (s : PairS) (k : Nat) : PairS :=
  if k ≠ i ∧ k ≠ j ∧ goneB size s.1 i j k = true then (narrowP size s.1 i j k, s.2 ++ [((i : Int), (j : Int), (k : Int))]) else s
def overI (size : Int) (V j : Nat) (s : PairS) (i : Nat) : PairS := (List.range V).foldl (throughS size j i) s
def overJ (size : Int) (V : Nat) (s : PairS) (j : Nat) : PairS := (List.range j).foldl (overI size V j) s
def roundP (size : Int) (V : Nat) (s : PairS) : PairS := (List.range V).foldl (overJ size V) s
def pairsA (size : Int) (V : Nat) : Nat → PairS → PairS
  | 0, s => s
  | n + 1, s => if (roundP size V s).2.length = s.2.length then roundP size V s else pairsA size V n (roundP size V s)
structure PotP (size : Int) (V C : Nat) (s : PairS) : Prop where
  ok : PairOk size V s.1
  pot : s.2.length + lensP s.1 ≤ C
  val : ∀ e, e ∈ s.2 → (0 ≤ e.1 ∧ e.1 < V) ∧ (0 ≤ e.2.1 ∧ e.2.1 < V) ∧ 0 ≤ e.2.2 ∧ e.2.2 < V
theorem throughS_ok {size : Int} {V C i j k : Nat} {s : PairS} (h : PotP size V C s) (hij : i < j) (hj : j < V) (hk : k < V) : PotP size V C (throughS size j i s k) := by
  unfold throughS
  split
  · rename_i hc
    have h1 := lensP_narrow (k := k) h.ok hij hj hc.2.2
    have h2 := h.pot
    refine ⟨narrow_ok h.ok hij hj, by simp only [List.length_append, List.length_cons, List.length_nil]; omega, fun e he => ?_⟩
    rcases List.mem_append.1 he with he | he
    · exact h.val e he
    · rw [List.mem_singleton] at he
      subst he
      simp only
      omega
  · exact h
theorem throughS_more (size : Int) (j i : Nat) (s : PairS) (k : Nat) : s.2.length ≤ (throughS size j i s k).2.length := by
  unfold throughS
  split
  · simp
  · exact Nat.le_refl _
theorem foldP_inv {Q : PairS → Prop} {f : PairS → Nat → PairS} {n : Nat} (hf : ∀ s k, k < n → Q s → Q (f s k)) {s : PairS} (h : Q s) : Q ((List.range n).foldl f s) := by
  induction n with
  | zero => exact h
  | succ n ih =>
    rw [foldl_range_succ]
    exact hf _ n (by omega) (ih (fun s k hk => hf s k (by omega)))
theorem foldP_more {f : PairS → Nat → PairS} (hf : ∀ s k, s.2.length ≤ (f s k).2.length) (n : Nat) (s : PairS) : s.2.length ≤ ((List.range n).foldl f s).2.length := by
  induction n with
  | zero => exact Nat.le_refl _
  | succ n ih =>
    rw [foldl_range_succ]
    exact Nat.le_trans ih (hf _ n)
theorem overI_ok {size : Int} {V C i j : Nat} {s : PairS} (h : PotP size V C s) (hij : i < j) (hj : j < V) : PotP size V C (overI size V j s i) := foldP_inv (fun s k hk h => throughS_ok h hij hj hk) h
theorem overJ_ok {size : Int} {V C j : Nat} {s : PairS} (h : PotP size V C s) (hj : j < V) : PotP size V C (overJ size V s j) := foldP_inv (fun s i hi h => overI_ok h hi hj) h
theorem roundP_ok {size : Int} {V C : Nat} {s : PairS} (h : PotP size V C s) : PotP size V C (roundP size V s) := foldP_inv (fun s j hj h => overJ_ok h hj) h
theorem overI_more (size : Int) (V j : Nat) (s : PairS) (i : Nat) : s.2.length ≤ (overI size V j s i).2.length := foldP_more (throughS_more size j i) V s
theorem overJ_more (size : Int) (V : Nat) (s : PairS) (j : Nat) : s.2.length ≤ (overJ size V s j).2.length := foldP_more (overI_more size V j) j s
theorem roundP_more (size : Int) (V : Nat) (s : PairS) : s.2.length ≤ (roundP size V s).2.length := foldP_more (overJ_more size V) V s
theorem pairsA_ok {size : Int} {V C : Nat} : ∀ (n : Nat) {s : PairS}, PotP size V C s → PotP size V C (pairsA size V n s)
  | 0, _, h => h
  | n + 1, s, h => by
    rw [pairsA]
    split
    · exact roundP_ok h
    · exact pairsA_ok n (roundP_ok h)
/-- All as MakePairs answers. -/
def capP (size : Int) (V : Nat) : Nat := sqN size * tri V
def pairsF (t : Tmpl) (x : Inst) : PairS := pairsA t.1 x.1.toNat (capP t.1 x.1.toNat + 1) (fstP t x x.1.toNat, [])
def makePairsF (t : Tmpl) (x : Inst) : PairS × Int := if instOk t x then (pairsF t x, 0) else (([], []), 1)
theorem cap_le {t : Tmpl} {x : Inst} (h : instOk t x = true) : capP t.1 x.1.toNat ≤ 720 := by
  have h1 := (instOk_get h).2.1
  have h2 := (sqN_le (tmplOk_get (instOk_get h).1).1).2.1
  have h3 := tri_ten (show x.1.toNat ≤ 10 by omega)
  unfold capP
  exact Nat.mul_le_mul h2 h3
theorem fst_pot (t : Tmpl) (x : Inst) (V : Nat) : PotP t.1 V (capP t.1 V) (fstP t x V, []) :=
  ⟨fst_ok V, by have := (fst_ok (t := t) (x := x) V).lens; unfold capP; simp only [List.length_nil]; omega, fun e he => by cases he⟩
theorem pairsF_ok (t : Tmpl) (x : Inst) : PotP t.1 x.1.toNat (capP t.1 x.1.toNat) (pairsF t x) := pairsA_ok _ (fst_pot t x _)

/-- A step tells three variables as it should. -/
def pairStepB (V : Int) (s : Int × Int × Int) : Bool := inB s.1 0 (IntKind.i64.wrap (s.2.1 - 1)) && inB s.2.1 0 (V - 1) && inB s.2.2 0 (V - 1) && decide (s.2.2 ≠ s.1) && decide (s.2.2 ≠ s.2.1)
def pairOkB (size V : Int) (P : List RelT) (s : Int × Int × Int) : Bool := pairStepB V s && goneB size P s.1.toNat s.2.1.toNat s.2.2.toNat
def replayP (size V : Int) : List (Int × Int × Int) → Nat → List RelT → List RelT × Int × Int
  | [], _, P => (P, 0, 0)
  | s :: l, i, P => if pairOkB size V P s then replayP size V l (i + 1) (narrowP size P s.1.toNat s.2.1.toNat s.2.2.toNat) else ([], (i : Int), 8)
def replayPF (t : Tmpl) (x : Inst) (steps : List (Int × Int × Int)) : List RelT × Int × Int := if instOk t x then replayP t.1 x.1 steps 0 (fstP t x x.1.toNat) else ([], 0, 1)
theorem replayP_drop {size V : Int} {steps : List (Int × Int × Int)} {k : Nat} (hk : k < steps.length) (i : Nat) (P : List RelT) :
    replayP size V (steps.drop k) i P = if pairOkB size V P steps[k] then replayP size V (steps.drop (k + 1)) (i + 1) (narrowP size P steps[k].1.toNat steps[k].2.1.toNat steps[k].2.2.toNat) else ([], (i : Int), 8) := by
  rw [List.drop_eq_getElem_cons hk, replayP]
theorem pairStep_get {V : Int} {a b c : Int} (h : pairStepB V (a, b, c) = true) (hV : 0 ≤ V ∧ V ≤ 10) : 0 ≤ a ∧ a < b ∧ b < V ∧ 0 ≤ c ∧ c < V ∧ c ≠ a ∧ c ≠ b := by
  simp only [pairStepB, Bool.and_eq_true, decide_eq_true_eq] at h
  obtain ⟨⟨⟨⟨h1, h2⟩, h3⟩, h4⟩, h5⟩ := h
  have h2 := inB_true h2
  have h3 := inB_true h3
  rw [show IntKind.i64.wrap (b - 1) = b - 1 from i64_in _ (by omega)] at h1
  have h1 := inB_true h1
  omega
theorem replayP_len (size V : Int) (hV : 0 ≤ V ∧ V ≤ 10) : ∀ (l : List (Int × Int × Int)) (i : Nat) (P : List RelT), PairOk size V.toNat P → (replayP size V l i P).1.length ≤ 45 ∧ lensP (replayP size V l i P).1 ≤ sqN size * 45
  | [], _, P, h => by
    have h1 := tri_ten (show V.toNat ≤ 10 by omega)
    have h2 := h.lens
    rw [replayP]
    exact ⟨by rw [h.len]; exact h1, Nat.le_trans h2 (Nat.mul_le_mul_left _ h1)⟩
  | (a, b, c) :: l, i, P, h => by
    rw [replayP]
    split
    · rename_i hc
      simp only [pairOkB, Bool.and_eq_true] at hc
      have h1 := pairStep_get hc.1 hV
      exact replayP_len size V hV l (i + 1) _ (narrow_ok h (by simp only; omega) (by simp only; omega))
    · simp [lensP]

end Go.Proofs.YtjkjfjpajmjglaaGreat
