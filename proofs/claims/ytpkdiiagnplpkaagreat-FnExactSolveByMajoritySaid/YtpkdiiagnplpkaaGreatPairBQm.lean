import Derived.Test.YtpkdiiagnplpkaaGreatPairAQm
import Derived.Test.YtpkdiiagnplpkaaGreatRelOfQm
import Derived.Test.YtpkdiiagnplpkaaGreatPairsQm
import Derived.Test.YtpkdiiagnplpkaaGreatArcFBQm
set_option linter.unusedSimpArgs false
set_option linter.unusedVariables false
namespace Go.Proofs.YtpkdiiagnplpkaaGreat
open Go.RowKit Go.IntWalk
open Rep (Rd Own sz)
def okPair (rs : List RelT) (cs : List OpT) (i j a b : Int) : Bool := cs.all (fun c => tellsB (rs.getD c.1.toNat (0, [])).2 c.2 i j a b)
def okY (rs : List RelT) (cs : List OpT) (i j : Int) (y : List Int) : Bool := okPair rs cs i j (y.getD 0 0) (y.getD 1 0)
def sqN (size : Int) : Nat := size.toNat * size.toNat
def fstRel (t : Tmpl) (x : Inst) (j i : Nat) : RelT := (2, selT (okY t.2 x.2 i j) t.1 2 (sqN t.1))
def fstRow (t : Tmpl) (x : Inst) (j i : Nat) : List RelT := (List.range i).map (fstRel t x j)
def fstP (t : Tmpl) (x : Inst) : Nat → List RelT
 | 0 => []
 | j + 1 => fstP t x j ++ fstRow t x j j
def tri : Nat → Nat
 | 0 => 0
 | j + 1 => tri j + j
theorem fstRow_succ (t : Tmpl) (x : Inst) (j i : Nat) : fstRow t x j (i + 1) = fstRow t x j i ++ [fstRel t x j i] := by
 unfold fstRow
 rw [List.range_succ, List.map_append]
 rfl
@[simp] theorem fstRow_len (t : Tmpl) (x : Inst) (j i : Nat) : (fstRow t x j i).length = i := by simp [fstRow]
@[simp] theorem fstP_len (t : Tmpl) (x : Inst) : ∀ j, (fstP t x j).length = tri j
 | 0 => rfl
 | j + 1 => by simp [fstP, tri, fstP_len t x j]
theorem tri_le {i j : Nat} (h : i ≤ j) : tri i ≤ tri j := by
 induction j with
 | zero =>
  obtain rfl : i = 0 := by omega
  exact Nat.le_refl _
 | succ j ih =>
  rcases Nat.lt_or_ge i (j + 1) with h1 | h1
  · have := ih (by omega)
    simp only [tri]
    omega
  · obtain rfl : i = j + 1 := by omega
    exact Nat.le_refl _
theorem tri_lt {i j V : Nat} (h : i < j) (hj : j < V) : tri j + i < tri V := by
 have := tri_le (show j + 1 ≤ V from hj)
 simp only [tri] at this
 omega
theorem tri_ten {V : Nat} (h : V ≤ 10) : tri V ≤ 45 := by
 have := tri_le h
 have h2 : tri 10 = 45 := by decide
 omega
theorem tri_nat : ∀ j : Nat, j * (j - 1) = 2 * tri j
 | 0 => rfl
 | 1 => rfl
 | j + 2 => by
  have := tri_nat (j + 1)
  simp only [tri, Nat.add_sub_cancel] at this ⊢
  have e : (j + 2) * (j + 2 - 1) = (j + 1) * j + 2 * (j + 1) := by
   rw [show j + 2 - 1 = j + 1 by omega, Nat.mul_comm (j + 1) j, ← Nat.add_mul, Nat.mul_comm]
  omega
theorem tri_half (j : Nat) : j * (j - 1) / 2 = tri j := by rw [tri_nat]; omega
theorem pidx_tri (i j : Nat) : pidx i j = tri j + i := by unfold pidx; rw [tri_half]
theorem pidx_lt2 {i j V : Nat} (h : i < j) (hj : j < V) : pidx i j < tri V := by rw [pidx_tri]; exact tri_lt h hj
theorem sqN_le {size : Int} (h : 1 ≤ size ∧ size ≤ 4) : 1 ≤ sqN size ∧ sqN size ≤ 16 ∧ size ^ 2 = (sqN size : Int) ∧ size * size = (sqN size : Int) := by
 obtain rfl | rfl | rfl | rfl : size = 1 ∨ size = 2 ∨ size = 3 ∨ size = 4 := by omega
 all_goals decide
theorem sqN_int {size : Int} (h : 0 ≤ size) : (sqN size : Int) = size * size := by
 unfold sqN
 rw [Int.natCast_mul, Int.toNat_of_nonneg h]
theorem digs_two {size : Int} (hs : 1 ≤ size) {n : Nat} (h : n < sqN size) : digs size 2 (n : Int) = [(n : Int) / size, (n : Int) % size] := by
 have e := sqN_int (show 0 ≤ size by omega)
 have h2 : (n : Int) / size < size := Int.ediv_lt_of_lt_mul (by omega) (by omega)
 have h3 : 0 ≤ (n : Int) / size := Int.ediv_nonneg (by omega) (by omega)
 simp only [digs, List.nil_append, List.cons_append, List.singleton_append]
 rw [Int.emod_eq_of_lt h3 h2]
def throughB (size : Int) (P : List RelT) (i j k : Nat) (y : List Int) : Bool := (List.range size.toNat).any (fun (c : Nat) => leftP P i k (y.getD 0 0) (c : Int) && leftP P k j (c : Int) (y.getD 1 0))
def ownT (P : List RelT) (i j : Nat) : List (List Int) := (P.getD (pidx i j) (0, [])).2
def cutT (size : Int) (P : List RelT) (i j k : Nat) : List (List Int) := (ownT P i j).filter (throughB size P i j k)
def goneB (size : Int) (P : List RelT) (i j k : Nat) : Bool := decide ((cutT size P i j k).length < (ownT P i j).length)
def narrowP (size : Int) (P : List RelT) (i j k : Nat) : List RelT := P.set (pidx i j) (2, cutT size P i j k)
structure PairOk (size : Int) (V : Nat) (P : List RelT) : Prop where
 len : P.length = tri V
 sel : ∀ r, r ∈ P → ∃ q, r = (2, selT q size 2 (sqN size))
theorem getD_mem {α : Type} {l : List α} {n : Nat} (d : α) (h : n < l.length) : l.getD n d ∈ l := by
 rw [List.getD, List.getElem?_eq_getElem h]
 exact List.getElem_mem h
theorem PairOk.own {size : Int} {V i j : Nat} {P : List RelT} (h : PairOk size V P) (hij : i < j) (hj : j < V) : ∃ q, P.getD (pidx i j) (0, []) = (2, selT q size 2 (sqN size)) :=
 h.sel _ (getD_mem _ (by rw [h.len]; exact pidx_lt2 hij hj))
theorem selT_has (q : List Int → Bool) (size : Int) (m k : Nat) (thr : List Int → Bool) : selT (fun y => hasT (selT q size m k) y && thr y) size m k = (selT q size m k).filter thr := by
 conv => rhs; unfold selT
 unfold selT
 rw [List.filter_filter]
 refine List.filter_congr (fun y hy => ?_)
 have : hasT (((List.range k).map (fun (i : Nat) => digs size m (i : Int))).filter q) y = q y := by
  unfold hasT
  rw [Bool.eq_iff_iff, List.contains_iff_mem, List.mem_filter]
  exact ⟨fun h => h.2, fun h => ⟨hy, h⟩⟩
 rw [this, Bool.and_comm]
theorem selT_filter (q : List Int → Bool) (size : Int) (m k : Nat) (thr : List Int → Bool) : (selT q size m k).filter thr = selT (fun y => thr y && q y) size m k := by
 unfold selT
 rw [List.filter_filter]
theorem digs_code {size : Int} (hs : 1 ≤ size) : ∀ (m : Nat) (n : Int), codeL size (digs size m n) = n % size ^ m
 | 0, n => by simp [digs, codeL]
 | m + 1, n => by
  rw [digs, codeL_snoc, digs_code hs m, Int.pow_succ, Int.mul_comm (size ^ m) size]
  have h1 := Int.emod_add_mul_ediv n (size * size ^ m)
  have h2 := Int.emod_add_mul_ediv n size
  have h3 := Int.emod_add_mul_ediv (n / size) (size ^ m)
  have h4 : n / (size * size ^ m) = n / size / size ^ m := (Int.ediv_ediv_of_nonneg (by omega)).symm
  have e1 : size * (n / size) = size * (n / size % size ^ m) + size * size ^ m * (n / size / size ^ m) := by
   conv => lhs; rw [← h3]
   rw [Int.mul_add, Int.mul_assoc]
  have e2 : n / size % size ^ m * size = size * (n / size % size ^ m) := Int.mul_comm _ _
  rw [h4] at h1
  omega
theorem selT_inc (q : List Int → Bool) {size : Int} (hs : 1 ≤ size) {m k : Nat} (hk : (k : Int) ≤ size ^ m) : Inc (selT q size m k) := by
 have hp : List.Pairwise (fun a b => cmpL a b < 0) ((List.range k).map (fun (i : Nat) => digs size m (i : Int))) := by
  rw [List.pairwise_map]
  rw [List.pairwise_iff_getElem]
  intro a b ha hb hab
  simp only [List.length_range] at ha hb
  simp only [List.getElem_range]
  have hv : ∀ n : Int, Val size (digs size m n) := fun n a ha => by have := digs_mem size (by omega) m n a ha; omega
  have hc : ∀ n : Nat, n < k → codeL size (digs size m (n : Int)) = n := fun n hn => by rw [digs_code hs]; exact Int.emod_eq_of_lt (by omega) (by omega)
  rcases cmp_tri (digs size m (a : Int)) (digs size m (b : Int)) (by simp) with h | h | h
  · have h1 := hc a ha
    rw [h, hc b hb] at h1
    omega
  · exact h
  · have := code_lt hs _ _ (by simp) (hv _) (hv _) h
    rw [hc a ha, hc b hb] at this
    omega
 have hf : List.Pairwise (fun a b => cmpL a b < 0) (selT q size m k) := hp.filter q
 intro a b hab hb
 rw [List.pairwise_iff_getElem] at hf
 have := hf a b (by omega) hb hab
 rw [List.getD, List.getElem?_eq_getElem (show a < _ by omega), List.getD, List.getElem?_eq_getElem hb]
 exact this
theorem selT_mem2 {q : List Int → Bool} {size : Int} (hs : 1 ≤ size) {m k : Nat} {y : List Int} (h : y ∈ selT q size m k) : y.length = m ∧ ∀ a, a ∈ y → 0 ≤ a ∧ a < size := by
 unfold selT at h
 obtain ⟨n, _, rfl⟩ := List.mem_map.1 (List.mem_filter.1 h).1
 exact ⟨by simp, digs_mem size (by omega) m _⟩
theorem selT_rel {q : List Int → Bool} {size : Int} (hs : 1 ≤ size ∧ size ≤ 4) : relOk size (2, selT q size 2 (sqN size)) = true := by
 have hi := selT_inc q hs.1 (m := 2) (k := sqN size) (by rw [(sqN_le hs).2.2.1]; omega)
 have h1 : inB size 1 4 = true := inB_mk hs
 have h2 : inB 2 1 4 = true := by decide
 unfold relOk
 simp only [h1, h2, Bool.true_and]
 refine tupsOk_of (fun j hj => ?_)
 have hm := selT_mem2 hs.1 (getD_mem [] hj)
 unfold tupAt valsOk
 simp only [Bool.and_eq_true, Bool.or_eq_true, decide_eq_true_eq, List.all_eq_true]
 refine ⟨⟨by rw [hm.1]; rfl, fun a ha => ?_⟩, ?_⟩
 · have := hm.2 a ha
   exact inB_mk (by omega)
 · by_cases h0 : j = 0
   · exact .inl h0
   · exact .inr (hi (j - 1) j (by omega) hj)
theorem PairOk.pairs {size : Int} {V : Nat} {P : List RelT} (h : PairOk size V P) (hs : 1 ≤ size ∧ size ≤ 4) (hV : V ≤ 10) : PairsOk size V P :=
 ⟨hV, by rw [h.len, tri_half], fun r hr => by
  obtain ⟨q, rfl⟩ := h.sel r hr
  exact ⟨selT_rel hs, rfl⟩⟩
theorem ownT_sel {size : Int} {V i j : Nat} {P : List RelT} (h : PairOk size V P) (hij : i < j) (hj : j < V) : ∃ q, ownT P i j = selT q size 2 (sqN size) := by
 obtain ⟨q, hq⟩ := h.own hij hj
 exact ⟨q, by unfold ownT; rw [hq]⟩
theorem cutT_sel {size : Int} {V i j k : Nat} {P : List RelT} (h : PairOk size V P) (hij : i < j) (hj : j < V) : selT (fun y => hasT (ownT P i j) y && throughB size P i j k y) size 2 (sqN size) = cutT size P i j k := by
 obtain ⟨q, hq⟩ := ownT_sel h hij hj
 unfold cutT
 rw [hq, selT_has]
theorem narrow_ok {size : Int} {V i j k : Nat} {P : List RelT} (h : PairOk size V P) (hij : i < j) (hj : j < V) : PairOk size V (narrowP size P i j k) := by
 obtain ⟨q, hq⟩ := ownT_sel h hij hj
 refine ⟨by simp [narrowP, h.len], fun r hr => ?_⟩
 rcases List.mem_or_eq_of_mem_set hr with h1 | rfl
 · exact h.sel r h1
 · exact ⟨_, by unfold cutT; rw [hq, selT_filter]⟩
theorem filter_all_of_len {α : Type} {l : List α} {f : α → Bool} (h : ¬ (l.filter f).length < l.length) : l.filter f = l := by
 refine List.filter_eq_self.2 ?_
 have h1 := List.length_filter_le f l
 have h2 : (l.filter f).length = l.length := by omega
 exact List.length_filter_eq_length_iff.1 h2
theorem narrow_same {size : Int} {V i j k : Nat} {P : List RelT} (h : PairOk size V P) (hij : i < j) (hj : j < V) (hg : goneB size P i j k = false) : narrowP size P i j k = P := by
 obtain ⟨q, hq⟩ := h.own hij hj
 have hc : cutT size P i j k = ownT P i j := filter_all_of_len (of_decide_eq_false hg)
 unfold narrowP
 rw [hc]
 unfold ownT
 have hl : pidx i j < P.length := by rw [h.len]; exact pidx_lt2 hij hj
 rw [hq]
 rw [List.getD, List.getElem?_eq_getElem hl] at hq
 simp only [Option.getD_some] at hq
 rw [← hq]
 exact List.set_getElem_self hl
theorem fst_ok {t : Tmpl} {x : Inst} : ∀ V, PairOk t.1 V (fstP t x V) := fun V => ⟨by simp, fun r hr => by
 induction V with
 | zero => cases hr
 | succ j ih =>
  rcases List.mem_append.1 hr with h | h
  · exact ih h
  · obtain ⟨i, _, rfl⟩ := List.mem_map.1 h
    exact ⟨_, rfl⟩⟩
def lensP (P : List RelT) : Nat := (P.map (fun r => r.2.length)).sum
theorem lensP_set (r : RelT) : ∀ (P : List RelT) (i : Nat) (h : i < P.length), lensP (P.set i r) + P[i].2.length = lensP P + r.2.length
 | [], i, h => by cases h
 | y :: l, 0, h => by simp [lensP]; omega
 | y :: l, i + 1, h => by
  have := lensP_set r l i (by simpa using h)
  unfold lensP at this
  simp only [lensP, sS, List.map_cons, List.sum_cons, List.getElem_cons_succ]
  omega
theorem lensP_le {n : Nat} : ∀ (P : List RelT), (∀ r, r ∈ P → r.2.length ≤ n) → lensP P ≤ n * P.length
 | [], _ => by simp [lensP]
 | r :: P, h => by
  have h1 := h r (by simp)
  have h2 := lensP_le P (fun e he => h e (by simp [he]))
  unfold lensP at h2 ⊢
  simp only [List.map_cons, List.sum_cons, List.length_cons, Nat.mul_add, Nat.mul_one]
  omega
theorem PairOk.lens {size : Int} {V : Nat} {P : List RelT} (h : PairOk size V P) : lensP P ≤ sqN size * tri V := by
 rw [← h.len]
 refine lensP_le P (fun r hr => ?_)
 obtain ⟨q, rfl⟩ := h.sel r hr
 exact selT_len _ _ _ _
theorem lensP_narrow {size : Int} {V i j k : Nat} {P : List RelT} (h : PairOk size V P) (hij : i < j) (hj : j < V) (hg : goneB size P i j k = true) : lensP (narrowP size P i j k) + 1 ≤ lensP P := by
 have hl : pidx i j < P.length := by rw [h.len]; exact pidx_lt2 hij hj
 have h1 := lensP_set (2, cutT size P i j k) P (pidx i j) hl
 have h2 : (cutT size P i j k).length < (ownT P i j).length := of_decide_eq_true hg
 have h3 : (ownT P i j).length = P[pidx i j].2.length := by
  unfold ownT
  rw [List.getD, List.getElem?_eq_getElem hl]
  rfl
 unfold narrowP
 simp only at h1
 omega
abbrev PairS := List RelT × List (Int × Int × Int)
def throughS (size : Int) (j i : Nat) (s : PairS) (k : Nat) : PairS :=
 if k ≠ i ∧ k ≠ j ∧ goneB size s.1 i j k = true then (narrowP size s.1 i j k, s.2 ++ [((i : Int), (j : Int), (k : Int))]) else s
def overI (size : Int) (V j : Nat) (s : PairS) (i : Nat) : PairS := (List.range V).foldl (throughS size j i) s
def overJ (size : Int) (V : Nat) (s : PairS) (j : Nat) : PairS := (List.range j).foldl (overI size V j) s
def roundP (size : Int) (V : Nat) (s : PairS) : PairS := (List.range V).foldl (overJ size V) s
def pairsA (size : Int) (V : Nat) : Nat → PairS → PairS
 | 0, s => s
 | n + 1, s => if (roundP size V s).2.length = s.2.length then roundP size V s else pairsA size V n (roundP size V s)
structure PotP (size : Int) (V C : Nat) (s : PairS) : Prop where
 ok : PairOk size V s.1
 pot : s.2.length + lensP s.1 ≤ C
 val : ∀ e, e ∈ s.2 → (0 ≤ e.1 ∧ e.1 < V) ∧ (0 ≤ e.2.1 ∧ e.2.1 < V) ∧ 0 ≤ e.2.2 ∧ e.2.2 < V
theorem throughS_ok {size : Int} {V C i j k : Nat} {s : PairS} (h : PotP size V C s) (hij : i < j) (hj : j < V) (hk : k < V) : PotP size V C (throughS size j i s k) := by
 unfold throughS
 split
 · rename_i hc
   have h1 := lensP_narrow (k := k) h.ok hij hj hc.2.2
   have h2 := h.pot
   refine ⟨narrow_ok h.ok hij hj, by simp only [List.length_append, List.length_cons, List.length_nil]; omega, fun e he => ?_⟩
   rcases List.mem_append.1 he with he | he
   · exact h.val e he
   · rw [List.mem_singleton] at he
     subst he
     simp only
     omega
 · exact h
theorem throughS_more (size : Int) (j i : Nat) (s : PairS) (k : Nat) : s.2.length ≤ (throughS size j i s k).2.length := by
 unfold throughS
 split
 · simp
 · exact Nat.le_refl _
theorem foldP_inv {Q : PairS → Prop} {f : PairS → Nat → PairS} {n : Nat} (hf : ∀ s k, k < n → Q s → Q (f s k)) {s : PairS} (h : Q s) : Q ((List.range n).foldl f s) := by
 induction n with
 | zero => exact h
 | succ n ih =>
  rw [foldl_range_succ]
  exact hf _ n (by omega) (ih (fun s k hk => hf s k (by omega)))
theorem foldP_more {f : PairS → Nat → PairS} (hf : ∀ s k, s.2.length ≤ (f s k).2.length) (n : Nat) (s : PairS) : s.2.length ≤ ((List.range n).foldl f s).2.length := by
 induction n with
 | zero => exact Nat.le_refl _
 | succ n ih =>
  rw [foldl_range_succ]
  exact Nat.le_trans ih (hf _ n)
theorem overI_ok {size : Int} {V C i j : Nat} {s : PairS} (h : PotP size V C s) (hij : i < j) (hj : j < V) : PotP size V C (overI size V j s i) := foldP_inv (fun s k hk h => throughS_ok h hij hj hk) h
theorem overJ_ok {size : Int} {V C j : Nat} {s : PairS} (h : PotP size V C s) (hj : j < V) : PotP size V C (overJ size V s j) := foldP_inv (fun s i hi h => overI_ok h hi hj) h
theorem roundP_ok {size : Int} {V C : Nat} {s : PairS} (h : PotP size V C s) : PotP size V C (roundP size V s) := foldP_inv (fun s j hj h => overJ_ok h hj) h
theorem overI_more (size : Int) (V j : Nat) (s : PairS) (i : Nat) : s.2.length ≤ (overI size V j s i).2.length := foldP_more (throughS_more size j i) V s
theorem overJ_more (size : Int) (V : Nat) (s : PairS) (j : Nat) : s.2.length ≤ (overJ size V s j).2.length := foldP_more (overI_more size V j) j s
theorem roundP_more (size : Int) (V : Nat) (s : PairS) : s.2.length ≤ (roundP size V s).2.length := foldP_more (overJ_more size V) V s
theorem pairsA_ok {size : Int} {V C : Nat} : ∀ (n : Nat) {s : PairS}, PotP size V C s → PotP size V C (pairsA size V n s)
 | 0, _, h => h
 | n + 1, s, h => by
  rw [pairsA]
  split
  · exact roundP_ok h
  · exact pairsA_ok n (roundP_ok h)
def capP (size : Int) (V : Nat) : Nat := sqN size * tri V
def pairsF (t : Tmpl) (x : Inst) : PairS := pairsA t.1 x.1.toNat (capP t.1 x.1.toNat + 1) (fstP t x x.1.toNat, [])
theorem cap_le {t : Tmpl} {x : Inst} (h : instOk t x = true) : capP t.1 x.1.toNat ≤ 720 := by
 have h1 := (instOk_get h).2.1
 have h2 := (sqN_le (tmplOk_get (instOk_get h).1).1).2.1
 have h3 := tri_ten (show x.1.toNat ≤ 10 by omega)
 unfold capP
 exact Nat.mul_le_mul h2 h3
theorem fst_pot (t : Tmpl) (x : Inst) (V : Nat) : PotP t.1 V (capP t.1 V) (fstP t x V, []) :=
 ⟨fst_ok V, by have := (fst_ok (t := t) (x := x) V).lens; unfold capP; simp only [List.length_nil]; omega, fun e he => by cases he⟩
theorem pairsF_ok (t : Tmpl) (x : Inst) : PotP t.1 x.1.toNat (capP t.1 x.1.toNat) (pairsF t x) := pairsA_ok _ (fst_pot t x _)
end Go.Proofs.YtpkdiiagnplpkaaGreat
namespace Go.Proofs.YtpkdiiagnplpkaaGreat
open Go.RowKit
open Rep (Rd Own sz)
structure PairW (w0 : World) (B0 : Nat) (vp : Value) (eS : TypeId) (bx : List (Nat × Array Value × TypeId)) (wl : World) (gs co : Nat) (s : PairS) : Prop where
 st : St w0 wl.heap.size wl bx
 b0 : B0 ≤ wl.heap.size
 lo : w0.heap.size ≤ B0
 dom : Ip (fun z => (w0.heap.size ≤ z ∧ z ≠ gs) ∧ ∀ x, x ∈ bx → x.1 ≠ z) wl [vp] s.1
 row : wl.ownsRow 0 eS 3 (.slice (some ⟨gs, 0, none⟩) s.2.length co) s.2.length (flat3 s.2)
 gs : (B0 ≤ gs ∧ gs < wl.heap.size) ∧ ∀ x, x ∈ bx → x.1 ≠ gs
theorem ip_own {α : Type} [Rep α] {A : Nat → Prop} {w : World} {v : Value} {l : List α} (h : Ip A w [v] l) (hl : 0 < l.length) {z : Nat} (hz : v.ownBlock = some z) : A z := by
 obtain ⟨g, o, c, cur, e, rfl, _, _, _, hA, _⟩ := ip_form h hl
 simp only [Value.ownBlock, Option.some.injEq] at hz
 exact hz ▸ hA
section
variable {w0 : World} {B0 : Nat} {vp : Value} {eS : TypeId} {bx : List (Nat × Array Value × TypeId)} {wl : World} {gs co : Nat} {s : PairS}
theorem PairW.step (h : PairW w0 B0 vp eS bx wl gs co s) {w1 : World} (hb : Below wl.heap.size wl w1) : PairW w0 B0 vp eS bx w1 gs co s :=
 ⟨(h.st.step hb).up hb.size (Nat.le_refl _), Nat.le_trans h.b0 hb.size, h.lo, h.dom.mono hb, ownsRow_below h.row hb, ⟨⟨h.gs.1.1, Nat.lt_of_lt_of_le h.gs.1.2 hb.size⟩, h.gs.2⟩⟩
theorem PairW.rd (h : PairW w0 B0 vp eS bx wl gs co s) : Rd wl [vp] s.1 := h.dom.rd
theorem PairW.bel (h : PairW w0 B0 vp eS bx wl gs co s) : Below w0.heap.size w0 wl := h.st.bel
theorem PairW.box (h : PairW w0 B0 vp eS bx wl gs co s) (vs : Array Value) (ty : TypeId) : PairW w0 B0 vp eS (bx ++ [(wl.heap.size, vs, ty)]) (wl.alloc (.cells vs ty)) gs co s := by
 have hb := belowA wl (.cells vs ty)
 refine ⟨(h.st.alloc vs ty rfl).up (by simp) (Nat.le_refl _), by have := h.b0; simp; omega, h.lo, ?_, ownsRow_below h.row hb, ⟨⟨h.gs.1.1, by have := h.gs.1.2; simp; omega⟩, ?_⟩⟩
 · refine (h.dom.tight.mono hb).wk (fun z hz => ⟨hz.1.1, fun x hx => ?_⟩)
   rcases List.mem_append.1 hx with hx | hx
   · exact hz.1.2 x hx
   · rw [List.mem_singleton] at hx
     subst hx
     have := hz.2
     simp only
     omega
 · intro x hx
   rcases List.mem_append.1 hx with hx | hx
   · exact h.gs.2 x hx
   · rw [List.mem_singleton] at hx
     subst hx
     have := h.gs.1.2
     simp only
     omega
theorem PairW.sub (h : PairW w0 B0 vp eS bx wl gs co s) {bx' : List (Nat × Array Value × TypeId)} (hs : ∀ x, x ∈ bx' → x ∈ bx) : PairW w0 B0 vp eS bx' wl gs co s :=
 ⟨h.st.sub hs, h.b0, h.lo, h.dom.wk (fun z hz => ⟨hz.1, fun x hx => hz.2 x (hs x hx)⟩), h.row, ⟨h.gs.1, fun x hx => h.gs.2 x (hs x hx)⟩⟩
theorem PairW.cut (h : PairW w0 B0 vp eS bx wl gs co s) {w1 : World} {P : List RelT} (hl : 0 < s.1.length) (hb : ButP (fun z => vp.ownBlock = some z) wl w1)
 (hd : Ip (fun z => ((w0.heap.size ≤ z ∧ z ≠ gs) ∧ ∀ x, x ∈ bx → x.1 ≠ z) ∨ wl.heap.size ≤ z) w1 [vp] P) : PairW w0 B0 vp eS bx w1 gs co (P, s.2) := by
 have hg := fun z hz => ip_own h.dom hl (z := z) hz
 have hsz := hb.size
 have hbg := h.gs.1.2
 refine ⟨(h.st.butP hb (fun k hk => (hg k hk).1.1) (fun x hx hk => (hg _ hk).2 x hx rfl)).up hsz (Nat.le_refl _), Nat.le_trans h.b0 hsz, h.lo, ?_, ?_, ⟨⟨h.gs.1.1, by omega⟩, h.gs.2⟩⟩
 · refine hd.wk (fun z hz => ?_)
   rcases hz with hz | hz
   · exact hz
   · refine ⟨⟨by have := h.st.lo; omega, by omega⟩, fun x hx => ?_⟩
     have := (h.st.box x hx).2.1
     omega
 · exact row_frame h.row (fun k hk => hb.block k (by
    simp only [Value.ownBlock, Option.some.injEq] at hk
    omega) (fun hz => by
    simp only [Value.ownBlock, Option.some.injEq] at hk
    exact (hg k hz).1.2 hk.symm))
theorem PairW.snoc (h : PairW w0 B0 vp eS bx wl gs co s) {w1 : World} {g1 c1 : Nat} {a b c : Int} (hat : gs = g1 ∨ g1 = wl.heap.size) (hb : But [gs] wl w1) (hlt : g1 < w1.heap.size)
 (hrow : w1.ownsRow 0 eS 3 (.slice (some ⟨g1, 0, none⟩) (s.2.length + 1) c1) (s.2.length + 1) (flat3 s.2 ++ [.int .i64 a, .int .i64 b, .int .i64 c])) : PairW w0 B0 vp eS bx w1 g1 c1 (s.1, s.2 ++ [(a, b, c)]) := by
 have hsz := hb.size
 have hlo : w0.heap.size ≤ gs := Nat.le_trans h.lo h.gs.1.1
 refine ⟨(h.st.butIv hb (fun k hk => by simp at hk; omega) (fun x hx hp => by
  simp only [List.mem_singleton] at hp
  exact h.gs.2 x hx hp)).up hsz (Nat.le_refl _), Nat.le_trans h.b0 hsz, h.lo, ?_, ?_, ⟨⟨?_, hlt⟩, fun x hx => ?_⟩⟩
 · refine ((h.dom.tight).butP (hb.butP (A := fun z => z = gs) (fun k hk => by simpa using hk)) (fun z hz => hz.1.1.2)).wk (fun z hz => ⟨⟨hz.1.1.1, ?_⟩, hz.1.2⟩)
   rcases hat with h1 | h1
   · rw [← h1]; exact hz.1.1.2
   · have := hz.2; omega
 · rw [List.length_append, flat3_snoc]; exact hrow
 · rcases hat with h1 | h1
   · rw [← h1]; exact h.gs.1.1
   · rw [h1]; exact h.b0
 · rcases hat with h1 | h1
   · rw [← h1]; exact h.gs.2 x hx
   · have := (h.st.box x hx).2.1
     omega
theorem pairW_fresh (h : PairW w0 B0 vp eS bx wl gs co s) (hI : ∀ e, e ∈ s.2 → I64 e.1 ∧ I64 e.2.1 ∧ I64 e.2.2) : Fresh w0.heap.size wl [vp, .slice (some ⟨gs, 0, none⟩) s.2.length co] s := by
 have ho := ownSl_of_row (α := Int × Int × Int) (l := s.2) (pss := List.replicate s.2.length []) h.row (by simp) (fun i hi => ⟨[], _, by simp [hi], own_step3 wl (hI _ (List.getElem_mem hi)), fun k hk => flat3_get s.2 i hi k hk⟩)
 have he : (Value.slice (some ⟨gs, 0, none⟩) s.2.length co).ownBlock.toList ++ List.flatten (List.replicate s.2.length ([] : List Nat)) = [gs] := by simp [Value.ownBlock]
 rw [he] at ho
 have hd2 : Ip (fun z => z = gs) wl [.slice (some ⟨gs, 0, none⟩) s.2.length co] s.2 := ⟨[gs], ⟨_, rfl, ho⟩, by simp, fun k hk => by simpa using hk⟩
 refine ip_cons (C := fun z => w0.heap.size ≤ z) h.dom hd2 (fun k hk => hk.1.2) (fun k hk => hk.1.1) (fun k hk => ?_)
 rw [hk]; exact Nat.le_trans h.lo h.gs.1.1
end
theorem pairs_i64 {size : Int} {V C : Nat} {s : PairS} (h : PotP size V C s) (hV : V ≤ 10) : ∀ e, e ∈ s.2 → I64 e.1 ∧ I64 e.2.1 ∧ I64 e.2.2 := fun e he => by
 obtain ⟨h1, h2, h3⟩ := h.val e he
 exact ⟨i64_of _ (by omega) (by omega), i64_of _ (by omega) (by omega), i64_of _ (by omega) (by omega)⟩
theorem ip_rel {A : Nat → Prop} {B : Nat → Prop} {w : World} {g o n c : Nat} {P : List RelT} (h : Ip A w [.slice (some ⟨g, o, none⟩) n c] P) (j : Nat) (hj : j < P.length) {v0 v1 : Value} {y : RelT} (hy : Ip B w [v0, v1] y) (hAB : ∀ k, A k → ¬ B k) :
 Ip (fun k => A k ∨ B k) ((w.setCell ⟨g, o + j * 2, none⟩ v0).setCell ⟨g, o + j * 2 + 1, none⟩ v1) [.slice (some ⟨g, o, none⟩) n c] (P.set j y) := by
 have h3 := ip_put h j hj hy hAB
 have e : putCells w g (o + j * sz RelT) [v0, v1] = (w.setCell ⟨g, o + j * 2, none⟩ v0).setCell ⟨g, o + j * 2 + 1, none⟩ v1 := by simp [putCells, sz]
 rwa [e] at h3
theorem butP_rel (w : World) (g a b : Nat) (v0 v1 : Value) {vp : Value} (hv : vp.ownBlock = some g) : ButP (fun z => vp.ownBlock = some z) w ((w.setCell ⟨g, a, none⟩ v0).setCell ⟨g, b, none⟩ v1) :=
 ⟨rfl, rfl, rfl, by simp [World.setCell], fun k hk hn => by
  have hne : k ≠ g := fun e => hn (by rw [e]; exact hv)
  rw [Below.heap_setCell _ _ _ _ (by simpa using hne), Below.heap_setCell _ _ _ _ (by simpa using hne)]⟩
structure GrowW {α : Type} [Rep α] (w0 : World) (bx : List (Nat × Array Value × TypeId)) (e : TypeId) (wl : World) (v : Value) (l : List α) : Prop where
 st : St w0 wl.heap.size wl bx
 acc : AccP (fun z => w0.heap.size ≤ z ∧ ∀ x, x ∈ bx → x.1 ≠ z) e wl v l
section
variable {α : Type} [Rep α] {w0 : World} {bx : List (Nat × Array Value × TypeId)} {e : TypeId} {wl : World} {v : Value} {l : List α}
theorem GrowW.step (h : GrowW w0 bx e wl v l) {w1 : World} (hb : Below wl.heap.size wl w1) : GrowW w0 bx e w1 v l :=
 ⟨(h.st.step hb).up hb.size (Nat.le_refl _), h.acc.mono hb⟩
theorem GrowW.box (h : GrowW w0 bx e wl v l) (vs : Array Value) (ty : TypeId) : GrowW w0 (bx ++ [(wl.heap.size, vs, ty)]) e (wl.alloc (.cells vs ty)) v l := by
 have hb := belowA wl (.cells vs ty)
 refine ⟨(h.st.alloc vs ty rfl).up (by simp) (Nat.le_refl _), ?_⟩
 refine (h.acc.tight.mono hb).wk (fun z hz => ⟨hz.1.1, fun x hx => ?_⟩)
 rcases List.mem_append.1 hx with hx | hx
 · exact hz.1.2 x hx
 · rw [List.mem_singleton] at hx
   subst hx
   have := hz.2
   simp only
   omega
theorem GrowW.sub (h : GrowW w0 bx e wl v l) {bx' : List (Nat × Array Value × TypeId)} (hs : ∀ x, x ∈ bx' → x ∈ bx) : GrowW w0 bx' e wl v l :=
 ⟨h.st.sub hs, h.acc.wk (fun z hz => ⟨hz.1, fun x hx => hz.2 x (hs x hx)⟩)⟩
theorem GrowW.snoc (h : GrowW w0 bx e wl v l) {A C : Nat → Prop} {w9 : World} {v' : Value} {l' : List α} (hA : AccP (fun k => A k ∨ C k ∨ k = wl.heap.size) e w9 v' l')
 (hB : ButP A wl w9) (hP : ∀ k, A k → w0.heap.size ≤ k ∧ ∀ x, x ∈ bx → x.1 ≠ k) (hC : ∀ k, C k → w0.heap.size ≤ k ∧ ∀ x, x ∈ bx → x.1 ≠ k) : GrowW w0 bx e w9 v' l' := by
 refine ⟨(h.st.butP hB (fun k hk => (hP k hk).1) (fun x hx hk => (hP _ hk).2 x hx rfl)).up hB.size (Nat.le_refl _), hA.wk (fun z hz => ?_)⟩
 rcases hz with hz | hz | hz
 · exact hP z hz
 · exact hC z hz
 · subst hz
   refine ⟨h.st.lo, fun x hx => ?_⟩
   have := (h.st.box x hx).2.1
   omega
theorem GrowW.fresh (h : GrowW w0 bx e wl v l) : Fresh w0.heap.size wl [v] l := h.acc.ip.fresh (fun z hz => hz.1)
theorem GrowW.bel (h : GrowW w0 bx e wl v l) : Below w0.heap.size w0 wl := h.st.bel
theorem GrowW.newer (h : GrowW w0 bx e wl v l) {k : Nat} (hk : wl.heap.size ≤ k) : w0.heap.size ≤ k ∧ ∀ x, x ∈ bx → x.1 ≠ k :=
 ⟨Nat.le_trans h.st.lo hk, fun x hx => by have := (h.st.box x hx).2.1; omega⟩
end
theorem ip_rel2 {A : Nat → Prop} {w : World} {v : Value} {k : Int} {T : List (List Int)} (hk : I64 k) (h : Ip A w [v] T) : Ip A w [.int .i64 k, v] ((k, T) : RelT) :=
 ip_cons (A := fun _ => False) (B := A) (C := A) ⟨[], ⟨rfl, rfl, hk⟩, by simp, by simp⟩ h (fun k hk => hk.elim) (fun k hk => hk.elim) (fun k hk => hk)
end Go.Proofs.YtpkdiiagnplpkaaGreat
namespace Go.Proofs.YtpkdiiagnplpkaaGreat
open Go.RowKit
open Rep (Rd Own sz)
theorem ip_change {α : Type} [Rep α] {A : Nat → Prop} {w : World} {g o n c : Nat} {l : List α} (h : Ip A w [.slice (some ⟨g, o, none⟩) n c] l) (j : Nat) (hj : j < l.length) :
 ∃ (p : List Nat) (us : List Value), Own p w us l[j] ∧ p.Nodup ∧ (∀ k, k ∈ p → A k) ∧ (∀ k, k < sz α → w.cell? ⟨g, o + j * sz α + k, none⟩ = us[k]?) ∧
  ∀ (w1 : World) (p' : List Nat) (vs : List Value) (y : α), Below w.heap.size w w1 → Own p' w1 vs y → p'.Nodup → (∀ k, k ∈ p' → k ∈ p ∨ w.heap.size ≤ k) →
   Ip (fun k => A k ∨ w.heap.size ≤ k) (putCells w1 g (o + j * sz α) vs) [.slice (some ⟨g, o, none⟩) n c] (l.set j y) := by
 obtain ⟨ps, hown, hn, hb⟩ := h
 have hlt := fun k hk => Rep.own_lt hown k hk
 obtain ⟨v', e', ho⟩ := hown
 obtain rfl : Value.slice (some ⟨g, o, none⟩) n c = v' := by simpa using e'
 rcases ho with ⟨rfl, _⟩ | ⟨g', o', c', cur, e, pss, hv, h1, h2, h3, rfl, h5, h6⟩
 · exact absurd hj (Nat.not_lt_zero _)
 simp only [Value.slice.injEq, Option.some.injEq, Addr.mk.injEq, and_true] at hv
 obtain ⟨⟨rfl, rfl⟩, rfl, rfl⟩ := hv
 have hjp : j < pss.length := by omega
 obtain ⟨p, us, hp, hO, hc⟩ := h6 j hj
 have hpj : pss[j] = p := by rw [List.getElem?_eq_getElem hjp] at hp; simpa using hp
 have hwhole : pss = pss.take j ++ p :: pss.drop (j + 1) := by
  conv => lhs; rw [← List.take_append_drop j pss, List.drop_eq_getElem_cons hjp, hpj]
 have hmem : ∀ k, k ∈ List.flatten (pss.take j) ∨ k ∈ p ∨ k ∈ List.flatten (pss.drop (j + 1)) → k ∈ g :: List.flatten pss := fun k hk => by
  refine List.mem_cons_of_mem _ ?_
  rw [hwhole, List.flatten_append, List.flatten_cons]
  rcases hk with hk | hk | hk <;> simp [hk]
 have hn2 := hn
 rw [hwhole, List.flatten_append, List.flatten_cons] at hn2
 simp only [List.nodup_cons, List.nodup_append, List.mem_append, not_or] at hn2
 obtain ⟨⟨n1, n2, n3⟩, n4, ⟨n5, n6, n7⟩, n8⟩ := hn2
 have hul := Rep.rd_len (Rep.own_rd hO)
 refine ⟨p, us, hO, n5, fun k hk => hb k (hmem k (.inr (.inl hk))), fun k hk => by rw [cell_at_block h3]; exact hc k (by omega), ?_⟩
 intro w1 p' vs y hbl hO' hn' hb'
 have hvl := Rep.rd_len (Rep.own_rd hO')
 have hsplit : pss.set j p' = pss.take j ++ p' :: pss.drop (j + 1) := List.set_eq_take_append_cons_drop .. |>.trans (by rw [if_pos hjp])
 have hgp' : g ∉ p' := fun hk => by
  rcases hb' g hk with h | h
  · exact n2 h
  · have := hlt g (by simp); omega
 have hnd : (g :: List.flatten (pss.set j p')).Nodup := by
  rw [hsplit, List.flatten_append, List.flatten_cons]
  simp only [List.nodup_cons, List.nodup_append, List.mem_append, not_or]
  refine ⟨⟨n1, hgp', n3⟩, n4, ⟨hn', n6, fun a ha b hbb => ?_⟩, fun a ha b hbb => ?_⟩
  · rcases hb' a ha with h | h
    · exact n7 a h b hbb
    · have := hlt b (hmem b (.inr (.inr hbb))); omega
  · rcases hbb with hbb | hbb
    · rcases hb' b hbb with h | h
      · exact n8 a ha b (.inl h)
      · have := hlt a (hmem a (.inl ha)); omega
    · exact n8 a ha b (.inr hbb)
 have hkeep : ∀ {β : Type} [Rep β] (q : List Nat) (xs : List Value) (z : β), Own q w1 xs z → g ∉ q → Own q (putCells w1 g (o + j * sz α) vs) xs z := by
  intro β _ q xs z hQ hgq
  exact Own.only hQ (putCells_only g vs _ w1) (fun k hk hkg => by obtain rfl : k = g := (by simpa using hkg); exact hgq hk)
 have h31 : w1.heap[g]? = some (.cells cur e (0, 0)) := (hbl.block g (hlt g (by simp))).trans h3
 refine ⟨g :: List.flatten (pss.set j p'), ⟨_, rfl, .inr ⟨g, o, c, _, e, pss.set j p', by simp, by simpa using h1, h2, putCells_heap g e (0, 0) vs _ w1 cur h31, rfl, by simpa using h5, fun i hi => ?_⟩⟩, hnd, fun k hk => ?_⟩
 · simp only [List.length_set] at hi
   obtain ⟨q, xs, hq, hQ, hcq⟩ := h6 i hi
   have hxl := Rep.rd_len (Rep.own_rd hQ)
   by_cases hij : j = i
   · subst hij
     refine ⟨p', vs, by simp [hjp], ?_, fun k hk => ?_⟩
     · simp only [List.getElem_set_self]
       exact hkeep p' vs y hO' hgp'
     · refine putArr_in vs _ k cur hk ?_
       have := hcq k (by omega)
       rw [List.getElem?_eq_getElem (by omega)] at this
       exact (Array.getElem?_eq_some_iff.1 this).1
   · refine ⟨q, xs, by rw [List.getElem?_set_ne hij]; exact hq, ?_, fun k hk => ?_⟩
     · simp only [List.getElem_set_ne hij]
       refine hkeep q xs _ (Own.mono hQ hbl) (fun hk => ?_)
       exact (List.nodup_cons.1 hn).1 (List.mem_flatten.2 ⟨q, List.mem_of_getElem? hq, hk⟩)
     · rw [putArr_out]
       · exact hcq k hk
       · have hks : k < sz α := by omega
         rcases Nat.lt_or_gt_of_ne hij with hlt | hlt
         · right
           have : (j + 1) * sz α ≤ i * sz α := Nat.mul_le_mul_right _ hlt
           rw [Nat.add_mul] at this
           omega
         · left
           have := idx_lt (s := sz α) hlt hks
           omega
 · rcases List.mem_cons.1 hk with rfl | hk
   · exact .inl (hb k (by simp))
   · rw [hsplit, List.flatten_append, List.flatten_cons] at hk
     rcases List.mem_append.1 hk with hk | hk
     · exact .inl (hb k (hmem k (.inl hk)))
     · rcases List.mem_append.1 hk with hk | hk
       · rcases hb' k hk with h | h
         · exact .inl (hb k (hmem k (.inr (.inl h))))
         · exact .inr h
       · exact .inl (hb k (hmem k (.inr (.inr hk))))
theorem flatten_sub {α : Type} {l m : List (List α)} (h : l.Sublist m) : l.flatten.Sublist m.flatten := by
 induction h with
 | slnil => exact List.Sublist.refl _
 | cons a _ ih => rw [List.flatten_cons]; exact List.sublist_append_of_sublist_right ih
 | cons_cons a _ ih => rw [List.flatten_cons, List.flatten_cons]; exact List.Sublist.append (List.Sublist.refl _) ih
abbrev Piece := List Int × Value × List Nat
theorem own_pieces {p : List Nat} {w : World} {a : Option Addr} {n c : Nat} {T : List (List Int)} (h : Own p w [.slice a n c] T) (hp : p.Nodup) :
 ∃ L : List Piece, L.map (·.1) = T ∧ (∀ i (hi : i < L.length), ∃ b o, a = some ⟨b, o, none⟩ ∧ w.cell? ⟨b, o + i, none⟩ = some L[i].2.1) ∧ (∀ e, e ∈ L → Rd w [e.2.1] e.1) ∧
  ∀ (M : List Piece) (w1 : World) (e : TypeId) (vN : Value), M.Sublist L → Below w.heap.size w w1 → w1.ownsRow 0 e 1 vN M.length (M.map (·.2.1)) → (∀ z, vN.ownBlock = some z → w.heap.size ≤ z) →
   ∃ p', Own p' w1 [vN] (M.map (·.1)) ∧ p'.Nodup ∧ ∀ k, k ∈ p' → k ∈ p ∨ w.heap.size ≤ k := by
 have hlt := fun k hk => Rep.own_lt h k hk
 have key : ∃ L : List Piece, L.map (·.1) = T ∧ (∀ i (hi : i < L.length), ∃ b o, a = some ⟨b, o, none⟩ ∧ w.cell? ⟨b, o + i, none⟩ = some L[i].2.1) ∧ (∀ e, e ∈ L → Own e.2.2 w [e.2.1] e.1) ∧ (List.flatten (L.map (·.2.2))).Nodup ∧ ∀ k, k ∈ List.flatten (L.map (·.2.2)) → k ∈ p := by
  obtain ⟨v', e', ho⟩ := h
  obtain rfl : Value.slice a n c = v' := by simpa using e'
  rcases ho with ⟨rfl, rfl, _⟩ | ⟨g, o, c', cur, e, pss, hv, h1, h2, h3, rfl, h5, h6⟩
  · exact ⟨[], rfl, fun i hi => absurd hi (Nat.not_lt_zero _), by simp, by simp, by simp⟩
  simp only [Value.slice.injEq] at hv
  obtain ⟨rfl, rfl, rfl⟩ := hv
  have hpl : pss.length = T.length := by simpa using h5
  refine ⟨(List.range T.length).map (fun i => (T.getD i [], (cur[o + i]?).getD (.int .i64 0), pss.getD i [])), ?_, ?_, ?_, ?_, ?_⟩
  · refine List.ext_getElem (by simp) (fun i h1 h2 => ?_)
    simp [List.getD, h2]
  · intro i hi
    simp only [List.length_map, List.length_range] at hi
    obtain ⟨q, vs, hq, hO, hc⟩ := h6 i hi
    have hvl : vs.length = 1 := Rep.rd_len (Rep.own_rd hO)
    have := hc 0 (by omega)
    refine ⟨g, o, rfl, ?_⟩
    rw [cell_at_block h3]
    rw [show o + i * sz (List Int) + 0 = o + i by simp [sz]] at this
    simp only [List.getElem_map, List.getElem_range]
    rw [this, List.getElem?_eq_getElem (by omega)]
    rfl
  · intro x hx
    obtain ⟨i, hi, rfl⟩ := List.mem_map.1 hx
    rw [List.mem_range] at hi
    obtain ⟨q, vs, hq, hO, hc⟩ := h6 i hi
    have hvl : vs.length = 1 := Rep.rd_len (Rep.own_rd hO)
    obtain ⟨u, rfl⟩ : ∃ u, vs = [u] := by
     match vs, hvl with
     | [u], _ => exact ⟨u, rfl⟩
    have := hc 0 (by simp)
    rw [show o + i * sz (List Int) + 0 = o + i by simp [sz]] at this
    simp only [this, List.getElem?_cons_zero, Option.getD_some]
    rw [show pss.getD i [] = q by simp [List.getD, hq], show T.getD i [] = T[i] by simp [List.getD, hi]]
    exact hO
  · have e1 : ((List.range T.length).map (fun i => ((T.getD i [], (cur[o + i]?).getD (.int .i64 0), pss.getD i []) : Piece))).map (·.2.2) = pss := by
     refine List.ext_getElem (by simp [hpl]) (fun i h1 h2 => ?_)
     simp [List.getD, h2]
    rw [e1]
    exact (List.nodup_cons.1 hp).2
  · have e1 : ((List.range T.length).map (fun i => ((T.getD i [], (cur[o + i]?).getD (.int .i64 0), pss.getD i []) : Piece))).map (·.2.2) = pss := by
     refine List.ext_getElem (by simp [hpl]) (fun i h1 h2 => ?_)
     simp [List.getD, h2]
    rw [e1]
    exact fun k hk => List.mem_cons_of_mem _ hk
 obtain ⟨L, hL1, hL2, hL3, hL4, hL5⟩ := key
 refine ⟨L, hL1, hL2, fun e he => Rep.own_rd (hL3 e he), fun M w1 e vN hM hbl hrow hfr => ?_⟩
 have ho := ownSl_of_row (α := List Int) (l := M.map (·.1)) (pss := M.map (·.2.2)) (e := e) (xs := M.map (·.2.1)) (v := vN) (w := w1) (by simpa [sz] using hrow) (by simp) (fun i hi => by
  simp only [List.length_map] at hi
  refine ⟨M[i].2.2, [M[i].2.1], by simp [hi], ?_, fun k hk => ?_⟩
  · simp only [List.getElem_map]
    exact Own.mono (hL3 _ (hM.subset (List.getElem_mem hi))) hbl
  · simp only [List.length_cons, List.length_nil] at hk
    obtain rfl : k = 0 := by omega
    simp [sz, hi])
 have hsub : (List.flatten (M.map (·.2.2))).Sublist (List.flatten (L.map (·.2.2))) := flatten_sub (hM.map _)
 refine ⟨_, ⟨vN, rfl, ho⟩, ?_, fun k hk => ?_⟩
 · rw [List.nodup_append]
   refine ⟨by cases vN.ownBlock <;> simp, hsub.nodup hL4, fun x hx y hy => ?_⟩
   have h1 := hfr x (by simpa using hx)
   have h2 := hlt y (hL5 y (hsub.subset hy))
   omega
 · rcases List.mem_append.1 hk with hk | hk
   · exact .inr (hfr k (by simpa using hk))
   · exact .inl (hL5 k (hsub.subset hk))
theorem rel_change {A : Nat → Prop} {w : World} {vp : Value} {P : List RelT} (h : Ip A w [vp] P) (j : Nat) (hj : j < P.length) :
 ∃ g o c m a cc, vp = .slice (some ⟨g, o, none⟩) P.length c ∧ A g ∧ (∃ cur e, w.heap[g]? = some (.cells cur e (0, 0))) ∧ P[j].1 = m ∧ w.cell? ⟨g, o + j * 2, none⟩ = some (.int .i64 m) ∧ w.cell? ⟨g, o + j * 2 + 1, none⟩ = some (.slice a P[j].2.length cc) ∧ Rd w [.slice a P[j].2.length cc] P[j].2 ∧
  ∃ L : List Piece, L.map (·.1) = P[j].2 ∧ (∀ i (hi : i < L.length), ∃ b o, a = some ⟨b, o, none⟩ ∧ w.cell? ⟨b, o + i, none⟩ = some L[i].2.1) ∧ (∀ e, e ∈ L → Rd w [e.2.1] e.1) ∧
   ∀ (M : List Piece) (w1 : World) (e : TypeId) (vN : Value) (k : Int), I64 k → M.Sublist L → Below w.heap.size w w1 → w1.ownsRow 0 e 1 vN M.length (M.map (·.2.1)) → (∀ z, vN.ownBlock = some z → w.heap.size ≤ z) →
    Ip (fun z => A z ∨ w.heap.size ≤ z) ((w1.setCell ⟨g, o + j * 2, none⟩ (.int .i64 k)).setCell ⟨g, o + j * 2 + 1, none⟩ vN) [vp] (P.set j (k, M.map (·.1))) := by
 obtain ⟨g, o, c, cur, e, rfl, _, _, hh, hA, _⟩ := ip_form h (by omega)
 obtain ⟨p, us, hO, hnd, hpA, hcell, hput⟩ := ip_change h j hj
 have hul : us.length = 2 := Rep.rd_len (Rep.own_rd hO)
 obtain ⟨u0, u1, rfl⟩ : ∃ u0 u1, us = [u0, u1] := by
  match us, hul with
  | [u0, u1], _ => exact ⟨u0, u1, rfl⟩
 obtain ⟨p1, p2, rfl, hO1, hO2⟩ := own_cons rfl hO
 obtain ⟨rfl, hI⟩ := rd_i1 (Rep.own_rd hO1)
 obtain ⟨rfl, _⟩ := hO1
 obtain ⟨a, cc, rfl, hR⟩ := rd_list (Rep.own_rd hO2)
 obtain ⟨L, hL1, hL2, hL3, hL4⟩ := own_pieces hO2 (by simpa using hnd)
 have hc0 := hcell 0 (show 0 < 2 by omega)
 have hc1 := hcell 1 (show 1 < 2 by omega)
 have esz : sz RelT = 2 := rfl
 rw [esz] at hc0 hc1
 refine ⟨g, o, c, _, a, cc, rfl, hA, ⟨cur, e, hh⟩, rfl, by simpa using hc0, by simpa using hc1, Rep.own_rd hO2, L, hL1, hL2, hL3, fun M w1 e vN k hk hM hbl hrow hfr => ?_⟩
 obtain ⟨p', hp1, hp2, hp3⟩ := hL4 M w1 e vN hM hbl hrow hfr
 have h9 := hput w1 p' [.int .i64 k, vN] (k, M.map (·.1)) hbl (mk_own (p := []) ⟨rfl, rfl, hk⟩ hp1) hp2 (fun z hz => by simpa using hp3 z hz)
 have e9 : putCells w1 g (o + j * sz RelT) [.int .i64 k, vN] = (w1.setCell ⟨g, o + j * 2, none⟩ (.int .i64 k)).setCell ⟨g, o + j * 2 + 1, none⟩ vN := by simp [putCells, esz]
 rwa [e9] at h9
end Go.Proofs.YtpkdiiagnplpkaaGreat
