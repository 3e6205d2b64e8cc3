/-
  CONTRACTS: pair relations: their index, whether a pair is left; the numbers from one on; both sides.
-/
import Derived.Test.YtllenfkbfeanmaaGreatFailBFa
import Derived.Test.YtllenfkbfeanmaaGreatTmplBFa
import Derived.Test.YtllenfkbfeanmaaGreatRowsBFa
namespace Go.Proofs.YtllenfkbfeanmaaGreat
open Go.RowKit Go.Shelf Go.IntWalk
open Rep (Rd Own sz)
set_option linter.unusedSimpArgs false
set_option linter.unusedVariables false

def pidx (i j : Nat) : Nat := j * (j - 1) / 2 + i
theorem pidx_lt : ∀ v, v ≤ 10 → ∀ j, j < v → ∀ i, i < j → pidx i j < v * (v - 1) / 2 := by decide
theorem pidx_int : ∀ j : Nat, j ≤ 9 → ∀ i : Nat, i < j → (0 : Int) ≤ (j : Int) * ((j : Int) - 1) ∧ (j : Int) * ((j : Int) - 1) ≤ 72 ∧ ((j : Int) * ((j : Int) - 1)) / 2 + (i : Int) = (pidx i j : Int) ∧ pidx i j ≤ 44 := by decide
/-- Whether a pair of values is left for two variables. -/
def leftP (ps : List RelT) (i j : Nat) (a b : Int) : Bool := if j < i then hasT (ps.getD (pidx j i) (0, [])).2 [b, a] else hasT (ps.getD (pidx i j) (0, [])).2 [a, b]
/-- Pair relations of v variables. -/
structure PairsOk (size : Int) (v : Nat) (ps : List RelT) : Prop where
  v10 : v ≤ 10
  len : ps.length = v * (v - 1) / 2
  ok : ∀ r, r ∈ ps → relOk size r = true ∧ r.1 = 2
theorem PairsOk.inc {size : Int} {v : Nat} {ps : List RelT} (h : PairsOk size v ps) (r : RelT) (hr : r ∈ ps) : Inc r.2 ∧ r.2.length ≤ 1000000 :=
  ⟨relOk_inc (h.ok r hr).1, by have := (relOk_count (h.ok r hr).1).2; omega⟩
theorem PairsOk.lt {size : Int} {v : Nat} {ps : List RelT} (h : PairsOk size v ps) {i j : Nat} (hij : i < j) (hj : j < v) : pidx i j < ps.length := by
  rw [h.len]; exact pidx_lt v h.v10 j hj i hij
set_option maxHeartbeats 1000000 in
theorem pairIndex_c (i j : Nat) (w : World) (hij : i < j) (hj : j ≤ 9) : Calls Tryz.prog 54 #[.int .i64 i, .int .i64 j] w fun e w' => e = .returned (.int .i64 (pidx i j : Nat)) ∧ w = w' := by
  obtain ⟨h1, h2, h3, h4⟩ := pidx_int j hj i hij
  have H3 := Lib.hid h3
  have hlt : (i : Int) < j := by omega
  have hnl : ¬ ((j : Int) < i) := by omega
  have hmx : max (i : Int) (j : Int) = (j : Int) := Int.max_eq_right (Int.le_of_lt hlt)
  have hmn : min (i : Int) (j : Int) = (i : Int) := Int.min_eq_left (Int.le_of_lt hlt)
  clear h3
  go_enter Tryz.func54, Tryz.ntmps54
  go_wp2_with fail
  go_ret
  exact ⟨ret_int (by first | exact H3.out | (rw [← H3.out]; done) | (simp only [hmx, hmn]; have := H3.out; exact this) | (simp only [hmx, hmn]; go_simp; first | exact H3.out | (have := H3.out; omega)) | (have := H3.out; omega)), rfl⟩
set_option maxHeartbeats 1000000 in
theorem l05Index_c (i j : Nat) (w : World) (hij : i < j) (hj : j ≤ 9) : Calls Tryz.prog 181 #[.int .i64 i, .int .i64 j] w fun e w' => e = .returned (.int .i64 (pidx i j : Nat)) ∧ w = w' := by
  obtain ⟨h1, h2, h3, h4⟩ := pidx_int j hj i hij
  have H3 := Lib.hid h3
  have hlt : (i : Int) < j := by omega
  have hnl : ¬ ((j : Int) < i) := by omega
  have hmx : max (i : Int) (j : Int) = (j : Int) := Int.max_eq_right (Int.le_of_lt hlt)
  have hmn : min (i : Int) (j : Int) = (i : Int) := Int.min_eq_left (Int.le_of_lt hlt)
  clear h3
  go_enter Tryz.func181, Tryz.ntmps181
  go_wp2_with fail
  go_ret
  exact ⟨ret_int (by first | exact H3.out | (rw [← H3.out]; done) | (simp only [hmx, hmn]; have := H3.out; exact this) | (simp only [hmx, hmn]; go_simp; first | exact H3.out | (have := H3.out; omega)) | (have := H3.out; omega)), rfl⟩
set_option maxRecDepth 100000 in
set_option maxHeartbeats 4000000 in
theorem isLeft_c (size : Int) (v : Nat) (ps : List RelT) (i j : Nat) (a b : Int) (vp : Value) (w : World) (hp : Rd w [vp] ps) (hok : PairsOk size v ps) (hij : i ≠ j) (hi : i < v) (hj : j < v) (ha : I64 a) (hb : I64 b) :
    Calls Tryz.prog 109 #[vp, .int .i64 i, .int .i64 j, .int .i64 a, .int .i64 b] w fun e w' => e = .returned (.bool (leftP ps i j a b)) ∧ Below w.heap.size w w' := by
  have HP := Lib.hid hp
  have HOK := Lib.hid hok
  have h10 := hok.v10
  obtain ⟨a0, c0, rfl, _⟩ := rd_list hp
  have HIA := Lib.hid ha
  have HIB := Lib.hid hb
  clear hp hok ha hb
  go_enter Tryz.func109, Tryz.ntmps109
  by_cases hlt : j < i
  · have hK := HOK.out.lt hlt hi
    have HL := Lib.hid (show leftP ps i j a b = hasT (ps.getD (pidx j i) (0, [])).2 [b, a] by unfold leftP; rw [if_pos hlt])
    obtain ⟨g, o, u0, u1, rfl, q0, q1, hy⟩ := rd_two_at rfl HP.out _ hK
    have hinc := HOK.out.inc _ (List.getElem_mem hK)
    have hgt : (j : Int) < i := by omega
    have q0_ := cellL (St.start w).bel q0
    clear q0_
    have q0_ := cellL (St.start w).bel q0
    have q1_ := cellL (St.start w).bel q1
    clear q0_ q1_
    have q0_ := cellL (St.start w).bel q0
    have q1_ := cellL (St.start w).bel q1
    go_wp2_with fail
    refine (pairIndex_c j i _ hlt (by omega)).mono ?_
    rintro e w1 ⟨rfl, rfl, rfl⟩
    rw [show ps.getD (pidx j i) (0, []) = ps[pidx j i] by simp [List.getD, hK]] at HL
    generalize hKK : pidx j i = K at *
    generalize hR : ps[K] = R at *
    obtain ⟨ar, tl⟩ := R
    have hyz := rd_cons rfl hy
    obtain ⟨rfl, _⟩ := rd_i1 hyz.1
    obtain ⟨a3, c3, rfl, _⟩ := rd_list hyz.2
    have HY := Lib.hid hy
    have HINC := Lib.hid hinc
    clear hy hyz hinc hR hKK
    have hKl : (K : Int) < ps.length := by omega
    go_wp2_with fail
    have hs2 := (St.start w).alloc #[.int .i64 b, .int .i64 a] 2 (n := w.heap.size) (by simp)
    clear q0_ q1_
    have k0_0 := hs2.cellAt 0 rfl 0 rfl
    have k0_1 := hs2.cellAt 0 rfl 1 rfl
    have q0_ := cellL hs2.bel q0
    have q1_ := cellL hs2.bel q1
    go_wp2_with fail
    refine (has_c (ar, tl) [b, a] _ _ _ _ (Rd.mono HY.out hs2.bel) (rd_lit2 HIB.out HIA.out (hs2.cellAt 0 rfl 0 rfl) (hs2.cellAt 0 rfl 1 rfl)) HINC.out.1 HINC.out.2).mono ?_
    rintro e w3 ⟨rfl, hbw3⟩
    have hz_w3 : w.heap.size + 1 ≤ w3.heap.size := by have h9 := hbw3.size; (try simp at h9); omega
    have hs4 := hs2.step hbw3
    clear k0_0 k0_1 q0_ q1_
    have k0_0 := hs4.cellAt 0 rfl 0 rfl
    have k0_1 := hs4.cellAt 0 rfl 1 rfl
    have q0_ := cellL hs4.bel q0
    have q1_ := cellL hs4.bel q1
    generalize hasT (ar, tl).2 [b, a] = H at *
    go_wp2_with fail
    go_ret
    exact ⟨ret_bool HL.out.symm, hs4.bel⟩
  · have hlt2 : i < j := by omega
    have hK := HOK.out.lt hlt2 hj
    have HL := Lib.hid (show leftP ps i j a b = hasT (ps.getD (pidx i j) (0, [])).2 [a, b] by unfold leftP; rw [if_neg hlt])
    obtain ⟨g, o, u0, u1, rfl, q0, q1, hy⟩ := rd_two_at rfl HP.out _ hK
    have hinc := HOK.out.inc _ (List.getElem_mem hK)
    have hgt : ¬ ((j : Int) < i) := by omega
    have q0_ := cellL (St.start w).bel q0
    clear q0_
    have q0_ := cellL (St.start w).bel q0
    have q1_ := cellL (St.start w).bel q1
    clear q0_ q1_
    have q0_ := cellL (St.start w).bel q0
    have q1_ := cellL (St.start w).bel q1
    go_wp2_with fail
    refine (pairIndex_c i j _ hlt2 (by omega)).mono ?_
    rintro e w5 ⟨rfl, rfl, rfl⟩
    rw [show ps.getD (pidx i j) (0, []) = ps[pidx i j] by simp [List.getD, hK]] at HL
    generalize hKK : pidx i j = K at *
    generalize hR : ps[K] = R at *
    obtain ⟨ar, tl⟩ := R
    have hyz := rd_cons rfl hy
    obtain ⟨rfl, _⟩ := rd_i1 hyz.1
    obtain ⟨a3, c3, rfl, _⟩ := rd_list hyz.2
    have HY := Lib.hid hy
    have HINC := Lib.hid hinc
    clear hy hyz hinc hR hKK
    have hKl : (K : Int) < ps.length := by omega
    go_wp2_with fail
    have hs6 := (St.start w).alloc #[.int .i64 a, .int .i64 b] 2 (n := w.heap.size) (by simp)
    clear q0_ q1_
    have k0_0 := hs6.cellAt 0 rfl 0 rfl
    have k0_1 := hs6.cellAt 0 rfl 1 rfl
    have q0_ := cellL hs6.bel q0
    have q1_ := cellL hs6.bel q1
    go_wp2_with fail
    refine (has_c (ar, tl) [a, b] _ _ _ _ (Rd.mono HY.out hs6.bel) (rd_lit2 HIA.out HIB.out (hs6.cellAt 0 rfl 0 rfl) (hs6.cellAt 0 rfl 1 rfl)) HINC.out.1 HINC.out.2).mono ?_
    rintro e w7 ⟨rfl, hbw7⟩
    have hz_w7 : w.heap.size + 1 ≤ w7.heap.size := by have h9 := hbw7.size; (try simp at h9); omega
    have hs8 := hs6.step hbw7
    clear k0_0 k0_1 q0_ q1_
    have k0_0 := hs8.cellAt 0 rfl 0 rfl
    have k0_1 := hs8.cellAt 0 rfl 1 rfl
    have q0_ := cellL hs8.bel q0
    have q1_ := cellL hs8.bel q1
    generalize hasT (ar, tl).2 [a, b] = H at *
    go_wp2_with fail
    go_ret
    exact ⟨ret_bool HL.out.symm, hs8.bel⟩
set_option maxRecDepth 100000 in
set_option maxHeartbeats 4000000 in
theorem l05Left_c (size : Int) (v : Nat) (ps : List RelT) (i j : Nat) (a b : Int) (vp : Value) (w : World) (hp : Rd w [vp] ps) (hok : PairsOk size v ps) (hij : i ≠ j) (hi : i < v) (hj : j < v) (ha : I64 a) (hb : I64 b) :
    Calls Tryz.prog 151 #[vp, .int .i64 i, .int .i64 j, .int .i64 a, .int .i64 b] w fun e w' => e = .returned (.bool (leftP ps i j a b)) ∧ Below w.heap.size w w' := by
  have HP := Lib.hid hp
  have HOK := Lib.hid hok
  have h10 := hok.v10
  obtain ⟨a0, c0, rfl, _⟩ := rd_list hp
  have HIA := Lib.hid ha
  have HIB := Lib.hid hb
  clear hp hok ha hb
  go_enter Tryz.func151, Tryz.ntmps151
  by_cases hlt : j < i
  · have hK := HOK.out.lt hlt hi
    have HL := Lib.hid (show leftP ps i j a b = hasT (ps.getD (pidx j i) (0, [])).2 [b, a] by unfold leftP; rw [if_pos hlt])
    obtain ⟨g, o, u0, u1, rfl, q0, q1, hy⟩ := rd_two_at rfl HP.out _ hK
    have hgt : (j : Int) < i := by omega
    have q1_ := cellL (St.start w).bel q1
    clear q1_
    have q1_ := cellL (St.start w).bel q1
    go_wp2_with fail
    refine (l05Index_c j i _ hlt (by omega)).mono ?_
    rintro e w9 ⟨rfl, rfl, rfl⟩
    rw [show ps.getD (pidx j i) (0, []) = ps[pidx j i] by simp [List.getD, hK]] at HL
    generalize hKK : pidx j i = K at *
    generalize hR : ps[K] = R at *
    have hyz := rd_cons rfl hy
    have HY := Lib.hid hyz.2
    clear hy hyz hR hKK
    have hKl : (K : Int) < ps.length := by omega
    go_wp2_with fail
    have hs10 := (St.start w).alloc #[.int .i64 b, .int .i64 a] 2 (n := w.heap.size) (by simp)
    clear q1_
    have k0_0 := hs10.cellAt 0 rfl 0 rfl
    have k0_1 := hs10.cellAt 0 rfl 1 rfl
    have q1_ := cellL hs10.bel q1
    go_wp2_with fail
    refine (l01Has_c R [b, a] _ _ _ _ _ (Rd.mono HY.out hs10.bel) (cellL hs10.bel q1) (rd_lit2 HIB.out HIA.out (hs10.cellAt 0 rfl 0 rfl) (hs10.cellAt 0 rfl 1 rfl))).mono ?_
    rintro e w11 ⟨rfl, hbw11⟩
    have hz_w11 : w.heap.size + 1 ≤ w11.heap.size := by have h9 := hbw11.size; (try simp at h9); omega
    have hs12 := hs10.step hbw11
    clear k0_0 k0_1 q1_
    have k0_0 := hs12.cellAt 0 rfl 0 rfl
    have k0_1 := hs12.cellAt 0 rfl 1 rfl
    have q1_ := cellL hs12.bel q1
    generalize hasT R.2 [b, a] = H at *
    go_wp2_with fail
    go_ret
    exact ⟨ret_bool HL.out.symm, hs12.bel⟩
  · have hlt2 : i < j := by omega
    have hK := HOK.out.lt hlt2 hj
    have HL := Lib.hid (show leftP ps i j a b = hasT (ps.getD (pidx i j) (0, [])).2 [a, b] by unfold leftP; rw [if_neg hlt])
    obtain ⟨g, o, u0, u1, rfl, q0, q1, hy⟩ := rd_two_at rfl HP.out _ hK
    have hgt : ¬ ((j : Int) < i) := by omega
    have q1_ := cellL (St.start w).bel q1
    clear q1_
    have q1_ := cellL (St.start w).bel q1
    go_wp2_with fail
    refine (l05Index_c i j _ hlt2 (by omega)).mono ?_
    rintro e w13 ⟨rfl, rfl, rfl⟩
    rw [show ps.getD (pidx i j) (0, []) = ps[pidx i j] by simp [List.getD, hK]] at HL
    generalize hKK : pidx i j = K at *
    generalize hR : ps[K] = R at *
    have hyz := rd_cons rfl hy
    have HY := Lib.hid hyz.2
    clear hy hyz hR hKK
    have hKl : (K : Int) < ps.length := by omega
    go_wp2_with fail
    have hs14 := (St.start w).alloc #[.int .i64 a, .int .i64 b] 2 (n := w.heap.size) (by simp)
    clear q1_
    have k0_0 := hs14.cellAt 0 rfl 0 rfl
    have k0_1 := hs14.cellAt 0 rfl 1 rfl
    have q1_ := cellL hs14.bel q1
    go_wp2_with fail
    refine (l01Has_c R [a, b] _ _ _ _ _ (Rd.mono HY.out hs14.bel) (cellL hs14.bel q1) (rd_lit2 HIA.out HIB.out (hs14.cellAt 0 rfl 0 rfl) (hs14.cellAt 0 rfl 1 rfl))).mono ?_
    rintro e w15 ⟨rfl, hbw15⟩
    have hz_w15 : w.heap.size + 1 ≤ w15.heap.size := by have h9 := hbw15.size; (try simp at h9); omega
    have hs16 := hs14.step hbw15
    clear k0_0 k0_1 q1_
    have k0_0 := hs16.cellAt 0 rfl 0 rfl
    have k0_1 := hs16.cellAt 0 rfl 1 rfl
    have q1_ := cellL hs16.bel q1
    generalize hasT R.2 [a, b] = H at *
    go_wp2_with fail
    go_ret
    exact ⟨ret_bool HL.out.symm, hs16.bel⟩

end Go.Proofs.YtllenfkbfeanmaaGreat

