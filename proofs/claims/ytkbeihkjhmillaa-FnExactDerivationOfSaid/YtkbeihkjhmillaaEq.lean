/-
  CONTRACTS of the laws' functions on types: eq. (Printed by wip/gentypes.py.)
-/
import Derived.Test.YtkbeihkjhmillaaTo
import Derived.Test.YtkbeihkjhmillaaRegion
import Derived.Shelf.Abstract
import Derived.Deep.RegionHeld3
namespace Go.Proofs.Ytkbeihkjhmillaa
open Go.RowKit
open Rep (Rd Own sz)
set_option linter.unusedSimpArgs false
set_option linter.unusedVariables false


instance decI3 : DecidableEq (List (Int × Int × Int)) := inferInstance
instance decV4 : DecidableEq (List (Int × Int × Int) × List Int) := instDecidableEqProd
instance decV3 : DecidableEq (List (Int × Int × Int) × List (Int × Int × Int) × List Int) := instDecidableEqProd
instance decV2 : DecidableEq (List Int × List (Int × Int × Int) × List (Int × Int × Int) × List Int) := instDecidableEqProd
instance decV1 : DecidableEq Vdct := instDecidableEqProd
theorem take_succG {α : Type} {l1 l2 : List α} {k : Nat} (h1 : k < l1.length) (h2 : k < l2.length) (h : l1.take k = l2.take k) (e : l1[k] = l2[k]) : l1.take (k + 1) = l2.take (k + 1) := by
  rw [List.take_succ_eq_append_getElem h1, List.take_succ_eq_append_getElem h2, h, e]
theorem ne_getG {α : Type} {l1 l2 : List α} {k : Nat} (h1 : k < l1.length) (h2 : k < l2.length) (e : ¬ l1[k] = l2[k]) : ¬ l1 = l2 := by rintro rfl; exact e rfl
theorem take_allG {α : Type} {l1 l2 : List α} {n : Nat} (h1 : l1.length = n) (h2 : l2.length = n) (h : l1.take n = l2.take n) : l1 = l2 := by
  rwa [List.take_of_length_le (by omega), List.take_of_length_le (by omega)] at h
theorem eqInt64S_b (l1 l2 : List Int) (v1 v2 : Value) (w : World) (r1 : Rd w [v1] l1) (r2 : Rd w [v2] l2) :
    Calls Try.prog 21 #[v1, v2] w fun e w' => e = .returned (.bool (decide (l1 = l2))) ∧ Below w.heap.size w w' :=
  (eqInt64S_c l1 l2 v1 v2 w r1 r2).mono fun e w' ⟨he, n, hw⟩ => ⟨he, hw ▸ drewN_below _ _⟩
set_option maxRecDepth 100000 in
set_option maxHeartbeats 1000000 in
theorem eqInt64SS_b (l1 l2 : List (List Int)) (v1 v2 : Value) (w : World) (r1 : Rd w [v1] l1) (r2 : Rd w [v2] l2) :
    Calls Try.prog 58 #[v1, v2] w fun e w' => e = .returned (.bool (decide (l1 = l2))) ∧ Below w.heap.size w w' := by
  obtain ⟨a1, c1, rfl, h1⟩ := rd_list r1
  obtain ⟨a2, c2, rfl, h2⟩ := rd_list r2
  clear r1 r2
  have b1 := (rdSl_len h1).2
  have b2 := (rdSl_len h2).2
  unfold maxLen at b1 b2
  have G1 := Lib.hid h1
  have G2 := Lib.hid h2
  clear h1 h2
  by_cases hl : l1.length = l2.length
  · generalize hn1 : l1.length = n1 at *
    generalize hn2 : l2.length = n2 at *
    have H1 := Lib.hid hn1
    have H2 := Lib.hid hn2
    clear hn1 hn2
    subst hl
    have hl' : ((n1 : Int) != n1) = false := by simp
    go_enter Try.func58, Try.ntmps58
    go_wp2_with fail
    go_loopw [5] (fun i wr => ∃ k : Nat, k ≤ n1 ∧ i = .int .i64 k ∧ Hid (Below w.heap.size w wr) ∧ Hid (l1.take k = l2.take k)) (fun i _ => n1 - (intOf i).toNat)
    case atStart => exact ⟨0, Nat.zero_le _, rfl, Below.refl _ _, by simp [Hid]⟩
    case round =>
      obtain ⟨k, hk, rfl, hbl, hr⟩ := hrel
      by_cases hlt : k < n1
      · have k1 : k < l1.length := by rw [H1.out]; exact hlt
        have k2 : k < l2.length := by rw [H2.out]; exact hlt
        obtain ⟨b1, o1, u0, rfl, q0, hx⟩ := rdSl_one rfl (rdSl_mono hbl.out G1.out) k k1
        obtain ⟨b2, o2, t0, rfl, p0, hy⟩ := rdSl_one rfl (rdSl_mono hbl.out G2.out) k k2
        have HX := Lib.hid hx
        have HY := Lib.hid hy
        clear hx hy
        by_cases he : l1[k] = l2[k]
        · have HE := Lib.hid he
          clear he
          go_wp2_with fail
          refine wp_region_noPanic (wp_region_el (fun w' => w'.cell? ⟨b1, o1 + k, none⟩ = some u0 ∧ w'.cell? ⟨b2, o2 + k, none⟩ = some t0) [(0, 0), (1, 0), (2, 0), (3, 0), (4, 0), (5, 0), (6, 0), (7, 0), (8, 1), (9, 0)] (by kernel_rfl) (by kernel_rfl) (by kernel_rfl) rfl ?_ (fun _ _ _ _ _ h => h) ?_)
          · exact ⟨q0, p0⟩
          (repeat (first | (apply el_skip rfl (by rfl); try simp only [Act.put, List.setIfInBounds_toArray, List.set_cons_zero, List.set_cons_succ]) | (apply el_float rfl (by rfl); (· (intro w' hS; go_simp <;> with_reducible rfl)); (try simp only [Act.put, List.setIfInBounds_toArray, List.set_cons_zero, List.set_cons_succ]))))
          refine el_hard rfl (by rfl) (fun K hK => ?_)
          go_wp2_with (go_at_call 21; refine (eqInt64S_b l1[k] l2[k] _ _ _ (Rd.mono HX.out (belowD _)) (Rd.mono HY.out (belowD _))).mono ?_; rintro e w1 ⟨rfl, hb1⟩)
          rw [decide_eq_true HE.out]
          refine ⟨⟨cellL hb1 q0, cellL hb1 p0⟩, ?_⟩
          (repeat (first | (apply el_skip rfl (by rfl); try simp only [Act.put, List.setIfInBounds_toArray, List.set_cons_zero, List.set_cons_succ]) | (apply el_float rfl (by rfl); (· (intro w' hS; go_simp <;> with_reducible rfl)); (try simp only [Act.put, List.setIfInBounds_toArray, List.set_cons_zero, List.set_cons_succ]))))
          refine el_nil (NoPanic.normal ?_)
          go_wp2_with fail
          go_roundw
          case rel => exact ⟨k + 1, by omega, by go_num, hbl.out.drew.trans (hb1.mono hbl.out.size), take_succG k1 k2 hr.out HE.out⟩
          case measure => simp [intOf]; omega
        · have HE := Lib.hid he
          clear he
          go_wp2_with fail
          refine wp_region_noPanic (wp_region_el (fun w' => w'.cell? ⟨b1, o1 + k, none⟩ = some u0 ∧ w'.cell? ⟨b2, o2 + k, none⟩ = some t0) [(0, 0), (1, 0), (2, 0), (3, 0), (4, 0), (5, 0), (6, 0), (7, 0), (8, 1), (9, 0)] (by kernel_rfl) (by kernel_rfl) (by kernel_rfl) rfl ?_ (fun _ _ _ _ _ h => h) ?_)
          · exact ⟨q0, p0⟩
          (repeat (first | (apply el_skip rfl (by rfl); try simp only [Act.put, List.setIfInBounds_toArray, List.set_cons_zero, List.set_cons_succ]) | (apply el_float rfl (by rfl); (· (intro w' hS; go_simp <;> with_reducible rfl)); (try simp only [Act.put, List.setIfInBounds_toArray, List.set_cons_zero, List.set_cons_succ]))))
          refine el_hard rfl (by rfl) (fun K hK => ?_)
          go_wp2_with (go_at_call 21; refine (eqInt64S_b l1[k] l2[k] _ _ _ (Rd.mono HX.out (belowD _)) (Rd.mono HY.out (belowD _))).mono ?_; rintro e w1 ⟨rfl, hb1⟩)
          rw [decide_eq_false HE.out]
          refine ⟨⟨cellL hb1 q0, cellL hb1 p0⟩, ?_⟩
          (repeat (first | (apply el_skip rfl (by rfl); try simp only [Act.put, List.setIfInBounds_toArray, List.set_cons_zero, List.set_cons_succ]) | (apply el_float rfl (by rfl); (· (intro w' hS; go_simp <;> with_reducible rfl)); (try simp only [Act.put, List.setIfInBounds_toArray, List.set_cons_zero, List.set_cons_succ]))))
          refine el_nil (NoPanic.normal ?_)
          go_wp2_with fail
          go_ret
          exact ⟨ret_bool (by simp [ne_getG k1 k2 HE.out]), hbl.out.drew.trans (hb1.mono hbl.out.size)⟩
      · obtain rfl : k = n1 := by omega
        go_wp2_with fail
        go_ret
        exact ⟨ret_bool (by simp [take_allG H1.out H2.out hr.out]), hbl.out⟩
  · have hl' : ((l1.length : Int) != l2.length) = true := by simp; omega
    have HL := Lib.hid hl
    clear hl
    go_enter Try.func58, Try.ntmps58
    go_wp2_with fail
    go_ret
    refine ⟨ret_bool ?_, Below.refl _ _⟩
    symm
    simp only [decide_eq_false_iff_not]
    rintro rfl
    exact HL.out rfl
set_option maxRecDepth 100000 in
set_option maxHeartbeats 1000000 in
theorem eqEquation_b (x y : Eqn) (v0 v1 u0 u1 : Value) (w : World) (hx : Rd w [v0, v1] x) (hy : Rd w [u0, u1] y) :
    Calls Try.prog 39 #[.agg #[v0, v1], .agg #[u0, u1]] w fun e w' => e = .returned (.bool (decide (x = y))) ∧ Below w.heap.size w w' := by
  obtain ⟨x0, x1⟩ := x
  obtain ⟨y0, y1⟩ := y
  have tx0 := rd_cons rfl hx
  have Rx0 := Lib.hid tx0.1
  obtain ⟨ax0, cx0, rfl, _⟩ := rd_list Rx0.out
  obtain ⟨rfl, Ix1⟩ := rd_i1 tx0.2
  clear hx tx0
  have ty0 := rd_cons rfl hy
  have Ry0 := Lib.hid ty0.1
  obtain ⟨ay0, cy0, rfl, _⟩ := rd_list Ry0.out
  obtain ⟨rfl, Iy1⟩ := rd_i1 ty0.2
  clear hy ty0
  have hs := ((St.start w).alloc #[.slice ax0 x0.length cx0, .int .i64 x1] 48 rfl).alloc #[.slice ay0 y0.length cy0, .int .i64 y1] 48 (n := w.heap.size + 1) (by simp)
  go_enter Try.func39, Try.ntmps39
  go_wp2_with fail
  refine (eqInt64S_b x0 y0 _ _ _ (Rd.mono Rx0.out hs.bel) (Rd.mono Ry0.out hs.bel)).mono ?_
  rintro e w1 ⟨rfl, hc1⟩
  have hs1 := hs.step hc1
  by_cases E0 : x0 = y0
  rotate_left
  · rw [decide_eq_false E0]
    have F := Lib.hid E0
    clear E0
    go_wp2_with fail
    go_ret
    exact ⟨ret_bool (by simp [F.out]), hs1.bel⟩
  rw [decide_eq_true E0]
  have G0 := Lib.hid E0
  clear E0
  have p0 := hs1.cellAt 0 rfl 0 rfl
  have q0 := hs1.cellAt 1 rfl 0 rfl
  have p1 := hs1.cellAt 0 rfl 1 rfl
  have q1 := hs1.cellAt 1 rfl 1 rfl
  by_cases E1 : x1 = y1
  rotate_left
  · have hb1 : (x1 != y1) = true := by simpa using E1
    have F := Lib.hid E1
    clear E1
    go_wp2_with fail
    go_ret
    exact ⟨ret_bool (by simp [F.out]), hs1.bel⟩
  subst E1
  have hb1 : (x1 != x1) = false := by simp
  go_wp2_with fail
  go_ret
  exact ⟨ret_bool (by simp [G0.out]), hs1.bel⟩
set_option maxRecDepth 100000 in
set_option maxHeartbeats 1000000 in
theorem eqRel_b (x y : RelT) (v0 v1 u0 u1 : Value) (w : World) (hx : Rd w [v0, v1] x) (hy : Rd w [u0, u1] y) :
    Calls Try.prog 48 #[.agg #[v0, v1], .agg #[u0, u1]] w fun e w' => e = .returned (.bool (decide (x = y))) ∧ Below w.heap.size w w' := by
  obtain ⟨x0, x1⟩ := x
  obtain ⟨y0, y1⟩ := y
  have tx0 := rd_cons rfl hx
  obtain ⟨rfl, Ix0⟩ := rd_i1 tx0.1
  have Rx1 := Lib.hid tx0.2
  obtain ⟨ax1, cx1, rfl, _⟩ := rd_list Rx1.out
  clear hx tx0
  have ty0 := rd_cons rfl hy
  obtain ⟨rfl, Iy0⟩ := rd_i1 ty0.1
  have Ry1 := Lib.hid ty0.2
  obtain ⟨ay1, cy1, rfl, _⟩ := rd_list Ry1.out
  clear hy ty0
  have hs := ((St.start w).alloc #[.int .i64 x0, .slice ax1 x1.length cx1] 58 rfl).alloc #[.int .i64 y0, .slice ay1 y1.length cy1] 58 (n := w.heap.size + 1) (by simp)
  go_enter Try.func48, Try.ntmps48
  by_cases E0 : x0 = y0
  rotate_left
  · have hb0 : (x0 != y0) = true := by simpa using E0
    have F := Lib.hid E0
    clear E0
    go_wp2_with fail
    go_ret
    exact ⟨ret_bool (by simp [F.out]), hs.bel⟩
  subst E0
  have hb0 : (x0 != x0) = false := by simp
  go_wp2_with fail
  refine (eqInt64SS_b x1 y1 _ _ _ (Rd.mono Rx1.out hs.bel) (Rd.mono Ry1.out hs.bel)).mono ?_
  rintro e w1 ⟨rfl, hc1⟩
  have hs1 := hs.step hc1
  by_cases E1 : x1 = y1
  rotate_left
  · rw [decide_eq_false E1]
    have F := Lib.hid E1
    clear E1
    go_wp2_with fail
    go_ret
    exact ⟨ret_bool (by simp [F.out]), hs1.bel⟩
  rw [decide_eq_true E1]
  have G1 := Lib.hid E1
  clear E1
  have p0 := hs1.cellAt 0 rfl 0 rfl
  have q0 := hs1.cellAt 1 rfl 0 rfl
  have p1 := hs1.cellAt 0 rfl 1 rfl
  have q1 := hs1.cellAt 1 rfl 1 rfl
  go_wp2_with fail
  go_ret
  exact ⟨ret_bool (by simp [G1.out]), hs1.bel⟩
set_option maxRecDepth 100000 in
set_option maxHeartbeats 1000000 in
theorem eqEquationS_b (l1 l2 : List (Eqn)) (v1 v2 : Value) (w : World) (r1 : Rd w [v1] l1) (r2 : Rd w [v2] l2) :
    Calls Try.prog 71 #[v1, v2] w fun e w' => e = .returned (.bool (decide (l1 = l2))) ∧ Below w.heap.size w w' := by
  obtain ⟨a1, c1, rfl, h1⟩ := rd_list r1
  obtain ⟨a2, c2, rfl, h2⟩ := rd_list r2
  clear r1 r2
  have b1 := (rdSl_len h1).2
  have b2 := (rdSl_len h2).2
  unfold maxLen at b1 b2
  have G1 := Lib.hid h1
  have G2 := Lib.hid h2
  clear h1 h2
  by_cases hl : l1.length = l2.length
  · generalize hn1 : l1.length = n1 at *
    generalize hn2 : l2.length = n2 at *
    have H1 := Lib.hid hn1
    have H2 := Lib.hid hn2
    clear hn1 hn2
    subst hl
    have hl' : ((n1 : Int) != n1) = false := by simp
    go_enter Try.func71, Try.ntmps71
    go_wp2_with fail
    go_loopw [5] (fun i wr => ∃ k : Nat, k ≤ n1 ∧ i = .int .i64 k ∧ Hid (Below w.heap.size w wr) ∧ Hid (l1.take k = l2.take k)) (fun i _ => n1 - (intOf i).toNat)
    case atStart => exact ⟨0, Nat.zero_le _, rfl, Below.refl _ _, by simp [Hid]⟩
    case round =>
      obtain ⟨k, hk, rfl, hbl, hr⟩ := hrel
      by_cases hlt : k < n1
      · have k1 : k < l1.length := by rw [H1.out]; exact hlt
        have k2 : k < l2.length := by rw [H2.out]; exact hlt
        obtain ⟨b1, o1, u0, u1, rfl, q0, q1, hx⟩ := rdSl_two rfl (rdSl_mono hbl.out G1.out) k k1
        obtain ⟨b2, o2, t0, t1, rfl, p0, p1, hy⟩ := rdSl_two rfl (rdSl_mono hbl.out G2.out) k k2
        have HX := Lib.hid hx
        have HY := Lib.hid hy
        clear hx hy
        by_cases he : l1[k] = l2[k]
        · have HE := Lib.hid he
          clear he
          go_wp2_with fail
          refine wp_region_noPanic (wp_region_el (fun w' => w'.cell? ⟨b1, o1 + k * 2, none⟩ = some u0 ∧ w'.cell? ⟨b1, o1 + k * 2 + 1, none⟩ = some u1 ∧ w'.cell? ⟨b2, o2 + k * 2, none⟩ = some t0 ∧ w'.cell? ⟨b2, o2 + k * 2 + 1, none⟩ = some t1) [(0, 0), (1, 0), (2, 0), (3, 0), (4, 0), (5, 0), (6, 0), (7, 0), (8, 1), (9, 0)] (by kernel_rfl) (by kernel_rfl) (by kernel_rfl) rfl ?_ (fun _ _ _ _ _ h => h) ?_)
          · exact ⟨q0, q1, p0, p1⟩
          (repeat (first | (apply el_skip rfl (by rfl); try simp only [Act.put, List.setIfInBounds_toArray, List.set_cons_zero, List.set_cons_succ]) | (apply el_float rfl (by rfl); (· (intro w' hS; go_simp <;> with_reducible rfl)); (try simp only [Act.put, List.setIfInBounds_toArray, List.set_cons_zero, List.set_cons_succ]))))
          refine el_hard rfl (by rfl) (fun K hK => ?_)
          go_wp2_with (go_at_call 39; refine (eqEquation_b l1[k] l2[k] _ _ _ _ _ (Rd.mono HX.out (belowD _)) (Rd.mono HY.out (belowD _))).mono ?_; rintro e w1 ⟨rfl, hb1⟩)
          rw [decide_eq_true HE.out]
          refine ⟨⟨cellL hb1 q0, cellL hb1 q1, cellL hb1 p0, cellL hb1 p1⟩, ?_⟩
          (repeat (first | (apply el_skip rfl (by rfl); try simp only [Act.put, List.setIfInBounds_toArray, List.set_cons_zero, List.set_cons_succ]) | (apply el_float rfl (by rfl); (· (intro w' hS; go_simp <;> with_reducible rfl)); (try simp only [Act.put, List.setIfInBounds_toArray, List.set_cons_zero, List.set_cons_succ]))))
          refine el_nil (NoPanic.normal ?_)
          go_wp2_with fail
          go_roundw
          case rel => exact ⟨k + 1, by omega, by go_num, hbl.out.drew.trans (hb1.mono hbl.out.size), take_succG k1 k2 hr.out HE.out⟩
          case measure => simp [intOf]; omega
        · have HE := Lib.hid he
          clear he
          go_wp2_with fail
          refine wp_region_noPanic (wp_region_el (fun w' => w'.cell? ⟨b1, o1 + k * 2, none⟩ = some u0 ∧ w'.cell? ⟨b1, o1 + k * 2 + 1, none⟩ = some u1 ∧ w'.cell? ⟨b2, o2 + k * 2, none⟩ = some t0 ∧ w'.cell? ⟨b2, o2 + k * 2 + 1, none⟩ = some t1) [(0, 0), (1, 0), (2, 0), (3, 0), (4, 0), (5, 0), (6, 0), (7, 0), (8, 1), (9, 0)] (by kernel_rfl) (by kernel_rfl) (by kernel_rfl) rfl ?_ (fun _ _ _ _ _ h => h) ?_)
          · exact ⟨q0, q1, p0, p1⟩
          (repeat (first | (apply el_skip rfl (by rfl); try simp only [Act.put, List.setIfInBounds_toArray, List.set_cons_zero, List.set_cons_succ]) | (apply el_float rfl (by rfl); (· (intro w' hS; go_simp <;> with_reducible rfl)); (try simp only [Act.put, List.setIfInBounds_toArray, List.set_cons_zero, List.set_cons_succ]))))
          refine el_hard rfl (by rfl) (fun K hK => ?_)
          go_wp2_with (go_at_call 39; refine (eqEquation_b l1[k] l2[k] _ _ _ _ _ (Rd.mono HX.out (belowD _)) (Rd.mono HY.out (belowD _))).mono ?_; rintro e w1 ⟨rfl, hb1⟩)
          rw [decide_eq_false HE.out]
          refine ⟨⟨cellL hb1 q0, cellL hb1 q1, cellL hb1 p0, cellL hb1 p1⟩, ?_⟩
          (repeat (first | (apply el_skip rfl (by rfl); try simp only [Act.put, List.setIfInBounds_toArray, List.set_cons_zero, List.set_cons_succ]) | (apply el_float rfl (by rfl); (· (intro w' hS; go_simp <;> with_reducible rfl)); (try simp only [Act.put, List.setIfInBounds_toArray, List.set_cons_zero, List.set_cons_succ]))))
          refine el_nil (NoPanic.normal ?_)
          go_wp2_with fail
          go_ret
          exact ⟨ret_bool (by simp [ne_getG k1 k2 HE.out]), hbl.out.drew.trans (hb1.mono hbl.out.size)⟩
      · obtain rfl : k = n1 := by omega
        go_wp2_with fail
        go_ret
        exact ⟨ret_bool (by simp [take_allG H1.out H2.out hr.out]), hbl.out⟩
  · have hl' : ((l1.length : Int) != l2.length) = true := by simp; omega
    have HL := Lib.hid hl
    clear hl
    go_enter Try.func71, Try.ntmps71
    go_wp2_with fail
    go_ret
    refine ⟨ret_bool ?_, Below.refl _ _⟩
    symm
    simp only [decide_eq_false_iff_not]
    rintro rfl
    exact HL.out rfl
set_option maxRecDepth 100000 in
set_option maxHeartbeats 1000000 in
theorem eqSystem_b (x y : Sys) (v0 v1 v2 u0 u1 u2 : Value) (w : World) (hx : Rd w [v0, v1, v2] x) (hy : Rd w [u0, u1, u2] y) :
    Calls Try.prog 20 #[.agg #[v0, v1, v2], .agg #[u0, u1, u2]] w fun e w' => e = .returned (.bool (decide (x = y))) ∧ Below w.heap.size w w' := by
  obtain ⟨x0, x1, x2⟩ := x
  obtain ⟨y0, y1, y2⟩ := y
  have tx0 := rd_cons rfl hx
  obtain ⟨rfl, Ix0⟩ := rd_i1 tx0.1
  have tx1 := rd_cons rfl tx0.2
  obtain ⟨rfl, Ix1⟩ := rd_i1 tx1.1
  have Rx2 := Lib.hid tx1.2
  obtain ⟨ax2, cx2, rfl, _⟩ := rd_list Rx2.out
  clear hx tx0 tx1
  have ty0 := rd_cons rfl hy
  obtain ⟨rfl, Iy0⟩ := rd_i1 ty0.1
  have ty1 := rd_cons rfl ty0.2
  obtain ⟨rfl, Iy1⟩ := rd_i1 ty1.1
  have Ry2 := Lib.hid ty1.2
  obtain ⟨ay2, cy2, rfl, _⟩ := rd_list Ry2.out
  clear hy ty0 ty1
  have hs := ((St.start w).alloc #[.int .i64 x0, .int .i64 x1, .slice ax2 x2.length cx2] 31 rfl).alloc #[.int .i64 y0, .int .i64 y1, .slice ay2 y2.length cy2] 31 (n := w.heap.size + 1) (by simp)
  go_enter Try.func20, Try.ntmps20
  by_cases E0 : x0 = y0
  rotate_left
  · have hb0 : (x0 != y0) = true := by simpa using E0
    have F := Lib.hid E0
    clear E0
    go_wp2_with fail
    go_ret
    exact ⟨ret_bool (by simp [F.out]), hs.bel⟩
  subst E0
  have hb0 : (x0 != x0) = false := by simp
  by_cases E1 : x1 = y1
  rotate_left
  · have hb1 : (x1 != y1) = true := by simpa using E1
    have F := Lib.hid E1
    clear E1
    go_wp2_with fail
    go_ret
    exact ⟨ret_bool (by simp [F.out]), hs.bel⟩
  subst E1
  have hb1 : (x1 != x1) = false := by simp
  go_wp2_with fail
  refine (eqEquationS_b x2 y2 _ _ _ (Rd.mono Rx2.out hs.bel) (Rd.mono Ry2.out hs.bel)).mono ?_
  rintro e w1 ⟨rfl, hc1⟩
  have hs1 := hs.step hc1
  by_cases E2 : x2 = y2
  rotate_left
  · rw [decide_eq_false E2]
    have F := Lib.hid E2
    clear E2
    go_wp2_with fail
    go_ret
    exact ⟨ret_bool (by simp [F.out]), hs1.bel⟩
  rw [decide_eq_true E2]
  have G2 := Lib.hid E2
  clear E2
  have p0 := hs1.cellAt 0 rfl 0 rfl
  have q0 := hs1.cellAt 1 rfl 0 rfl
  have p1 := hs1.cellAt 0 rfl 1 rfl
  have q1 := hs1.cellAt 1 rfl 1 rfl
  have p2 := hs1.cellAt 0 rfl 2 rfl
  have q2 := hs1.cellAt 1 rfl 2 rfl
  go_wp2_with fail
  go_ret
  exact ⟨ret_bool (by simp [G2.out]), hs1.bel⟩
theorem eqInt64S_s (x : List Int) (v0 u0 : Value) (w : World) (hx : Rd w [v0] x) (hy : Rd w [u0] x) :
    Calls Try.prog 21 #[v0, u0] w fun e w' => e = .returned (.bool true) ∧ Below w.heap.size w w' :=
  (eqInt64S_b x x v0 u0 w hx hy).mono fun e w' ⟨he, hb⟩ => ⟨by rw [he]; simp, hb⟩
theorem eqInt64SS_s (x : List (List Int)) (v0 u0 : Value) (w : World) (hx : Rd w [v0] x) (hy : Rd w [u0] x) :
    Calls Try.prog 58 #[v0, u0] w fun e w' => e = .returned (.bool true) ∧ Below w.heap.size w w' :=
  (eqInt64SS_b x x v0 u0 w hx hy).mono fun e w' ⟨he, hb⟩ => ⟨by rw [he]; simp, hb⟩
theorem eqEquation_s (x : Eqn) (v0 v1 u0 u1 : Value) (w : World) (hx : Rd w [v0, v1] x) (hy : Rd w [u0, u1] x) :
    Calls Try.prog 39 #[.agg #[v0, v1], .agg #[u0, u1]] w fun e w' => e = .returned (.bool true) ∧ Below w.heap.size w w' :=
  (eqEquation_b x x v0 v1 u0 u1 w hx hy).mono fun e w' ⟨he, hb⟩ => ⟨by rw [he]; simp, hb⟩
theorem eqRel_s (x : RelT) (v0 v1 u0 u1 : Value) (w : World) (hx : Rd w [v0, v1] x) (hy : Rd w [u0, u1] x) :
    Calls Try.prog 48 #[.agg #[v0, v1], .agg #[u0, u1]] w fun e w' => e = .returned (.bool true) ∧ Below w.heap.size w w' :=
  (eqRel_b x x v0 v1 u0 u1 w hx hy).mono fun e w' ⟨he, hb⟩ => ⟨by rw [he]; simp, hb⟩
theorem eqEquationS_s (x : List (Eqn)) (v0 u0 : Value) (w : World) (hx : Rd w [v0] x) (hy : Rd w [u0] x) :
    Calls Try.prog 71 #[v0, u0] w fun e w' => e = .returned (.bool true) ∧ Below w.heap.size w w' :=
  (eqEquationS_b x x v0 u0 w hx hy).mono fun e w' ⟨he, hb⟩ => ⟨by rw [he]; simp, hb⟩
theorem eqSystem_s (x : Sys) (v0 v1 v2 u0 u1 u2 : Value) (w : World) (hx : Rd w [v0, v1, v2] x) (hy : Rd w [u0, u1, u2] x) :
    Calls Try.prog 20 #[.agg #[v0, v1, v2], .agg #[u0, u1, u2]] w fun e w' => e = .returned (.bool true) ∧ Below w.heap.size w w' :=
  (eqSystem_b x x v0 v1 v2 u0 u1 u2 w hx hy).mono fun e w' ⟨he, hb⟩ => ⟨by rw [he]; simp, hb⟩

end Go.Proofs.Ytkbeihkjhmillaa
