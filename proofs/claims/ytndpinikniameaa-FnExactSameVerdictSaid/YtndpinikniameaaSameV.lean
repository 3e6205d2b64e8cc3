/-
  CONTRACTS: SameVerdict of the program and of the reference. (Printed by wip/gensame.py.)
-/
import Derived.Test.YtndpinikniameaaEqual
namespace Go.Proofs.Ytndpinikniameaa
open Go.RowKit Go.Shelf
open Rep (Rd Own sz)
set_option linter.unusedSimpArgs false
set_option linter.unusedVariables false

theorem drewN_drewN (w : World) (a b : Nat) : (w.drewN a).drewN b = w.drewN (a + b) := by simp
def sameV (x y : Vdct) : Bool := decide (x = y)

set_option maxRecDepth 100000 in
set_option maxHeartbeats 1000000 in
theorem SameVerdict_c (x : Vdct) (v0 v1 v2 v3 v4 : Value) (y : Vdct) (u0 u1 u2 u3 u4 : Value) (w : World) (hx : Rd w [v0, v1, v2, v3, v4] x) (hy : Rd w [u0, u1, u2, u3, u4] y) :
    Calls Try.prog 28 #[.agg #[v0, v1, v2, v3, v4], .agg #[u0, u1, u2, u3, u4]] w fun e w' => e = .returned (.bool (sameV x y)) ∧ Below w.heap.size w w' := by
  unfold sameV
  obtain ⟨x0, x1, x2, x3, x4⟩ := x
  obtain ⟨y0, y1, y2, y3, y4⟩ := y
  have zx0 := rd_cons rfl hx
  obtain ⟨rfl, _⟩ := rd_i1 zx0.1
  have zx1 := rd_cons rfl zx0.2
  have Rx1 := Lib.hid zx1.1
  obtain ⟨ax1, cx1, rfl, sx1⟩ := rd_list Rx1.out
  have Sx1 := Lib.hid sx1
  clear sx1
  have zx2 := rd_cons rfl zx1.2
  have Rx2 := Lib.hid zx2.1
  obtain ⟨ax2, cx2, rfl, sx2⟩ := rd_list Rx2.out
  have Sx2 := Lib.hid sx2
  clear sx2
  have zx3 := rd_cons rfl zx2.2
  have Rx3 := Lib.hid zx3.1
  obtain ⟨ax3, cx3, rfl, sx3⟩ := rd_list Rx3.out
  have Sx3 := Lib.hid sx3
  clear sx3
  have Rx4 := Lib.hid zx3.2
  obtain ⟨ax4, cx4, rfl, sx4⟩ := rd_list Rx4.out
  have Sx4 := Lib.hid sx4
  clear sx4
  clear hx zx0 zx1 zx2 zx3
  have zy0 := rd_cons rfl hy
  obtain ⟨rfl, _⟩ := rd_i1 zy0.1
  have zy1 := rd_cons rfl zy0.2
  have Ry1 := Lib.hid zy1.1
  obtain ⟨ay1, cy1, rfl, sy1⟩ := rd_list Ry1.out
  have Sy1 := Lib.hid sy1
  clear sy1
  have zy2 := rd_cons rfl zy1.2
  have Ry2 := Lib.hid zy2.1
  obtain ⟨ay2, cy2, rfl, sy2⟩ := rd_list Ry2.out
  have Sy2 := Lib.hid sy2
  clear sy2
  have zy3 := rd_cons rfl zy2.2
  have Ry3 := Lib.hid zy3.1
  obtain ⟨ay3, cy3, rfl, sy3⟩ := rd_list Ry3.out
  have Sy3 := Lib.hid sy3
  clear sy3
  have Ry4 := Lib.hid zy3.2
  obtain ⟨ay4, cy4, rfl, sy4⟩ := rd_list Ry4.out
  have Sy4 := Lib.hid sy4
  clear sy4
  clear hy zy0 zy1 zy2 zy3
  have hs := ((St.start w).alloc #[.int .i64 x0, .slice ax1 x1.length cx1, .slice ax2 x2.length cx2, .slice ax3 x3.length cx3, .slice ax4 x4.length cx4] 59 rfl).alloc #[.int .i64 y0, .slice ay1 y1.length cy1, .slice ay2 y2.length cy2, .slice ay3 y3.length cy3, .slice ay4 y4.length cy4] 59 (n := w.heap.size + 1) (by simp)
  go_enter Try.func28, Try.ntmps28
  by_cases E0 : x0 = y0
  rotate_left
  · have hb0 : (x0 == y0) = false := by simpa using E0
    have F := Lib.hid E0
    clear E0
    go_wp2_with fail
    go_ret
    exact ⟨ret_bool (by simp [F.out]), hs.bel⟩
  subst E0
  have hb0 : (x0 == x0) = true := by simp
  go_wp2_with fail
  refine (equalInts_c x1 y1 _ _ _ (Rd.mono Rx1.out hs.bel) (Rd.mono Ry1.out hs.bel)).mono ?_
  rintro e w1 ⟨rfl, hc1⟩
  have hss := hs.step hc1
  by_cases E1 : x1 = y1
  rotate_left
  · rw [decide_eq_false E1]
    have F := Lib.hid E1
    clear E1
    go_wp2_with fail
    go_ret
    exact ⟨ret_bool (by simp [F.out]), hss.bel⟩
  rw [decide_eq_true E1]
  have G1 := Lib.hid E1
  clear E1
  have p0 := hss.cellAt 0 rfl 0 rfl
  have q0 := hss.cellAt 1 rfl 0 rfl
  have p1 := hss.cellAt 0 rfl 1 rfl
  have q1 := hss.cellAt 1 rfl 1 rfl
  have p2 := hss.cellAt 0 rfl 2 rfl
  have q2 := hss.cellAt 1 rfl 2 rfl
  have p3 := hss.cellAt 0 rfl 3 rfl
  have q3 := hss.cellAt 1 rfl 3 rfl
  have p4 := hss.cellAt 0 rfl 4 rfl
  have q4 := hss.cellAt 1 rfl 4 rfl
  go_wp2_with fail
  refine (equalArcs_c x2 y2 _ _ _ (Rd.mono Rx2.out hss.bel) (Rd.mono Ry2.out hss.bel)).mono ?_
  rintro e w2 ⟨rfl, hc2⟩
  have hsss := hss.step hc2
  by_cases E2 : x2 = y2
  rotate_left
  · rw [decide_eq_false E2]
    have F := Lib.hid E2
    clear E2
    go_wp2_with fail
    go_ret
    exact ⟨ret_bool (by simp [F.out]), hsss.bel⟩
  rw [decide_eq_true E2]
  have G2 := Lib.hid E2
  clear E2 p0 q0 p1 q1 p2 q2 p3 q3 p4 q4
  have p0 := hsss.cellAt 0 rfl 0 rfl
  have q0 := hsss.cellAt 1 rfl 0 rfl
  have p1 := hsss.cellAt 0 rfl 1 rfl
  have q1 := hsss.cellAt 1 rfl 1 rfl
  have p2 := hsss.cellAt 0 rfl 2 rfl
  have q2 := hsss.cellAt 1 rfl 2 rfl
  have p3 := hsss.cellAt 0 rfl 3 rfl
  have q3 := hsss.cellAt 1 rfl 3 rfl
  have p4 := hsss.cellAt 0 rfl 4 rfl
  have q4 := hsss.cellAt 1 rfl 4 rfl
  go_wp2_with fail
  refine (equalPairs_c x3 y3 _ _ _ (Rd.mono Rx3.out hsss.bel) (Rd.mono Ry3.out hsss.bel)).mono ?_
  rintro e w3 ⟨rfl, hc3⟩
  have hssss := hsss.step hc3
  by_cases E3 : x3 = y3
  rotate_left
  · rw [decide_eq_false E3]
    have F := Lib.hid E3
    clear E3
    go_wp2_with fail
    go_ret
    exact ⟨ret_bool (by simp [F.out]), hssss.bel⟩
  rw [decide_eq_true E3]
  have G3 := Lib.hid E3
  clear E3 p0 q0 p1 q1 p2 q2 p3 q3 p4 q4
  have p0 := hssss.cellAt 0 rfl 0 rfl
  have q0 := hssss.cellAt 1 rfl 0 rfl
  have p1 := hssss.cellAt 0 rfl 1 rfl
  have q1 := hssss.cellAt 1 rfl 1 rfl
  have p2 := hssss.cellAt 0 rfl 2 rfl
  have q2 := hssss.cellAt 1 rfl 2 rfl
  have p3 := hssss.cellAt 0 rfl 3 rfl
  have q3 := hssss.cellAt 1 rfl 3 rfl
  have p4 := hssss.cellAt 0 rfl 4 rfl
  have q4 := hssss.cellAt 1 rfl 4 rfl
  go_wp2_with fail
  refine (equalInts_c x4 y4 _ _ _ (Rd.mono Rx4.out hssss.bel) (Rd.mono Ry4.out hssss.bel)).mono ?_
  rintro e w4 ⟨rfl, hc4⟩
  have hsssss := hssss.step hc4
  by_cases E4 : x4 = y4
  rotate_left
  · rw [decide_eq_false E4]
    have F := Lib.hid E4
    clear E4
    go_wp2_with fail
    go_ret
    exact ⟨ret_bool (by simp [F.out]), hsssss.bel⟩
  rw [decide_eq_true E4]
  have G4 := Lib.hid E4
  clear E4 p0 q0 p1 q1 p2 q2 p3 q3 p4 q4
  have p0 := hsssss.cellAt 0 rfl 0 rfl
  have q0 := hsssss.cellAt 1 rfl 0 rfl
  have p1 := hsssss.cellAt 0 rfl 1 rfl
  have q1 := hsssss.cellAt 1 rfl 1 rfl
  have p2 := hsssss.cellAt 0 rfl 2 rfl
  have q2 := hsssss.cellAt 1 rfl 2 rfl
  have p3 := hsssss.cellAt 0 rfl 3 rfl
  have q3 := hsssss.cellAt 1 rfl 3 rfl
  have p4 := hsssss.cellAt 0 rfl 4 rfl
  have q4 := hsssss.cellAt 1 rfl 4 rfl
  go_wp2_with fail
  go_ret
  exact ⟨ret_bool (by simp [G1.out, G2.out, G3.out, G4.out]), hsssss.bel⟩

set_option maxRecDepth 100000 in
set_option maxHeartbeats 4000000 in
theorem l06Same_c (x y : Vdct) (b1 b2 : Nat) (v0 v1 v2 v3 v4 u0 u1 u2 u3 u4 : Value) (w : World) (hx : Rd w [v0, v1, v2, v3, v4] x) (hy : Rd w [u0, u1, u2, u3, u4] y)
    (p0 : w.cell? ⟨b1, 0, none⟩ = some v0) (p1 : w.cell? ⟨b1, 1, none⟩ = some v1) (p2 : w.cell? ⟨b1, 2, none⟩ = some v2) (p3 : w.cell? ⟨b1, 3, none⟩ = some v3) (p4 : w.cell? ⟨b1, 4, none⟩ = some v4)
    (q0 : w.cell? ⟨b2, 0, none⟩ = some u0) (q1 : w.cell? ⟨b2, 1, none⟩ = some u1) (q2 : w.cell? ⟨b2, 2, none⟩ = some u2) (q3 : w.cell? ⟨b2, 3, none⟩ = some u3) (q4 : w.cell? ⟨b2, 4, none⟩ = some u4) :
    Calls Try.prog 54 #[.pointer (some ⟨b1, 0, none⟩), .pointer (some ⟨b2, 0, none⟩)] w fun e w' => e = .returned (.bool (sameV x y)) ∧ ∃ n, w' = w.drewN n := by
  unfold sameV
  obtain ⟨x0, x1, x2, x3, x4⟩ := x
  obtain ⟨y0, y1, y2, y3, y4⟩ := y
  have zx0 := rd_cons rfl hx
  obtain ⟨rfl, _⟩ := rd_i1 zx0.1
  have zx1 := rd_cons rfl zx0.2
  have Rx1 := Lib.hid zx1.1
  obtain ⟨ax1, cx1, rfl, sx1⟩ := rd_list Rx1.out
  have Sx1 := Lib.hid sx1
  clear sx1
  have zx2 := rd_cons rfl zx1.2
  have Rx2 := Lib.hid zx2.1
  obtain ⟨ax2, cx2, rfl, sx2⟩ := rd_list Rx2.out
  have Sx2 := Lib.hid sx2
  clear sx2
  have zx3 := rd_cons rfl zx2.2
  have Rx3 := Lib.hid zx3.1
  obtain ⟨ax3, cx3, rfl, sx3⟩ := rd_list Rx3.out
  have Sx3 := Lib.hid sx3
  clear sx3
  have Rx4 := Lib.hid zx3.2
  obtain ⟨ax4, cx4, rfl, sx4⟩ := rd_list Rx4.out
  have Sx4 := Lib.hid sx4
  clear sx4
  clear hx zx0 zx1 zx2 zx3
  have zy0 := rd_cons rfl hy
  obtain ⟨rfl, _⟩ := rd_i1 zy0.1
  have zy1 := rd_cons rfl zy0.2
  have Ry1 := Lib.hid zy1.1
  obtain ⟨ay1, cy1, rfl, sy1⟩ := rd_list Ry1.out
  have Sy1 := Lib.hid sy1
  clear sy1
  have zy2 := rd_cons rfl zy1.2
  have Ry2 := Lib.hid zy2.1
  obtain ⟨ay2, cy2, rfl, sy2⟩ := rd_list Ry2.out
  have Sy2 := Lib.hid sy2
  clear sy2
  have zy3 := rd_cons rfl zy2.2
  have Ry3 := Lib.hid zy3.1
  obtain ⟨ay3, cy3, rfl, sy3⟩ := rd_list Ry3.out
  have Sy3 := Lib.hid sy3
  clear sy3
  have Ry4 := Lib.hid zy3.2
  obtain ⟨ay4, cy4, rfl, sy4⟩ := rd_list Ry4.out
  have Sy4 := Lib.hid sy4
  clear sy4
  clear hy zy0 zy1 zy2 zy3
  have Bx2 : x2.length ≤ maxLen := by obtain ⟨_, _, e, h⟩ := rd_list Rx2.out; exact Nat.le_trans h.1 h.2.1
  have Bx3 : x3.length ≤ maxLen := by obtain ⟨_, _, e, h⟩ := rd_list Rx3.out; exact Nat.le_trans h.1 h.2.1
  have By2 : y2.length ≤ maxLen := by obtain ⟨_, _, e, h⟩ := rd_list Ry2.out; exact Nat.le_trans h.1 h.2.1
  have By3 : y3.length ≤ maxLen := by obtain ⟨_, _, e, h⟩ := rd_list Ry3.out; exact Nat.le_trans h.1 h.2.1
  unfold maxLen at Bx2 Bx3 By2 By3
  go_enter Try.func54, Try.ntmps54
  by_cases E0 : x0 = y0
  rotate_left
  · have hb0 : (x0 != y0) = true := by simpa using E0
    have F := Lib.hid E0
    clear E0
    go_wp2_with fail
    refine wp_region_noPanic (wp_region_el (fun w' => w'.cell? ⟨b1, 0, none⟩ = some (.int .i64 x0) ∧ w'.cell? ⟨b1, 1, none⟩ = some (.slice ax1 x1.length cx1) ∧ w'.cell? ⟨b1, 2, none⟩ = some (.slice ax2 x2.length cx2) ∧ w'.cell? ⟨b1, 3, none⟩ = some (.slice ax3 x3.length cx3) ∧ w'.cell? ⟨b1, 4, none⟩ = some (.slice ax4 x4.length cx4) ∧ w'.cell? ⟨b2, 0, none⟩ = some (.int .i64 y0) ∧ w'.cell? ⟨b2, 1, none⟩ = some (.slice ay1 y1.length cy1) ∧ w'.cell? ⟨b2, 2, none⟩ = some (.slice ay2 y2.length cy2) ∧ w'.cell? ⟨b2, 3, none⟩ = some (.slice ay3 y3.length cy3) ∧ w'.cell? ⟨b2, 4, none⟩ = some (.slice ay4 y4.length cy4)) [(0, 0), (1, 0), (2, 0), (3, 0), (4, 0), (5, 0), (6, 0), (7, 0), (8, 0), (9, 0), (10, 0), (11, 0), (12, 0), (13, 0), (14, 0), (15, 0), (16, 0), (17, 0), (18, 1), (19, 0), (20, 0), (21, 0), (22, 0), (23, 0), (24, 0), (25, 0), (26, 0), (27, 0), (28, 0), (29, 0), (30, 1), (31, 0), (32, 0), (33, 0), (34, 0), (35, 0), (36, 0), (37, 0), (38, 0), (39, 0), (40, 0), (41, 0), (42, 0), (43, 0), (44, 0), (45, 0), (46, 0), (47, 0), (48, 0), (49, 0), (50, 0), (51, 0), (52, 0), (53, 0), (54, 0), (55, 0), (56, 0), (57, 0), (58, 0)] (by kernel_rfl) (by kernel_rfl) (by kernel_rfl) rfl ?_ (fun _ _ _ _ _ h => h) ?_)
    · exact ⟨p0, p1, p2, p3, p4, q0, q1, q2, q3, q4⟩
    (repeat (first | (apply el_skip rfl (by rfl); try simp only [Act.put, List.setIfInBounds_toArray, List.set_cons_zero, List.set_cons_succ]) | (apply el_float rfl (by rfl); (· (intro w' hS; go_simp <;> with_reducible rfl)); (try simp only [Act.put, List.setIfInBounds_toArray, List.set_cons_zero, List.set_cons_succ]))))
    refine el_hard_no rfl (by rfl) ⟨p0, p1, p2, p3, p4, q0, q1, q2, q3, q4⟩ ?_
    (try simp only [Act.put, List.setIfInBounds_toArray, List.set_cons_zero, List.set_cons_succ])
    (repeat (first | (apply el_skip rfl (by rfl); try simp only [Act.put, List.setIfInBounds_toArray, List.set_cons_zero, List.set_cons_succ]) | (apply el_float rfl (by rfl); (· (intro w' hS; go_simp <;> with_reducible rfl)); (try simp only [Act.put, List.setIfInBounds_toArray, List.set_cons_zero, List.set_cons_succ]))))
    refine el_hard_no rfl (by rfl) ⟨p0, p1, p2, p3, p4, q0, q1, q2, q3, q4⟩ ?_
    (try simp only [Act.put, List.setIfInBounds_toArray, List.set_cons_zero, List.set_cons_succ])
    (repeat (first | (apply el_skip rfl (by rfl); try simp only [Act.put, List.setIfInBounds_toArray, List.set_cons_zero, List.set_cons_succ]) | (apply el_float rfl (by rfl); (· (intro w' hS; go_simp <;> with_reducible rfl)); (try simp only [Act.put, List.setIfInBounds_toArray, List.set_cons_zero, List.set_cons_succ]))))
    refine el_nil (NoPanic.normal ?_)
    go_wp2_with fail
    go_ret
    refine ⟨ret_bool ?_, _, rfl⟩
    symm; simp only [decide_eq_false_iff_not]; intro h; simp only [Prod.mk.injEq] at h; exact F.out h.1
  subst E0
  have hb0 : (x0 != x0) = false := by simp
  by_cases E1 : x1 = y1
  rotate_left
  · replace E1 := Lib.hid E1
    go_wp2_with fail
    refine wp_region_noPanic (wp_region_el (fun w' => w'.cell? ⟨b1, 0, none⟩ = some (.int .i64 x0) ∧ w'.cell? ⟨b1, 1, none⟩ = some (.slice ax1 x1.length cx1) ∧ w'.cell? ⟨b1, 2, none⟩ = some (.slice ax2 x2.length cx2) ∧ w'.cell? ⟨b1, 3, none⟩ = some (.slice ax3 x3.length cx3) ∧ w'.cell? ⟨b1, 4, none⟩ = some (.slice ax4 x4.length cx4) ∧ w'.cell? ⟨b2, 0, none⟩ = some (.int .i64 x0) ∧ w'.cell? ⟨b2, 1, none⟩ = some (.slice ay1 y1.length cy1) ∧ w'.cell? ⟨b2, 2, none⟩ = some (.slice ay2 y2.length cy2) ∧ w'.cell? ⟨b2, 3, none⟩ = some (.slice ay3 y3.length cy3) ∧ w'.cell? ⟨b2, 4, none⟩ = some (.slice ay4 y4.length cy4)) [(0, 0), (1, 0), (2, 0), (3, 0), (4, 0), (5, 0), (6, 0), (7, 0), (8, 0), (9, 0), (10, 0), (11, 0), (12, 0), (13, 0), (14, 0), (15, 0), (16, 0), (17, 0), (18, 1), (19, 0), (20, 0), (21, 0), (22, 0), (23, 0), (24, 0), (25, 0), (26, 0), (27, 0), (28, 0), (29, 0), (30, 1), (31, 0), (32, 0), (33, 0), (34, 0), (35, 0), (36, 0), (37, 0), (38, 0), (39, 0), (40, 0), (41, 0), (42, 0), (43, 0), (44, 0), (45, 0), (46, 0), (47, 0), (48, 0), (49, 0), (50, 0), (51, 0), (52, 0), (53, 0), (54, 0), (55, 0), (56, 0), (57, 0), (58, 0)] (by kernel_rfl) (by kernel_rfl) (by kernel_rfl) rfl ?_ (fun _ _ _ _ _ h => h) ?_)
    · exact ⟨p0, p1, p2, p3, p4, q0, q1, q2, q3, q4⟩
    (repeat (first | (apply el_skip rfl (by rfl); try simp only [Act.put, List.setIfInBounds_toArray, List.set_cons_zero, List.set_cons_succ]) | (apply el_float rfl (by rfl); (· (intro w' hS; go_simp <;> with_reducible rfl)); (try simp only [Act.put, List.setIfInBounds_toArray, List.set_cons_zero, List.set_cons_succ]))))
    refine el_hard rfl (by rfl) (fun K hK => ?_)
    go_wp2_with (go_at_call 75; refine (l00Same_c x1 y1 _ _ _ (Rd.mono Rx1.out (drewN_below w _)) (Rd.mono Ry1.out (drewN_below w _))).mono ?_; rintro e w1 ⟨rfl, n1, rfl⟩)
    rw [decide_eq_false E1.out]
    refine ⟨⟨p0, p1, p2, p3, p4, q0, q1, q2, q3, q4⟩, ?_⟩
    (repeat (first | (apply el_skip rfl (by rfl); try simp only [Act.put, List.setIfInBounds_toArray, List.set_cons_zero, List.set_cons_succ]) | (apply el_float rfl (by rfl); (· (intro w' hS; go_simp <;> with_reducible rfl)); (try simp only [Act.put, List.setIfInBounds_toArray, List.set_cons_zero, List.set_cons_succ]))))
    refine el_hard_no rfl (by rfl) ⟨p0, p1, p2, p3, p4, q0, q1, q2, q3, q4⟩ ?_
    (try simp only [Act.put, List.setIfInBounds_toArray, List.set_cons_zero, List.set_cons_succ])
    (repeat (first | (apply el_skip rfl (by rfl); try simp only [Act.put, List.setIfInBounds_toArray, List.set_cons_zero, List.set_cons_succ]) | (apply el_float rfl (by rfl); (· (intro w' hS; go_simp <;> with_reducible rfl)); (try simp only [Act.put, List.setIfInBounds_toArray, List.set_cons_zero, List.set_cons_succ]))))
    refine el_nil (NoPanic.normal ?_)
    go_wp2_with fail
    go_ret
    refine ⟨ret_bool ?_, _, rfl⟩
    symm; simp only [decide_eq_false_iff_not]; intro h; simp only [Prod.mk.injEq] at h; exact E1.out h.2.1
  replace E1 := Lib.hid E1
  by_cases E4 : x4 = y4
  rotate_left
  · replace E4 := Lib.hid E4
    go_wp2_with fail
    refine wp_region_noPanic (wp_region_el (fun w' => w'.cell? ⟨b1, 0, none⟩ = some (.int .i64 x0) ∧ w'.cell? ⟨b1, 1, none⟩ = some (.slice ax1 x1.length cx1) ∧ w'.cell? ⟨b1, 2, none⟩ = some (.slice ax2 x2.length cx2) ∧ w'.cell? ⟨b1, 3, none⟩ = some (.slice ax3 x3.length cx3) ∧ w'.cell? ⟨b1, 4, none⟩ = some (.slice ax4 x4.length cx4) ∧ w'.cell? ⟨b2, 0, none⟩ = some (.int .i64 x0) ∧ w'.cell? ⟨b2, 1, none⟩ = some (.slice ay1 y1.length cy1) ∧ w'.cell? ⟨b2, 2, none⟩ = some (.slice ay2 y2.length cy2) ∧ w'.cell? ⟨b2, 3, none⟩ = some (.slice ay3 y3.length cy3) ∧ w'.cell? ⟨b2, 4, none⟩ = some (.slice ay4 y4.length cy4)) [(0, 0), (1, 0), (2, 0), (3, 0), (4, 0), (5, 0), (6, 0), (7, 0), (8, 0), (9, 0), (10, 0), (11, 0), (12, 0), (13, 0), (14, 0), (15, 0), (16, 0), (17, 0), (18, 1), (19, 0), (20, 0), (21, 0), (22, 0), (23, 0), (24, 0), (25, 0), (26, 0), (27, 0), (28, 0), (29, 0), (30, 1), (31, 0), (32, 0), (33, 0), (34, 0), (35, 0), (36, 0), (37, 0), (38, 0), (39, 0), (40, 0), (41, 0), (42, 0), (43, 0), (44, 0), (45, 0), (46, 0), (47, 0), (48, 0), (49, 0), (50, 0), (51, 0), (52, 0), (53, 0), (54, 0), (55, 0), (56, 0), (57, 0), (58, 0)] (by kernel_rfl) (by kernel_rfl) (by kernel_rfl) rfl ?_ (fun _ _ _ _ _ h => h) ?_)
    · exact ⟨p0, p1, p2, p3, p4, q0, q1, q2, q3, q4⟩
    (repeat (first | (apply el_skip rfl (by rfl); try simp only [Act.put, List.setIfInBounds_toArray, List.set_cons_zero, List.set_cons_succ]) | (apply el_float rfl (by rfl); (· (intro w' hS; go_simp <;> with_reducible rfl)); (try simp only [Act.put, List.setIfInBounds_toArray, List.set_cons_zero, List.set_cons_succ]))))
    refine el_hard rfl (by rfl) (fun K hK => ?_)
    go_wp2_with (go_at_call 75; refine (l00Same_c x1 y1 _ _ _ (Rd.mono Rx1.out (drewN_below w _)) (Rd.mono Ry1.out (drewN_below w _))).mono ?_; rintro e w1 ⟨rfl, n1, rfl⟩)
    rw [decide_eq_true E1.out]
    refine ⟨⟨p0, p1, p2, p3, p4, q0, q1, q2, q3, q4⟩, ?_⟩
    (repeat (first | (apply el_skip rfl (by rfl); try simp only [Act.put, List.setIfInBounds_toArray, List.set_cons_zero, List.set_cons_succ]) | (apply el_float rfl (by rfl); (· (intro w' hS; go_simp <;> with_reducible rfl)); (try simp only [Act.put, List.setIfInBounds_toArray, List.set_cons_zero, List.set_cons_succ]))))
    refine el_hard rfl (by rfl) (fun K hK => ?_)
    go_wp2_with (go_at_call 75; refine (l00Same_c x4 y4 _ _ _ (Rd.mono Rx4.out (drewN_below w _)) (Rd.mono Ry4.out (drewN_below w _))).mono ?_; rintro e w4 ⟨rfl, n4, rfl⟩)
    rw [decide_eq_false E4.out]
    refine ⟨⟨p0, p1, p2, p3, p4, q0, q1, q2, q3, q4⟩, ?_⟩
    (repeat (first | (apply el_skip rfl (by rfl); try simp only [Act.put, List.setIfInBounds_toArray, List.set_cons_zero, List.set_cons_succ]) | (apply el_float rfl (by rfl); (· (intro w' hS; go_simp <;> with_reducible rfl)); (try simp only [Act.put, List.setIfInBounds_toArray, List.set_cons_zero, List.set_cons_succ]))))
    refine el_nil (NoPanic.normal ?_)
    go_wp2_with fail
    go_ret
    refine ⟨ret_bool ?_, _, rfl⟩
    symm; simp only [decide_eq_false_iff_not]; intro h; simp only [Prod.mk.injEq] at h; exact E4.out h.2.2.2.2
  replace E4 := Lib.hid E4
  by_cases D2 : x2.length = y2.length
  rotate_left
  · have hd2 : ((x2.length : Int) != y2.length) = true := by simp; omega
    replace D2 := Lib.hid D2
    go_wp2_with fail
    refine wp_region_noPanic (wp_region_el (fun w' => w'.cell? ⟨b1, 0, none⟩ = some (.int .i64 x0) ∧ w'.cell? ⟨b1, 1, none⟩ = some (.slice ax1 x1.length cx1) ∧ w'.cell? ⟨b1, 2, none⟩ = some (.slice ax2 x2.length cx2) ∧ w'.cell? ⟨b1, 3, none⟩ = some (.slice ax3 x3.length cx3) ∧ w'.cell? ⟨b1, 4, none⟩ = some (.slice ax4 x4.length cx4) ∧ w'.cell? ⟨b2, 0, none⟩ = some (.int .i64 x0) ∧ w'.cell? ⟨b2, 1, none⟩ = some (.slice ay1 y1.length cy1) ∧ w'.cell? ⟨b2, 2, none⟩ = some (.slice ay2 y2.length cy2) ∧ w'.cell? ⟨b2, 3, none⟩ = some (.slice ay3 y3.length cy3) ∧ w'.cell? ⟨b2, 4, none⟩ = some (.slice ay4 y4.length cy4)) [(0, 0), (1, 0), (2, 0), (3, 0), (4, 0), (5, 0), (6, 0), (7, 0), (8, 0), (9, 0), (10, 0), (11, 0), (12, 0), (13, 0), (14, 0), (15, 0), (16, 0), (17, 0), (18, 1), (19, 0), (20, 0), (21, 0), (22, 0), (23, 0), (24, 0), (25, 0), (26, 0), (27, 0), (28, 0), (29, 0), (30, 1), (31, 0), (32, 0), (33, 0), (34, 0), (35, 0), (36, 0), (37, 0), (38, 0), (39, 0), (40, 0), (41, 0), (42, 0), (43, 0), (44, 0), (45, 0), (46, 0), (47, 0), (48, 0), (49, 0), (50, 0), (51, 0), (52, 0), (53, 0), (54, 0), (55, 0), (56, 0), (57, 0), (58, 0)] (by kernel_rfl) (by kernel_rfl) (by kernel_rfl) rfl ?_ (fun _ _ _ _ _ h => h) ?_)
    · exact ⟨p0, p1, p2, p3, p4, q0, q1, q2, q3, q4⟩
    (repeat (first | (apply el_skip rfl (by rfl); try simp only [Act.put, List.setIfInBounds_toArray, List.set_cons_zero, List.set_cons_succ]) | (apply el_float rfl (by rfl); (· (intro w' hS; go_simp <;> with_reducible rfl)); (try simp only [Act.put, List.setIfInBounds_toArray, List.set_cons_zero, List.set_cons_succ]))))
    refine el_hard rfl (by rfl) (fun K hK => ?_)
    go_wp2_with (go_at_call 75; refine (l00Same_c x1 y1 _ _ _ (Rd.mono Rx1.out (drewN_below w _)) (Rd.mono Ry1.out (drewN_below w _))).mono ?_; rintro e w1 ⟨rfl, n1, rfl⟩)
    rw [decide_eq_true E1.out]
    refine ⟨⟨p0, p1, p2, p3, p4, q0, q1, q2, q3, q4⟩, ?_⟩
    (repeat (first | (apply el_skip rfl (by rfl); try simp only [Act.put, List.setIfInBounds_toArray, List.set_cons_zero, List.set_cons_succ]) | (apply el_float rfl (by rfl); (· (intro w' hS; go_simp <;> with_reducible rfl)); (try simp only [Act.put, List.setIfInBounds_toArray, List.set_cons_zero, List.set_cons_succ]))))
    refine el_hard rfl (by rfl) (fun K hK => ?_)
    go_wp2_with (go_at_call 75; refine (l00Same_c x4 y4 _ _ _ (Rd.mono Rx4.out (drewN_below w _)) (Rd.mono Ry4.out (drewN_below w _))).mono ?_; rintro e w4 ⟨rfl, n4, rfl⟩)
    rw [decide_eq_true E4.out]
    refine ⟨⟨p0, p1, p2, p3, p4, q0, q1, q2, q3, q4⟩, ?_⟩
    (repeat (first | (apply el_skip rfl (by rfl); try simp only [Act.put, List.setIfInBounds_toArray, List.set_cons_zero, List.set_cons_succ]) | (apply el_float rfl (by rfl); (· (intro w' hS; go_simp <;> with_reducible rfl)); (try simp only [Act.put, List.setIfInBounds_toArray, List.set_cons_zero, List.set_cons_succ]))))
    refine el_nil (NoPanic.normal ?_)
    go_wp2_with fail
    go_ret
    refine ⟨ret_bool ?_, _, rfl⟩
    symm; simp only [decide_eq_false_iff_not]; intro h; simp only [Prod.mk.injEq] at h; exact D2.out (by rw [h.2.2.1])
  have hd2 : ((x2.length : Int) != y2.length) = false := by simp; omega
  replace D2 := Lib.hid D2
  by_cases D3 : x3.length = y3.length
  rotate_left
  · have hd3 : ((x3.length : Int) != y3.length) = true := by simp; omega
    replace D3 := Lib.hid D3
    go_wp2_with fail
    refine wp_region_noPanic (wp_region_el (fun w' => w'.cell? ⟨b1, 0, none⟩ = some (.int .i64 x0) ∧ w'.cell? ⟨b1, 1, none⟩ = some (.slice ax1 x1.length cx1) ∧ w'.cell? ⟨b1, 2, none⟩ = some (.slice ax2 x2.length cx2) ∧ w'.cell? ⟨b1, 3, none⟩ = some (.slice ax3 x3.length cx3) ∧ w'.cell? ⟨b1, 4, none⟩ = some (.slice ax4 x4.length cx4) ∧ w'.cell? ⟨b2, 0, none⟩ = some (.int .i64 x0) ∧ w'.cell? ⟨b2, 1, none⟩ = some (.slice ay1 y1.length cy1) ∧ w'.cell? ⟨b2, 2, none⟩ = some (.slice ay2 y2.length cy2) ∧ w'.cell? ⟨b2, 3, none⟩ = some (.slice ay3 y3.length cy3) ∧ w'.cell? ⟨b2, 4, none⟩ = some (.slice ay4 y4.length cy4)) [(0, 0), (1, 0), (2, 0), (3, 0), (4, 0), (5, 0), (6, 0), (7, 0), (8, 0), (9, 0), (10, 0), (11, 0), (12, 0), (13, 0), (14, 0), (15, 0), (16, 0), (17, 0), (18, 1), (19, 0), (20, 0), (21, 0), (22, 0), (23, 0), (24, 0), (25, 0), (26, 0), (27, 0), (28, 0), (29, 0), (30, 1), (31, 0), (32, 0), (33, 0), (34, 0), (35, 0), (36, 0), (37, 0), (38, 0), (39, 0), (40, 0), (41, 0), (42, 0), (43, 0), (44, 0), (45, 0), (46, 0), (47, 0), (48, 0), (49, 0), (50, 0), (51, 0), (52, 0), (53, 0), (54, 0), (55, 0), (56, 0), (57, 0), (58, 0)] (by kernel_rfl) (by kernel_rfl) (by kernel_rfl) rfl ?_ (fun _ _ _ _ _ h => h) ?_)
    · exact ⟨p0, p1, p2, p3, p4, q0, q1, q2, q3, q4⟩
    (repeat (first | (apply el_skip rfl (by rfl); try simp only [Act.put, List.setIfInBounds_toArray, List.set_cons_zero, List.set_cons_succ]) | (apply el_float rfl (by rfl); (· (intro w' hS; go_simp <;> with_reducible rfl)); (try simp only [Act.put, List.setIfInBounds_toArray, List.set_cons_zero, List.set_cons_succ]))))
    refine el_hard rfl (by rfl) (fun K hK => ?_)
    go_wp2_with (go_at_call 75; refine (l00Same_c x1 y1 _ _ _ (Rd.mono Rx1.out (drewN_below w _)) (Rd.mono Ry1.out (drewN_below w _))).mono ?_; rintro e w1 ⟨rfl, n1, rfl⟩)
    rw [decide_eq_true E1.out]
    refine ⟨⟨p0, p1, p2, p3, p4, q0, q1, q2, q3, q4⟩, ?_⟩
    (repeat (first | (apply el_skip rfl (by rfl); try simp only [Act.put, List.setIfInBounds_toArray, List.set_cons_zero, List.set_cons_succ]) | (apply el_float rfl (by rfl); (· (intro w' hS; go_simp <;> with_reducible rfl)); (try simp only [Act.put, List.setIfInBounds_toArray, List.set_cons_zero, List.set_cons_succ]))))
    refine el_hard rfl (by rfl) (fun K hK => ?_)
    go_wp2_with (go_at_call 75; refine (l00Same_c x4 y4 _ _ _ (Rd.mono Rx4.out (drewN_below w _)) (Rd.mono Ry4.out (drewN_below w _))).mono ?_; rintro e w4 ⟨rfl, n4, rfl⟩)
    rw [decide_eq_true E4.out]
    refine ⟨⟨p0, p1, p2, p3, p4, q0, q1, q2, q3, q4⟩, ?_⟩
    (repeat (first | (apply el_skip rfl (by rfl); try simp only [Act.put, List.setIfInBounds_toArray, List.set_cons_zero, List.set_cons_succ]) | (apply el_float rfl (by rfl); (· (intro w' hS; go_simp <;> with_reducible rfl)); (try simp only [Act.put, List.setIfInBounds_toArray, List.set_cons_zero, List.set_cons_succ]))))
    refine el_nil (NoPanic.normal ?_)
    go_wp2_with fail
    go_ret
    refine ⟨ret_bool ?_, _, rfl⟩
    symm; simp only [decide_eq_false_iff_not]; intro h; simp only [Prod.mk.injEq] at h; exact D3.out (by rw [h.2.2.2.1])
  have hd3 : ((x3.length : Int) != y3.length) = false := by simp; omega
  replace D3 := Lib.hid D3
  go_wp2_with fail
  refine wp_region_noPanic (wp_region_el (fun w' => w'.cell? ⟨b1, 0, none⟩ = some (.int .i64 x0) ∧ w'.cell? ⟨b1, 1, none⟩ = some (.slice ax1 x1.length cx1) ∧ w'.cell? ⟨b1, 2, none⟩ = some (.slice ax2 x2.length cx2) ∧ w'.cell? ⟨b1, 3, none⟩ = some (.slice ax3 x3.length cx3) ∧ w'.cell? ⟨b1, 4, none⟩ = some (.slice ax4 x4.length cx4) ∧ w'.cell? ⟨b2, 0, none⟩ = some (.int .i64 x0) ∧ w'.cell? ⟨b2, 1, none⟩ = some (.slice ay1 y1.length cy1) ∧ w'.cell? ⟨b2, 2, none⟩ = some (.slice ay2 y2.length cy2) ∧ w'.cell? ⟨b2, 3, none⟩ = some (.slice ay3 y3.length cy3) ∧ w'.cell? ⟨b2, 4, none⟩ = some (.slice ay4 y4.length cy4)) [(0, 0), (1, 0), (2, 0), (3, 0), (4, 0), (5, 0), (6, 0), (7, 0), (8, 0), (9, 0), (10, 0), (11, 0), (12, 0), (13, 0), (14, 0), (15, 0), (16, 0), (17, 0), (18, 1), (19, 0), (20, 0), (21, 0), (22, 0), (23, 0), (24, 0), (25, 0), (26, 0), (27, 0), (28, 0), (29, 0), (30, 1), (31, 0), (32, 0), (33, 0), (34, 0), (35, 0), (36, 0), (37, 0), (38, 0), (39, 0), (40, 0), (41, 0), (42, 0), (43, 0), (44, 0), (45, 0), (46, 0), (47, 0), (48, 0), (49, 0), (50, 0), (51, 0), (52, 0), (53, 0), (54, 0), (55, 0), (56, 0), (57, 0), (58, 0)] (by kernel_rfl) (by kernel_rfl) (by kernel_rfl) rfl ?_ (fun _ _ _ _ _ h => h) ?_)
  · exact ⟨p0, p1, p2, p3, p4, q0, q1, q2, q3, q4⟩
  (repeat (first | (apply el_skip rfl (by rfl); try simp only [Act.put, List.setIfInBounds_toArray, List.set_cons_zero, List.set_cons_succ]) | (apply el_float rfl (by rfl); (· (intro w' hS; go_simp <;> with_reducible rfl)); (try simp only [Act.put, List.setIfInBounds_toArray, List.set_cons_zero, List.set_cons_succ]))))
  refine el_hard rfl (by rfl) (fun K hK => ?_)
  go_wp2_with (go_at_call 75; refine (l00Same_c x1 y1 _ _ _ (Rd.mono Rx1.out (drewN_below w _)) (Rd.mono Ry1.out (drewN_below w _))).mono ?_; rintro e w1 ⟨rfl, n1, rfl⟩)
  rw [decide_eq_true E1.out]
  refine ⟨⟨p0, p1, p2, p3, p4, q0, q1, q2, q3, q4⟩, ?_⟩
  (repeat (first | (apply el_skip rfl (by rfl); try simp only [Act.put, List.setIfInBounds_toArray, List.set_cons_zero, List.set_cons_succ]) | (apply el_float rfl (by rfl); (· (intro w' hS; go_simp <;> with_reducible rfl)); (try simp only [Act.put, List.setIfInBounds_toArray, List.set_cons_zero, List.set_cons_succ]))))
  refine el_hard rfl (by rfl) (fun K hK => ?_)
  go_wp2_with (go_at_call 75; refine (l00Same_c x4 y4 _ _ _ (Rd.mono Rx4.out (drewN_below w _)) (Rd.mono Ry4.out (drewN_below w _))).mono ?_; rintro e w4 ⟨rfl, n4, rfl⟩)
  rw [decide_eq_true E4.out]
  refine ⟨⟨p0, p1, p2, p3, p4, q0, q1, q2, q3, q4⟩, ?_⟩
  (repeat (first | (apply el_skip rfl (by rfl); try simp only [Act.put, List.setIfInBounds_toArray, List.set_cons_zero, List.set_cons_succ]) | (apply el_float rfl (by rfl); (· (intro w' hS; go_simp <;> with_reducible rfl)); (try simp only [Act.put, List.setIfInBounds_toArray, List.set_cons_zero, List.set_cons_succ]))))
  refine el_nil (NoPanic.normal ?_)
  go_wp2_with fail
  go_loopw [5] (fun i wr => ∃ k m : Nat, k ≤ x2.length ∧ i = .int .i64 k ∧ wr = w.drewN m ∧ Hid (x2.take k = y2.take k)) (fun i _ => x2.length - (intOf i).toNat)
  case atStart => exact ⟨0, _, Nat.zero_le _, rfl, rfl, by simp [Hid]⟩
  case round =>
    obtain ⟨k, m, hk, rfl, rfl, hr⟩ := hrel
    by_cases hlt : k < x2.length
    · have k2 : k < y2.length := by rw [← D2.out]; exact hlt
      obtain ⟨e1, o1, u0, u1, u2, rfl, f0, f1, f2, hx⟩ := rdSl_three rfl Sx2.out k hlt
      obtain ⟨e2, o2, t0, t1, t2, rfl, g0, g1, g2, hy⟩ := rdSl_three rfl Sy2.out k k2
      obtain ⟨rfl, _⟩ := rd_i1 (rd_cons rfl hx).1
      obtain ⟨rfl, _⟩ := rd_i1 (rd_cons rfl (rd_cons rfl hx).2).1
      obtain ⟨rfl, _⟩ := rd_i1 (rd_cons rfl (rd_cons rfl hx).2).2
      obtain ⟨rfl, _⟩ := rd_i1 (rd_cons rfl hy).1
      obtain ⟨rfl, _⟩ := rd_i1 (rd_cons rfl (rd_cons rfl hy).2).1
      obtain ⟨rfl, _⟩ := rd_i1 (rd_cons rfl (rd_cons rfl hy).2).2
      clear hx hy
      by_cases he : x2[k] = y2[k]
      · have hg := arcEq_guard
        have hb : ∀ W, (Op.equalIn 10000 94 (.agg #[.int .i64 x2[k].1, .int .i64 x2[k].2.1, .int .i64 x2[k].2.2]) (.agg #[.int .i64 y2[k].1, .int .i64 y2[k].2.1, .int .i64 y2[k].2.2])).run Try.prog W = .ok true W := fun W => by rw [arcEq_eq]; exact congrArg (fun z => Result.ok z W) (decide_eq_true he)
        have HE := Lib.hid he
        clear he
        go_wp2_with fail
        go_quiet (fail)
        go_wp2_with fail
        go_roundw
        case rel => exact ⟨k + 1, _, by omega, by go_num, rfl, take_succG hlt k2 hr.out HE.out⟩
        case measure => simp [intOf]; omega
      · have hg := arcEq_guard
        have hb : ∀ W, (Op.equalIn 10000 94 (.agg #[.int .i64 x2[k].1, .int .i64 x2[k].2.1, .int .i64 x2[k].2.2]) (.agg #[.int .i64 y2[k].1, .int .i64 y2[k].2.1, .int .i64 y2[k].2.2])).run Try.prog W = .ok false W := fun W => by rw [arcEq_eq]; exact congrArg (fun z => Result.ok z W) (decide_eq_false he)
        have HE := Lib.hid he
        clear he
        go_wp2_with fail
        go_quiet (fail)
        go_wp2_with fail
        go_ret
        refine ⟨ret_bool ?_, _, drewN_drewN _ _ _⟩
        symm; simp only [decide_eq_false_iff_not]; intro h; simp only [Prod.mk.injEq] at h; exact ne_getG hlt k2 HE.out h.2.2.1
    · obtain rfl : k = x2.length := by omega
      have T2 := Lib.hid (take_allG rfl D2.out.symm hr.out)
      clear hr
      go_wp2_with fail
      go_loopw [6] (fun i wr => ∃ k m : Nat, k ≤ x3.length ∧ i = .int .i64 k ∧ wr = w.drewN m ∧ Hid (x3.take k = y3.take k)) (fun i _ => x3.length - (intOf i).toNat)
      case atStart => exact ⟨0, _, Nat.zero_le _, rfl, rfl, by simp [Hid]⟩
      case round =>
        obtain ⟨k, m, hk, rfl, rfl, hr⟩ := hrel
        by_cases hlt : k < x3.length
        · have k2 : k < y3.length := by rw [← D3.out]; exact hlt
          obtain ⟨e1, o1, u0, u1, u2, rfl, f0, f1, f2, hx⟩ := rdSl_three rfl Sx3.out k hlt
          obtain ⟨e2, o2, t0, t1, t2, rfl, g0, g1, g2, hy⟩ := rdSl_three rfl Sy3.out k k2
          obtain ⟨rfl, _⟩ := rd_i1 (rd_cons rfl hx).1
          obtain ⟨rfl, _⟩ := rd_i1 (rd_cons rfl (rd_cons rfl hx).2).1
          obtain ⟨rfl, _⟩ := rd_i1 (rd_cons rfl (rd_cons rfl hx).2).2
          obtain ⟨rfl, _⟩ := rd_i1 (rd_cons rfl hy).1
          obtain ⟨rfl, _⟩ := rd_i1 (rd_cons rfl (rd_cons rfl hy).2).1
          obtain ⟨rfl, _⟩ := rd_i1 (rd_cons rfl (rd_cons rfl hy).2).2
          clear hx hy
          by_cases he : x3[k] = y3[k]
          · have hg := pairEq_guard
            have hb : ∀ W, (Op.equalIn 10000 97 (.agg #[.int .i64 x3[k].1, .int .i64 x3[k].2.1, .int .i64 x3[k].2.2]) (.agg #[.int .i64 y3[k].1, .int .i64 y3[k].2.1, .int .i64 y3[k].2.2])).run Try.prog W = .ok true W := fun W => by rw [pairEq_eq]; exact congrArg (fun z => Result.ok z W) (decide_eq_true he)
            have HE := Lib.hid he
            clear he
            go_wp2_with fail
            go_quiet (fail)
            go_wp2_with fail
            go_roundw
            case rel => exact ⟨k + 1, _, by omega, by go_num, rfl, take_succG hlt k2 hr.out HE.out⟩
            case measure => simp [intOf]; omega
          · have hg := pairEq_guard
            have hb : ∀ W, (Op.equalIn 10000 97 (.agg #[.int .i64 x3[k].1, .int .i64 x3[k].2.1, .int .i64 x3[k].2.2]) (.agg #[.int .i64 y3[k].1, .int .i64 y3[k].2.1, .int .i64 y3[k].2.2])).run Try.prog W = .ok false W := fun W => by rw [pairEq_eq]; exact congrArg (fun z => Result.ok z W) (decide_eq_false he)
            have HE := Lib.hid he
            clear he
            go_wp2_with fail
            go_quiet (fail)
            go_wp2_with fail
            go_ret
            refine ⟨ret_bool ?_, _, drewN_drewN _ _ _⟩
            symm; simp only [decide_eq_false_iff_not]; intro h; simp only [Prod.mk.injEq] at h; exact ne_getG hlt k2 HE.out h.2.2.2.1
        · obtain rfl : k = x3.length := by omega
          have T3 := Lib.hid (take_allG rfl D3.out.symm hr.out)
          clear hr
          go_wp2_with fail
          go_ret
          exact ⟨ret_bool (by simp [E1.out, E4.out, T2.out, T3.out]), _, rfl⟩
set_option maxRecDepth 100000 in
set_option maxHeartbeats 1000000 in
theorem sSameVerdict_c (x : Vdct) (v0 v1 v2 v3 v4 : Value) (y : Vdct) (u0 u1 u2 u3 u4 : Value) (w : World) (hx : Rd w [v0, v1, v2, v3, v4] x) (hy : Rd w [u0, u1, u2, u3, u4] y) :
    Calls Try.prog 26 #[.agg #[v0, v1, v2, v3, v4], .agg #[u0, u1, u2, u3, u4]] w fun e w' => e = .returned (.bool (sameV x y)) ∧ Below w.heap.size w w' := by
  have hs := ((St.start w).alloc #[v0, v1, v2, v3, v4] 59 rfl).alloc #[u0, u1, u2, u3, u4] 59 (n := w.heap.size + 1) (by simp)
  go_enter Try.func26, Try.ntmps26
  go_wp2_with fail
  refine (l06Same_c x y _ _ v0 v1 v2 v3 v4 u0 u1 u2 u3 u4 _ (Rd.mono hx hs.bel) (Rd.mono hy hs.bel) (hs.cellAt 0 rfl 0 rfl) (hs.cellAt 0 rfl 1 rfl) (hs.cellAt 0 rfl 2 rfl) (hs.cellAt 0 rfl 3 rfl) (hs.cellAt 0 rfl 4 rfl) (hs.cellAt 1 rfl 0 rfl) (hs.cellAt 1 rfl 1 rfl) (hs.cellAt 1 rfl 2 rfl) (hs.cellAt 1 rfl 3 rfl) (hs.cellAt 1 rfl 4 rfl)).mono ?_
  rintro e w1 ⟨rfl, n, rfl⟩
  go_wp2_with fail
  go_ret
  exact ⟨rfl, (hs.drewN n).bel⟩
end Go.Proofs.Ytndpinikniameaa
