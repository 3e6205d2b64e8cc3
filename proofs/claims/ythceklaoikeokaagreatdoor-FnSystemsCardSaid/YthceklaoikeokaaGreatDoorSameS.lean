/-
  CONTRACTS: SameSystem of the program and of the reference.
-/
import Derived.Test.YthceklaoikeokaaGreatDoorRowsB
namespace Go.Proofs.YthceklaoikeokaaGreatDoor
open Go.RowKit Go.Shelf
open Rep (Rd Own sz)
set_option linter.unusedSimpArgs false
set_option linter.unusedVariables false

def sameS (x y : Sys) : Bool := decide (x = y)
set_option maxRecDepth 100000 in
set_option maxHeartbeats 1000000 in
theorem sameEquation_c (x y : Eqn) (v0 v1 u0 u1 : Value) (w : World) (hx : Rd w [v0, v1] x) (hy : Rd w [u0, u1] y) :
    Calls Tryz.prog 59 #[.agg #[v0, v1], .agg #[u0, u1]] w fun e w' => e = .returned (.bool (decide (x = y))) ∧ Below w.heap.size w w' := by
  obtain ⟨l, n⟩ := x
  obtain ⟨k, m⟩ := y
  have z := rd_cons rfl hx
  have RL := Lib.hid z.1
  obtain ⟨a, c, rfl, _⟩ := rd_list RL.out
  obtain ⟨rfl, _⟩ := rd_i1 z.2
  have z' := rd_cons rfl hy
  have RK := Lib.hid z'.1
  obtain ⟨a', c', rfl, _⟩ := rd_list RK.out
  obtain ⟨rfl, _⟩ := rd_i1 z'.2
  clear hx z hy z'
  have hs := ((St.start w).alloc #[.slice a l.length c, .int .i64 n] 73 rfl).alloc #[.slice a' k.length c', .int .i64 m] 73 (n := w.heap.size + 1) (by simp)
  go_enter Tryz.func59, Tryz.ntmps59
  go_wp2_with fail
  refine (equalInts_c l k _ _ _ (Rd.mono RL.out hs.bel) (Rd.mono RK.out hs.bel)).mono ?_
  rintro e w1 ⟨rfl, hb1⟩
  have hs1 := hs.step hb1
  have p0 := hs1.cellAt 0 rfl 0 rfl
  have p1 := hs1.cellAt 0 rfl 1 rfl
  have q0 := hs1.cellAt 1 rfl 0 rfl
  have q1 := hs1.cellAt 1 rfl 1 rfl
  by_cases E0 : l = k
  rotate_left
  · rw [decide_eq_false E0]
    have F := Lib.hid E0
    clear E0
    go_wp2_with fail
    go_ret
    exact ⟨ret_bool (by simp [F.out]), hs1.bel⟩
  rw [decide_eq_true E0]
  have G := Lib.hid E0
  clear E0
  by_cases E1 : n = m
  · have hb : (n == m) = true := by simpa using E1
    have F := Lib.hid E1
    clear E1
    go_wp2_with fail
    go_ret
    exact ⟨ret_bool (by simp [F.out, G.out]), hs1.bel⟩
  · have hb : (n == m) = false := by simpa using E1
    have F := Lib.hid E1
    clear E1
    go_wp2_with fail
    go_ret
    exact ⟨ret_bool (by simp [F.out]), hs1.bel⟩
set_option maxRecDepth 100000 in
set_option maxHeartbeats 1000000 in
theorem equalFuncEqns_c (l1 l2 : List Eqn) (v1 v2 : Value) (w : World) (r1 : Rd w [v1] l1) (r2 : Rd w [v2] l2) :
    Calls Tryz.prog 58 #[v1, v2, .func (.func 59) #[] #[]] w fun e w' => e = .returned (.bool (decide (l1 = l2))) ∧ Below w.heap.size w w' := by
  have eg : ∀ args w, (callFunc 59 args).run Tryz.prog w = .ok (.enter 59 args) w := enters_of Tryz.func59 (by kernel_rfl) rfl
  obtain ⟨a1, c1, rfl, h1⟩ := rd_list r1
  obtain ⟨a2, c2, rfl, h2⟩ := rd_list r2
  clear r1 r2
  have b1 := (rdSl_len h1).2
  have b2 := (rdSl_len h2).2
  unfold maxLen at b1 b2
  have G1 := Lib.hid h1
  have G2 := Lib.hid h2
  clear h1 h2
  by_cases hl : l1.length = l2.length
  · generalize hn1 : l1.length = n1 at *
    generalize hn2 : l2.length = n2 at *
    have H1 := Lib.hid hn1
    have H2 := Lib.hid hn2
    clear hn1 hn2
    subst hl
    have hl' : ((n1 : Int) != n1) = false := by simp
    go_enter Tryz.func58, Tryz.ntmps58
    go_wp2_with fail
    go_loopw [17] (fun i wr => ∃ k : Nat, k ≤ n1 ∧ i = .int .i64 k ∧ Hid (Below w.heap.size w wr) ∧ Hid (l1.take k = l2.take k)) (fun i _ => n1 - (intOf i).toNat)
    case atStart => exact ⟨0, Nat.zero_le _, rfl, Below.refl _ _, by simp [Hid]⟩
    case round =>
      obtain ⟨k, hk, rfl, hbl, hr⟩ := hrel
      by_cases hlt : k < n1
      · have k1 : k < l1.length := by rw [H1.out]; exact hlt
        have k2 : k < l2.length := by rw [H2.out]; exact hlt
        obtain ⟨b1, o1, u0, u1, rfl, q0, q1, hx⟩ := rdSl_two rfl (rdSl_mono hbl.out G1.out) k k1
        obtain ⟨b2, o2, t0, t1, rfl, p0, p1, hy⟩ := rdSl_two rfl (rdSl_mono hbl.out G2.out) k k2
        have zx := rd_cons rfl hx
        obtain ⟨ax, cx, rfl, _⟩ := rd_list zx.1
        obtain ⟨rfl, _⟩ := rd_i1 zx.2
        have zy := rd_cons rfl hy
        obtain ⟨ay, cy, rfl, _⟩ := rd_list zy.1
        obtain ⟨rfl, _⟩ := rd_i1 zy.2
        have HX := Lib.hid hx
        have HY := Lib.hid hy
        clear hx hy zx zy
        have hs := ((St.start wr).alloc #[.slice ax l1[k].1.length cx, .int .i64 l1[k].2] 73 rfl).alloc #[.slice ay l2[k].1.length cy, .int .i64 l2[k].2] 73 (n := wr.heap.size + 1) (by simp)
        have p0' := cellL (belowA wr (.cells #[.slice ax l1[k].1.length cx, .int .i64 l1[k].2] 73)) p0
        have p1' := cellL (belowA wr (.cells #[.slice ax l1[k].1.length cx, .int .i64 l1[k].2] 73)) p1
        have r0 := hs.cellAt 0 rfl 0 rfl
        have r1 := hs.cellAt 0 rfl 1 rfl
        have s0 := hs.cellAt 1 rfl 0 rfl
        have s1 := hs.cellAt 1 rfl 1 rfl
        go_wp2_with fail
        refine (sameEquation_c l1[k] l2[k] _ _ _ _ _ (Rd.mono HX.out hs.bel) (Rd.mono HY.out hs.bel)).mono ?_
        rintro e w1 ⟨rfl, hb1⟩
        have hB := hbl.out.trans ((hs.step hb1).bel.mono hbl.out.size)
        by_cases he : l1[k] = l2[k]
        · rw [decide_eq_true he]
          have HE := Lib.hid he
          clear he
          go_wp2_with fail
          go_roundw
          case rel => exact ⟨k + 1, by omega, by go_num, hB, take_succG k1 k2 hr.out HE.out⟩
          case measure => simp [intOf]; omega
        · rw [decide_eq_false he]
          have HE := Lib.hid he
          clear he
          go_wp2_with fail
          go_ret
          exact ⟨ret_bool (by simp [ne_getG k1 k2 HE.out]), hB⟩
      · obtain rfl : k = n1 := by omega
        go_wp2_with fail
        go_ret
        exact ⟨ret_bool (by simp [take_allG H1.out H2.out hr.out]), hbl.out⟩
  · have hl' : ((l1.length : Int) != l2.length) = true := by simp; omega
    have HL := Lib.hid hl
    clear hl
    go_enter Tryz.func58, Tryz.ntmps58
    go_wp2_with fail
    go_ret
    refine ⟨ret_bool ?_, Below.refl _ _⟩
    symm
    simp only [decide_eq_false_iff_not]
    rintro rfl
    exact HL.out rfl
set_option maxRecDepth 100000 in
set_option maxHeartbeats 1000000 in
theorem SameSystem_c (x : Sys) (v0 v1 v2 : Value) (y : Sys) (u0 u1 u2 : Value) (w : World) (hx : Rd w [v0, v1, v2] x) (hy : Rd w [u0, u1, u2] y) :
    Calls Tryz.prog 22 #[.agg #[v0, v1, v2], .agg #[u0, u1, u2]] w fun e w' => e = .returned (.bool (sameS x y)) ∧ Below w.heap.size w w' := by
  unfold sameS
  obtain ⟨x0, x1, x2⟩ := x
  obtain ⟨y0, y1, y2⟩ := y
  have z := rd_cons rfl hx
  obtain ⟨rfl, _⟩ := rd_i1 z.1
  have z2 := rd_cons rfl z.2
  obtain ⟨rfl, _⟩ := rd_i1 z2.1
  have RX := Lib.hid z2.2
  obtain ⟨ax, cx, rfl, _⟩ := rd_list RX.out
  have s := rd_cons rfl hy
  obtain ⟨rfl, _⟩ := rd_i1 s.1
  have s2 := rd_cons rfl s.2
  obtain ⟨rfl, _⟩ := rd_i1 s2.1
  have RY := Lib.hid s2.2
  obtain ⟨ay, cy, rfl, _⟩ := rd_list RY.out
  clear hx hy z z2 s s2
  have hs := ((St.start w).alloc #[.int .i64 x0, .int .i64 x1, .slice ax x2.length cx] 26 rfl).alloc #[.int .i64 y0, .int .i64 y1, .slice ay y2.length cy] 26 (n := w.heap.size + 1) (by simp)
  go_enter Tryz.func22, Tryz.ntmps22
  by_cases E0 : x0 = y0
  rotate_left
  · have hb0 : (x0 == y0) = false := by simpa using E0
    have F := Lib.hid E0
    clear E0
    go_wp2_with fail
    go_ret
    exact ⟨ret_bool (by simp [F.out]), hs.bel⟩
  subst E0
  have hb0 : (x0 == x0) = true := by simp
  by_cases E1 : x1 = y1
  rotate_left
  · have hb1 : (x1 == y1) = false := by simpa using E1
    have F := Lib.hid E1
    clear E1
    go_wp2_with fail
    go_ret
    exact ⟨ret_bool (by simp [F.out]), hs.bel⟩
  subst E1
  have hb1 : (x1 == x1) = true := by simp
  go_wp2_with fail
  refine (equalFuncEqns_c x2 y2 _ _ _ (Rd.mono RX.out hs.bel) (Rd.mono RY.out hs.bel)).mono ?_
  rintro e w1 ⟨rfl, hb1⟩
  go_wp2_with fail
  go_ret
  exact ⟨ret_bool (by simp), (hs.step hb1).bel⟩
set_option maxRecDepth 100000 in
set_option maxHeartbeats 4000000 in
theorem l07Same_c (x y : Sys) (b1 b2 : Nat) (v0 v1 v2 u0 u1 u2 : Value) (w : World) (hx : Rd w [v0, v1, v2] x) (hy : Rd w [u0, u1, u2] y)
    (p0 : w.cell? ⟨b1, 0, none⟩ = some v0) (p1 : w.cell? ⟨b1, 1, none⟩ = some v1) (p2 : w.cell? ⟨b1, 2, none⟩ = some v2) (q0 : w.cell? ⟨b2, 0, none⟩ = some u0) (q1 : w.cell? ⟨b2, 1, none⟩ = some u1) (q2 : w.cell? ⟨b2, 2, none⟩ = some u2) :
    Calls Tryz.prog 44 #[.pointer (some ⟨b1, 0, none⟩), .pointer (some ⟨b2, 0, none⟩)] w fun e w' => e = .returned (.bool (sameS x y)) ∧ ∃ n, w' = w.drewN n := by
  unfold sameS
  obtain ⟨x0, x1, x2⟩ := x
  obtain ⟨y0, y1, y2⟩ := y
  have z := rd_cons rfl hx
  obtain ⟨rfl, _⟩ := rd_i1 z.1
  have z2 := rd_cons rfl z.2
  obtain ⟨rfl, _⟩ := rd_i1 z2.1
  obtain ⟨ax, cx, rfl, hrx⟩ := rd_list z2.2
  have s := rd_cons rfl hy
  obtain ⟨rfl, _⟩ := rd_i1 s.1
  have s2 := rd_cons rfl s.2
  obtain ⟨rfl, _⟩ := rd_i1 s2.1
  obtain ⟨ay, cy, rfl, hry⟩ := rd_list s2.2
  have bx := (rdSl_len hrx).2
  have by_ := (rdSl_len hry).2
  unfold maxLen at bx by_
  have SX := Lib.hid hrx
  have SY := Lib.hid hry
  clear hx hy z z2 s s2 hrx hry
  go_enter Tryz.func44, Tryz.ntmps44
  by_cases E0 : x0 = y0
  rotate_left
  · have hb0 : (x0 != y0) = true := by simpa using E0
    have F := Lib.hid E0
    clear E0
    go_wp2_with fail
    refine wp_region_noPanic (wp_region_el (fun w' => w'.cell? ⟨b1, 0, none⟩ = some (.int .i64 x0) ∧ w'.cell? ⟨b1, 1, none⟩ = some (.int .i64 x1) ∧ w'.cell? ⟨b1, 2, none⟩ = some (.slice ax x2.length cx) ∧ w'.cell? ⟨b2, 0, none⟩ = some (.int .i64 y0) ∧ w'.cell? ⟨b2, 1, none⟩ = some (.int .i64 y1) ∧ w'.cell? ⟨b2, 2, none⟩ = some (.slice ay y2.length cy)) [(0, 0), (1, 0), (2, 0), (3, 0), (4, 0), (5, 0), (6, 0), (7, 0), (8, 0), (9, 0), (10, 0), (11, 0), (12, 0), (13, 0), (14, 0), (15, 0), (16, 0), (17, 0), (18, 0), (19, 0), (20, 0), (21, 0), (22, 0), (23, 0), (24, 0), (25, 0), (26, 0), (27, 0), (28, 0), (29, 0), (30, 0), (31, 0), (32, 0)] (by kernel_rfl) (by kernel_rfl) (by kernel_rfl) rfl ?_ (fun _ _ _ _ _ h => h) ?_)
    · exact ⟨p0, p1, p2, q0, q1, q2⟩
    (repeat (first | (apply el_skip rfl (by rfl); try simp only [Act.put, List.setIfInBounds_toArray, List.set_cons_zero, List.set_cons_succ]) | (apply el_float rfl (by rfl); (· (intro w' hS; go_simp <;> with_reducible rfl)); (try simp only [Act.put, List.setIfInBounds_toArray, List.set_cons_zero, List.set_cons_succ]))))
    refine el_nil (NoPanic.normal ?_)
    go_wp2_with fail
    go_ret
    refine ⟨ret_bool ?_, 1, rfl⟩
    symm; simp only [decide_eq_false_iff_not]; intro h; simp only [Prod.mk.injEq] at h; exact F.out h.1
  subst E0
  have hb0 : (x0 != x0) = false := by simp
  by_cases E1 : x1 = y1
  rotate_left
  · have hb1 : (x1 != y1) = true := by simpa using E1
    have F := Lib.hid E1
    clear E1
    go_wp2_with fail
    refine wp_region_noPanic (wp_region_el (fun w' => w'.cell? ⟨b1, 0, none⟩ = some (.int .i64 x0) ∧ w'.cell? ⟨b1, 1, none⟩ = some (.int .i64 x1) ∧ w'.cell? ⟨b1, 2, none⟩ = some (.slice ax x2.length cx) ∧ w'.cell? ⟨b2, 0, none⟩ = some (.int .i64 x0) ∧ w'.cell? ⟨b2, 1, none⟩ = some (.int .i64 y1) ∧ w'.cell? ⟨b2, 2, none⟩ = some (.slice ay y2.length cy)) [(0, 0), (1, 0), (2, 0), (3, 0), (4, 0), (5, 0), (6, 0), (7, 0), (8, 0), (9, 0), (10, 0), (11, 0), (12, 0), (13, 0), (14, 0), (15, 0), (16, 0), (17, 0), (18, 0), (19, 0), (20, 0), (21, 0), (22, 0), (23, 0), (24, 0), (25, 0), (26, 0), (27, 0), (28, 0), (29, 0), (30, 0), (31, 0), (32, 0)] (by kernel_rfl) (by kernel_rfl) (by kernel_rfl) rfl ?_ (fun _ _ _ _ _ h => h) ?_)
    · exact ⟨p0, p1, p2, q0, q1, q2⟩
    (repeat (first | (apply el_skip rfl (by rfl); try simp only [Act.put, List.setIfInBounds_toArray, List.set_cons_zero, List.set_cons_succ]) | (apply el_float rfl (by rfl); (· (intro w' hS; go_simp <;> with_reducible rfl)); (try simp only [Act.put, List.setIfInBounds_toArray, List.set_cons_zero, List.set_cons_succ]))))
    refine el_nil (NoPanic.normal ?_)
    go_wp2_with fail
    go_ret
    refine ⟨ret_bool ?_, 1, rfl⟩
    symm; simp only [decide_eq_false_iff_not]; intro h; simp only [Prod.mk.injEq] at h; exact F.out h.2.1
  subst E1
  have hb1 : (x1 != x1) = false := by simp
  by_cases E2 : x2.length = y2.length
  rotate_left
  · have hb2 : ((x2.length : Int) != y2.length) = true := by simp; omega
    have F := Lib.hid E2
    clear E2
    go_wp2_with fail
    refine wp_region_noPanic (wp_region_el (fun w' => w'.cell? ⟨b1, 0, none⟩ = some (.int .i64 x0) ∧ w'.cell? ⟨b1, 1, none⟩ = some (.int .i64 x1) ∧ w'.cell? ⟨b1, 2, none⟩ = some (.slice ax x2.length cx) ∧ w'.cell? ⟨b2, 0, none⟩ = some (.int .i64 x0) ∧ w'.cell? ⟨b2, 1, none⟩ = some (.int .i64 x1) ∧ w'.cell? ⟨b2, 2, none⟩ = some (.slice ay y2.length cy)) [(0, 0), (1, 0), (2, 0), (3, 0), (4, 0), (5, 0), (6, 0), (7, 0), (8, 0), (9, 0), (10, 0), (11, 0), (12, 0), (13, 0), (14, 0), (15, 0), (16, 0), (17, 0), (18, 0), (19, 0), (20, 0), (21, 0), (22, 0), (23, 0), (24, 0), (25, 0), (26, 0), (27, 0), (28, 0), (29, 0), (30, 0), (31, 0), (32, 0)] (by kernel_rfl) (by kernel_rfl) (by kernel_rfl) rfl ?_ (fun _ _ _ _ _ h => h) ?_)
    · exact ⟨p0, p1, p2, q0, q1, q2⟩
    (repeat (first | (apply el_skip rfl (by rfl); try simp only [Act.put, List.setIfInBounds_toArray, List.set_cons_zero, List.set_cons_succ]) | (apply el_float rfl (by rfl); (· (intro w' hS; go_simp <;> with_reducible rfl)); (try simp only [Act.put, List.setIfInBounds_toArray, List.set_cons_zero, List.set_cons_succ]))))
    refine el_nil (NoPanic.normal ?_)
    go_wp2_with fail
    go_ret
    refine ⟨ret_bool ?_, 1, rfl⟩
    symm; simp only [decide_eq_false_iff_not]; intro h; simp only [Prod.mk.injEq] at h; exact F.out (by rw [h.2.2])
  have hb2 : ((x2.length : Int) != y2.length) = false := by simp; omega
  have D := Lib.hid E2
  clear E2
  go_wp2_with fail
  refine wp_region_noPanic (wp_region_el (fun w' => w'.cell? ⟨b1, 0, none⟩ = some (.int .i64 x0) ∧ w'.cell? ⟨b1, 1, none⟩ = some (.int .i64 x1) ∧ w'.cell? ⟨b1, 2, none⟩ = some (.slice ax x2.length cx) ∧ w'.cell? ⟨b2, 0, none⟩ = some (.int .i64 x0) ∧ w'.cell? ⟨b2, 1, none⟩ = some (.int .i64 x1) ∧ w'.cell? ⟨b2, 2, none⟩ = some (.slice ay y2.length cy)) [(0, 0), (1, 0), (2, 0), (3, 0), (4, 0), (5, 0), (6, 0), (7, 0), (8, 0), (9, 0), (10, 0), (11, 0), (12, 0), (13, 0), (14, 0), (15, 0), (16, 0), (17, 0), (18, 0), (19, 0), (20, 0), (21, 0), (22, 0), (23, 0), (24, 0), (25, 0), (26, 0), (27, 0), (28, 0), (29, 0), (30, 0), (31, 0), (32, 0)] (by kernel_rfl) (by kernel_rfl) (by kernel_rfl) rfl ?_ (fun _ _ _ _ _ h => h) ?_)
  · exact ⟨p0, p1, p2, q0, q1, q2⟩
  (repeat (first | (apply el_skip rfl (by rfl); try simp only [Act.put, List.setIfInBounds_toArray, List.set_cons_zero, List.set_cons_succ]) | (apply el_float rfl (by rfl); (· (intro w' hS; go_simp <;> with_reducible rfl)); (try simp only [Act.put, List.setIfInBounds_toArray, List.set_cons_zero, List.set_cons_succ]))))
  refine el_nil (NoPanic.normal ?_)
  go_wp2_with fail
  go_loopw [5] (fun i wr => ∃ k m : Nat, k ≤ x2.length ∧ i = .int .i64 k ∧ wr = w.drewN m ∧ Hid (x2.take k = y2.take k)) (fun i _ => x2.length - (intOf i).toNat)
  case atStart => exact ⟨0, 1, Nat.zero_le _, rfl, rfl, by simp [Hid]⟩
  case round =>
    obtain ⟨k, m, hk, rfl, rfl, hr⟩ := hrel
    by_cases hlt : k < x2.length
    · have k2 : k < y2.length := by rw [← D.out]; exact hlt
      obtain ⟨e1, o1, s0, s1, rfl, f0, f1, hx⟩ := rdSl_two rfl SX.out k hlt
      obtain ⟨e2, o2, t0, t1, rfl, g0, g1, hy⟩ := rdSl_two rfl SY.out k k2
      have zx := rd_cons rfl hx
      have RX := Lib.hid zx.1
      obtain ⟨ax, dx, rfl, _⟩ := rd_list RX.out
      obtain ⟨rfl, _⟩ := rd_i1 zx.2
      have zy := rd_cons rfl hy
      have RY := Lib.hid zy.1
      obtain ⟨ay, dy, rfl, _⟩ := rd_list RY.out
      obtain ⟨rfl, _⟩ := rd_i1 zy.2
      clear hx hy zx zy
      have hkk : (k : Int) < y2.length := by omega
      by_cases R : x2[k].2 = y2[k].2
      rotate_left
      · have hbr : (x2[k].2 != y2[k].2) = true := by simpa using R
        have F := Lib.hid R
        clear R
        go_wp2_with fail
        refine wp_region_noPanic (wp_region_el (fun w' => w'.cell? ⟨b1, 2, none⟩ = some (.slice (some ⟨e1, o1, none⟩) x2.length cx) ∧ w'.cell? ⟨b2, 2, none⟩ = some (.slice (some ⟨e2, o2, none⟩) y2.length cy) ∧ w'.cell? ⟨e1, o1 + k * 2, none⟩ = some (.slice ax x2[k].1.length dx) ∧ w'.cell? ⟨e1, o1 + k * 2 + 1, none⟩ = some (.int .i64 x2[k].2) ∧ w'.cell? ⟨e2, o2 + k * 2, none⟩ = some (.slice ay y2[k].1.length dy) ∧ w'.cell? ⟨e2, o2 + k * 2 + 1, none⟩ = some (.int .i64 y2[k].2)) [(0, 0), (1, 0), (2, 0), (3, 0), (4, 0), (5, 0), (6, 0), (7, 0), (8, 0), (9, 0), (10, 0), (11, 0), (12, 0), (13, 0), (14, 0), (15, 0), (16, 0), (17, 0), (18, 0), (19, 0), (20, 0), (21, 0), (22, 0), (23, 0), (24, 0), (25, 0), (26, 0), (27, 0), (28, 0), (29, 0), (30, 0), (31, 0), (32, 0), (33, 0), (34, 1), (35, 0), (36, 0)] (by kernel_rfl) (by kernel_rfl) (by kernel_rfl) rfl ?_ (fun _ _ _ _ _ h => h) ?_)
        · exact ⟨p2, q2, f0, f1, g0, g1⟩
        (repeat (first | (apply el_skip rfl (by rfl); try simp only [Act.put, List.setIfInBounds_toArray, List.set_cons_zero, List.set_cons_succ]) | (apply el_float rfl (by rfl); (· (intro w' hS; go_simp <;> with_reducible rfl)); (try simp only [Act.put, List.setIfInBounds_toArray, List.set_cons_zero, List.set_cons_succ]))))
        refine el_hard_no rfl (by rfl) ⟨p2, q2, f0, f1, g0, g1⟩ ?_
        (try simp only [Act.put, List.setIfInBounds_toArray, List.set_cons_zero, List.set_cons_succ])
        (repeat (first | (apply el_skip rfl (by rfl); try simp only [Act.put, List.setIfInBounds_toArray, List.set_cons_zero, List.set_cons_succ]) | (apply el_float rfl (by rfl); (· (intro w' hS; go_simp <;> with_reducible rfl)); (try simp only [Act.put, List.setIfInBounds_toArray, List.set_cons_zero, List.set_cons_succ]))))
        refine el_nil (NoPanic.normal ?_)
        go_wp2_with fail
        go_ret
        refine ⟨ret_bool ?_, m + 1, rfl⟩
        symm; simp only [decide_eq_false_iff_not]; intro h; simp only [Prod.mk.injEq] at h; exact ne_getG hlt k2 (fun e => F.out (by rw [e])) h.2.2
      have hbr : (x2[k].2 != y2[k].2) = false := by simpa using R
      have G := Lib.hid R
      clear R
      by_cases R : x2[k].1 = y2[k].1
      rotate_left
      · have F := Lib.hid R
        clear R
        go_wp2_with fail
        refine wp_region_noPanic (wp_region_el (fun w' => w'.cell? ⟨b1, 2, none⟩ = some (.slice (some ⟨e1, o1, none⟩) x2.length cx) ∧ w'.cell? ⟨b2, 2, none⟩ = some (.slice (some ⟨e2, o2, none⟩) y2.length cy) ∧ w'.cell? ⟨e1, o1 + k * 2, none⟩ = some (.slice ax x2[k].1.length dx) ∧ w'.cell? ⟨e1, o1 + k * 2 + 1, none⟩ = some (.int .i64 x2[k].2) ∧ w'.cell? ⟨e2, o2 + k * 2, none⟩ = some (.slice ay y2[k].1.length dy) ∧ w'.cell? ⟨e2, o2 + k * 2 + 1, none⟩ = some (.int .i64 y2[k].2)) [(0, 0), (1, 0), (2, 0), (3, 0), (4, 0), (5, 0), (6, 0), (7, 0), (8, 0), (9, 0), (10, 0), (11, 0), (12, 0), (13, 0), (14, 0), (15, 0), (16, 0), (17, 0), (18, 0), (19, 0), (20, 0), (21, 0), (22, 0), (23, 0), (24, 0), (25, 0), (26, 0), (27, 0), (28, 0), (29, 0), (30, 0), (31, 0), (32, 0), (33, 0), (34, 1), (35, 0), (36, 0)] (by kernel_rfl) (by kernel_rfl) (by kernel_rfl) rfl ?_ (fun _ _ _ _ _ h => h) ?_)
        · exact ⟨p2, q2, f0, f1, g0, g1⟩
        (repeat (first | (apply el_skip rfl (by rfl); try simp only [Act.put, List.setIfInBounds_toArray, List.set_cons_zero, List.set_cons_succ]) | (apply el_float rfl (by rfl); (· (intro w' hS; go_simp <;> with_reducible rfl)); (try simp only [Act.put, List.setIfInBounds_toArray, List.set_cons_zero, List.set_cons_succ]))))
        refine el_hard rfl (by rfl) (fun K hK => ?_)
        go_wp2_with (go_at_call 35; refine (l00Same_c x2[k].1 y2[k].1 _ _ _ (Rd.mono RX.out (drewN_below w _)) (Rd.mono RY.out (drewN_below w _))).mono ?_; rintro e w1 ⟨rfl, n1, rfl⟩)
        rw [decide_eq_false F.out]
        refine ⟨⟨p2, q2, f0, f1, g0, g1⟩, ?_⟩
        (repeat (first | (apply el_skip rfl (by rfl); try simp only [Act.put, List.setIfInBounds_toArray, List.set_cons_zero, List.set_cons_succ]) | (apply el_float rfl (by rfl); (· (intro w' hS; go_simp <;> with_reducible rfl)); (try simp only [Act.put, List.setIfInBounds_toArray, List.set_cons_zero, List.set_cons_succ]))))
        refine el_nil (NoPanic.normal ?_)
        go_wp2_with fail
        go_ret
        refine ⟨ret_bool ?_, _, rfl⟩
        symm; simp only [decide_eq_false_iff_not]; intro h; simp only [Prod.mk.injEq] at h; exact ne_getG hlt k2 (fun e => F.out (by rw [e])) h.2.2
      have F := Lib.hid R
      clear R
      go_wp2_with fail
      refine wp_region_noPanic (wp_region_el (fun w' => w'.cell? ⟨b1, 2, none⟩ = some (.slice (some ⟨e1, o1, none⟩) x2.length cx) ∧ w'.cell? ⟨b2, 2, none⟩ = some (.slice (some ⟨e2, o2, none⟩) y2.length cy) ∧ w'.cell? ⟨e1, o1 + k * 2, none⟩ = some (.slice ax x2[k].1.length dx) ∧ w'.cell? ⟨e1, o1 + k * 2 + 1, none⟩ = some (.int .i64 x2[k].2) ∧ w'.cell? ⟨e2, o2 + k * 2, none⟩ = some (.slice ay y2[k].1.length dy) ∧ w'.cell? ⟨e2, o2 + k * 2 + 1, none⟩ = some (.int .i64 y2[k].2)) [(0, 0), (1, 0), (2, 0), (3, 0), (4, 0), (5, 0), (6, 0), (7, 0), (8, 0), (9, 0), (10, 0), (11, 0), (12, 0), (13, 0), (14, 0), (15, 0), (16, 0), (17, 0), (18, 0), (19, 0), (20, 0), (21, 0), (22, 0), (23, 0), (24, 0), (25, 0), (26, 0), (27, 0), (28, 0), (29, 0), (30, 0), (31, 0), (32, 0), (33, 0), (34, 1), (35, 0), (36, 0)] (by kernel_rfl) (by kernel_rfl) (by kernel_rfl) rfl ?_ (fun _ _ _ _ _ h => h) ?_)
      · exact ⟨p2, q2, f0, f1, g0, g1⟩
      (repeat (first | (apply el_skip rfl (by rfl); try simp only [Act.put, List.setIfInBounds_toArray, List.set_cons_zero, List.set_cons_succ]) | (apply el_float rfl (by rfl); (· (intro w' hS; go_simp <;> with_reducible rfl)); (try simp only [Act.put, List.setIfInBounds_toArray, List.set_cons_zero, List.set_cons_succ]))))
      refine el_hard rfl (by rfl) (fun K hK => ?_)
      go_wp2_with (go_at_call 35; refine (l00Same_c x2[k].1 y2[k].1 _ _ _ (Rd.mono RX.out (drewN_below w _)) (Rd.mono RY.out (drewN_below w _))).mono ?_; rintro e w1 ⟨rfl, n1, rfl⟩)
      rw [decide_eq_true F.out]
      refine ⟨⟨p2, q2, f0, f1, g0, g1⟩, ?_⟩
      (repeat (first | (apply el_skip rfl (by rfl); try simp only [Act.put, List.setIfInBounds_toArray, List.set_cons_zero, List.set_cons_succ]) | (apply el_float rfl (by rfl); (· (intro w' hS; go_simp <;> with_reducible rfl)); (try simp only [Act.put, List.setIfInBounds_toArray, List.set_cons_zero, List.set_cons_succ]))))
      refine el_nil (NoPanic.normal ?_)
      go_wp2_with fail
      go_roundw
      case rel => exact ⟨k + 1, _, by omega, by go_num, rfl, take_succG hlt k2 hr.out (Prod.ext F.out G.out)⟩
      case measure => simp [intOf]; omega
    · obtain rfl : k = x2.length := by omega
      have T := Lib.hid (take_allG rfl D.out.symm hr.out)
      clear hr
      go_wp2_with fail
      go_ret
      exact ⟨ret_bool (by simp [T.out]), _, rfl⟩
theorem sSameSystem_c (x : Sys) (v0 v1 v2 : Value) (y : Sys) (u0 u1 u2 : Value) (w : World) (hx : Rd w [v0, v1, v2] x) (hy : Rd w [u0, u1, u2] y) :
    Calls Tryz.prog 15 #[.agg #[v0, v1, v2], .agg #[u0, u1, u2]] w fun e w' => e = .returned (.bool (sameS x y)) ∧ Below w.heap.size w w' := by
  have hs := ((St.start w).alloc #[v0, v1, v2] 26 rfl).alloc #[u0, u1, u2] 26 (n := w.heap.size + 1) (by simp)
  go_enter Tryz.func15, Tryz.ntmps15
  go_wp2_with fail
  refine (l07Same_c x y _ _ v0 v1 v2 u0 u1 u2 _ (Rd.mono hx hs.bel) (Rd.mono hy hs.bel) (hs.cellAt 0 rfl 0 rfl) (hs.cellAt 0 rfl 1 rfl) (hs.cellAt 0 rfl 2 rfl) (hs.cellAt 1 rfl 0 rfl) (hs.cellAt 1 rfl 1 rfl) (hs.cellAt 1 rfl 2 rfl)).mono ?_
  rintro e w1 ⟨rfl, n, rfl⟩
  go_wp2_with fail
  go_ret
  exact ⟨rfl, (hs.drewN n).bel⟩

end Go.Proofs.YthceklaoikeokaaGreatDoor
