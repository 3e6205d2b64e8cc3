/-
  CONTRACTS of the laws' functions on types: to. (Printed by wip/gentypes.py.)
-/
import Derived.Test.YtndpinikniameaaSz
namespace Go.Proofs.Ytndpinikniameaa
open Go.RowKit
open Rep (Rd Own sz)
set_option linter.unusedSimpArgs false
set_option linter.unusedVariables false


theorem size_setCell (w : World) (a : Addr) (v : Value) : (w.setCell a v).heap.size = w.heap.size := by simp [World.setCell]
theorem toInt64S_b (l : List Int) (v : Value) (w : World) (r : Rd w [v] l) (hc : l.length ≤ 1048576) :
    Calls Try.prog 55 #[v] w fun e w' => ∃ v', e = .returned v' ∧ Fresh w.heap.size w' [v'] l ∧ Below w.heap.size w w' := toInt64S_c l v w r (by omega)
set_option maxRecDepth 100000 in
set_option maxHeartbeats 1000000 in
theorem toEquation_b (x : Eqn) (v0 v1 : Value) (w : World) (hx : Rd w [v0, v1] x) (hc : cost_Equation x ≤ 1048576) :
    Calls Try.prog 70 #[.agg #[v0, v1]] w fun e w' => ∃ u0 u1, e = .returned (.agg #[u0, u1]) ∧ Fresh w.heap.size w' [u0, u1] x ∧ Below w.heap.size w w' := by
  obtain ⟨x0, x1⟩ := x
  simp only [cost_Equation] at hc
  have tx0 := rd_cons rfl hx
  have Rx0 := Lib.hid tx0.1
  obtain ⟨ax0, cx0, rfl, _⟩ := rd_list Rx0.out
  obtain ⟨rfl, Ix1⟩ := rd_i1 tx0.2
  clear hx tx0
  have hs := (((St.start w).alloc #[.slice ax0 x0.length cx0, .int .i64 x1] 102 rfl).alloc #[.slice none 0 0, .int .i64 0] 78 (n := w.heap.size + 1) (by simp)).alloc #[.slice none 0 0, .int .i64 0] 78 (n := w.heap.size + 1 + 1) (by simp)
  go_enter Try.func70, Try.ntmps70
  have hl0 := hs.hi
  go_wp2_with fail
  refine (toInt64S_b x0 _ _ (Rd.mono Rx0.out hs.bel) (by omega)).mono ?_
  rintro e w1 ⟨b0, rfl, fr0, hb1⟩
  have iv0 := Fresh.iv fr0
  obtain ⟨d0, e0, rfl, _⟩ := rd_list (Iv.rd iv0)
  have hs1 := hs.step hb1
  clear fr0
  have p0 := hs1.cellAt 0 rfl 0 rfl
  have p1 := hs1.cellAt 0 rfl 1 rfl
  have s0 := hs1.cellAt 2 rfl 0 rfl
  have f0 := hs1.freeAt 2 rfl 0
  have s1 := hs1.cellAt 2 rfl 1 rfl
  have f1 := hs1.freeAt 2 rfl 1
  have z0 := hs1.cellAt 1 rfl 0 rfl
  have y0 := hs1.freeAt 1 rfl 0
  have z1 := hs1.cellAt 1 rfl 1 rfl
  have y1 := hs1.freeAt 1 rfl 1
  have hs1x := hs1.set (p := [_, _]) (by simp <;> omega) 0 (.slice d0 x0.length e0)
  have iv0s := iv0.setCell (a := ⟨w.heap.size + 1 + 1, 0, none⟩) (Nat.lt_of_lt_of_le (Nat.lt_succ_self _) hl0) (.slice d0 x0.length e0)
  have hs1xx := hs1x.set (p := [_, _]) (by simp <;> omega) 1 (.int .i64 x1)
  have iv0ss := iv0s.setCell (a := ⟨w.heap.size + 1 + 1, 1, none⟩) (Nat.lt_of_lt_of_le (Nat.lt_succ_self _) hl0) (.int .i64 x1)
  go_wp2
  have ivA := iv_cons_int Ix1 iv0ss
  refine bodyPost_ret (v := .agg #[.slice d0 x0.length e0, .int .i64 x1]) (by simp [results, Try.results70, go_sem, z0, y0, z1, y1]) rfl ⟨_, _,  rfl, ?_⟩
  exact hs1xx.finI ivA (g := w.heap.size + 1) (by omega) (Nat.lt_of_lt_of_le (Nat.lt_succ_of_lt (Nat.lt_succ_self _)) hl0) [.slice d0 x0.length e0, .int .i64 x1]
set_option maxRecDepth 100000 in
set_option maxHeartbeats 1000000 in
theorem toArcStep_b (x : (Int × Int × Int)) (v0 v1 v2 : Value) (w : World) (hx : Rd w [v0, v1, v2] x) :
    Calls Try.prog 76 #[.agg #[v0, v1, v2]] w fun e w' => ∃ u0 u1 u2, e = .returned (.agg #[u0, u1, u2]) ∧ Fresh w.heap.size w' [u0, u1, u2] x ∧ Below w.heap.size w w' := by
  obtain ⟨x0, x1, x2⟩ := x
  have tx0 := rd_cons rfl hx
  obtain ⟨rfl, Ix0⟩ := rd_i1 tx0.1
  have tx1 := rd_cons rfl tx0.2
  obtain ⟨rfl, Ix1⟩ := rd_i1 tx1.1
  obtain ⟨rfl, Ix2⟩ := rd_i1 tx1.2
  clear hx tx0 tx1
  have hs := (((St.start w).alloc #[.int .i64 x0, .int .i64 x1, .int .i64 x2] 110 rfl).alloc #[.int .i64 0, .int .i64 0, .int .i64 0] 94 (n := w.heap.size + 1) (by simp)).alloc #[.int .i64 x0, .int .i64 x1, .int .i64 x2] 94 (n := w.heap.size + 1 + 1) (by simp)
  go_enter Try.func76, Try.ntmps76
  go_wp2
  refine bodyPost_ret (v := .agg #[.int .i64 x0, .int .i64 x1, .int .i64 x2]) (by simp [results, Try.results76, go_sem]) rfl ⟨_, _, _,  rfl, ⟨[], ⟨[], [], [_], [_, _], rfl, rfl, ⟨rfl, rfl, Ix0⟩, ⟨[], [], [_], [_], rfl, rfl, ⟨rfl, rfl, Ix1⟩, ⟨rfl, rfl, Ix2⟩⟩⟩, by simp, by simp⟩, ?_⟩
  first | exact hs.bel | exact (((Below.refl _ _).alloc (Nat.le_refl _) _).alloc (by simp) _).alloc (by simp; omega) _
set_option maxRecDepth 100000 in
set_option maxHeartbeats 1000000 in
theorem toPairStep_b (x : (Int × Int × Int)) (v0 v1 v2 : Value) (w : World) (hx : Rd w [v0, v1, v2] x) :
    Calls Try.prog 77 #[.agg #[v0, v1, v2]] w fun e w' => ∃ u0 u1 u2, e = .returned (.agg #[u0, u1, u2]) ∧ Fresh w.heap.size w' [u0, u1, u2] x ∧ Below w.heap.size w w' := by
  obtain ⟨x0, x1, x2⟩ := x
  have tx0 := rd_cons rfl hx
  obtain ⟨rfl, Ix0⟩ := rd_i1 tx0.1
  have tx1 := rd_cons rfl tx0.2
  obtain ⟨rfl, Ix1⟩ := rd_i1 tx1.1
  obtain ⟨rfl, Ix2⟩ := rd_i1 tx1.2
  clear hx tx0 tx1
  have hs := (((St.start w).alloc #[.int .i64 x0, .int .i64 x1, .int .i64 x2] 112 rfl).alloc #[.int .i64 0, .int .i64 0, .int .i64 0] 97 (n := w.heap.size + 1) (by simp)).alloc #[.int .i64 x0, .int .i64 x1, .int .i64 x2] 97 (n := w.heap.size + 1 + 1) (by simp)
  go_enter Try.func77, Try.ntmps77
  go_wp2
  refine bodyPost_ret (v := .agg #[.int .i64 x0, .int .i64 x1, .int .i64 x2]) (by simp [results, Try.results77, go_sem]) rfl ⟨_, _, _,  rfl, ⟨[], ⟨[], [], [_], [_, _], rfl, rfl, ⟨rfl, rfl, Ix0⟩, ⟨[], [], [_], [_], rfl, rfl, ⟨rfl, rfl, Ix1⟩, ⟨rfl, rfl, Ix2⟩⟩⟩, by simp, by simp⟩, ?_⟩
  first | exact hs.bel | exact (((Below.refl _ _).alloc (Nat.le_refl _) _).alloc (by simp) _).alloc (by simp; omega) _
set_option maxRecDepth 100000 in
set_option maxHeartbeats 1000000 in
theorem toLine_b (x : (Int × Int × Int × Int)) (v0 v1 v2 v3 : Value) (w : World) (hx : Rd w [v0, v1, v2, v3] x) :
    Calls Try.prog 31 #[.agg #[v0, v1, v2, v3]] w fun e w' => ∃ u0 u1 u2 u3, e = .returned (.agg #[u0, u1, u2, u3]) ∧ Fresh w.heap.size w' [u0, u1, u2, u3] x ∧ Below w.heap.size w w' := by
  obtain ⟨x0, x1, x2, x3⟩ := x
  have tx0 := rd_cons rfl hx
  obtain ⟨rfl, Ix0⟩ := rd_i1 tx0.1
  have tx1 := rd_cons rfl tx0.2
  obtain ⟨rfl, Ix1⟩ := rd_i1 tx1.1
  have tx2 := rd_cons rfl tx1.2
  obtain ⟨rfl, Ix2⟩ := rd_i1 tx2.1
  obtain ⟨rfl, Ix3⟩ := rd_i1 tx2.2
  clear hx tx0 tx1 tx2
  have hs := (((St.start w).alloc #[.int .i64 x0, .int .i64 x1, .int .i64 x2, .int .i64 x3] 66 rfl).alloc #[.int .i64 0, .int .i64 0, .int .i64 0, .int .i64 0] 63 (n := w.heap.size + 1) (by simp)).alloc #[.int .i64 x0, .int .i64 x1, .int .i64 x2, .int .i64 x3] 63 (n := w.heap.size + 1 + 1) (by simp)
  go_enter Try.func31, Try.ntmps31
  go_wp2
  refine bodyPost_ret (v := .agg #[.int .i64 x0, .int .i64 x1, .int .i64 x2, .int .i64 x3]) (by simp [results, Try.results31, go_sem]) rfl ⟨_, _, _, _,  rfl, ⟨[], ⟨[], [], [_], [_, _, _], rfl, rfl, ⟨rfl, rfl, Ix0⟩, ⟨[], [], [_], [_, _], rfl, rfl, ⟨rfl, rfl, Ix1⟩, ⟨[], [], [_], [_], rfl, rfl, ⟨rfl, rfl, Ix2⟩, ⟨rfl, rfl, Ix3⟩⟩⟩⟩, by simp, by simp⟩, ?_⟩
  first | exact hs.bel | exact (((Below.refl _ _).alloc (Nat.le_refl _) _).alloc (by simp) _).alloc (by simp; omega) _
set_option maxRecDepth 100000 in
set_option maxHeartbeats 1000000 in
theorem toEquationS_b (l : List (Eqn)) (v : Value) (w : World) (r : Rd w [v] l) (hc : cost_EquationS l ≤ 1048576) :
    Calls Try.prog 42 #[v] w fun e w' => ∃ v', e = .returned v' ∧ Fresh w.heap.size w' [v'] l ∧ Below w.heap.size w w' := by
  obtain ⟨a, c, rfl, h⟩ := rd_list r
  clear r
  have hnc : l.length ≤ 1048576 := by unfold cost_EquationS cL at hc; omega
  have HC := Lib.hid hc
  generalize hn : l.length = n at *
  have HN := Lib.hid hn
  have HH := Lib.hid h
  clear hn h hc
  go_enter Try.func42, Try.ntmps42
  go_wp2_with (at_make; refine wpList_make_rep w rfl _ _ 43 rfl E_eqns (([], 0) : Eqn) own0_eqn n (by omega) rfl rfl ?_)
  intro w1 hown hb1 hs1
  have IV := Lib.hid (iv_made hown)
  have HB := Lib.hid hb1
  clear hown hb1
  go_wp2_with fail
  go_loopw [4] (fun i wr => ∃ j : Nat, j ≤ n ∧ i = .int .i64 j ∧ Hid (Below w.heap.size w wr) ∧ Hid (Iv w.heap.size wr.heap.size wr [.slice (some ⟨w.heap.size, 0, none⟩) n n] (filledG (([], 0) : Eqn) l j)) ∧ w.heap.size < wr.heap.size) (fun i _ => n - (intOf i).toNat)
  case atStart => exact ⟨0, Nat.zero_le _, rfl, HB.out, by rw [filledG_zero, HN.out]; show Iv _ _ _ _ _; rw [hs1]; exact IV.out, by omega⟩
  case round =>
    obtain ⟨j, hj, rfl, hbl, hiv, hlt0⟩ := hrel
    by_cases hlt : j < n
    · have hjl : j < l.length := by rw [HN.out]; exact hlt
      obtain ⟨b, o, u0, u1, rfl, q0, q1, hx⟩ := rdSl_two rfl (rdSl_mono hbl.out HH.out) j hjl
      have HX := Lib.hid hx
      clear hx
      go_wp2_with fail
      refine (toEquation_b l[j] _ _ _ HX.out (by have := cL_mem cost_Equation l j hjl; have := HC.out; unfold cost_EquationS at this; omega)).mono ?_
      rintro e w2 ⟨b0, b1, rfl, fr, hb2⟩
      have hlen := filledG_length (([], 0) : Eqn) l j (by omega)
      have ivo := hiv.out.mono hb2
      have ive := Fresh.iv fr
      obtain ⟨g, o', c', cur, et, hv, hh, hg1, hg2, hsz⟩ := iv_form' ivo (by rw [hlen]; omega) (by simp)
      simp only [Value.slice.injEq, Option.some.injEq, Addr.mk.injEq] at hv
      obtain ⟨⟨rfl, rfl, -⟩, -, rfl⟩ := hv
      rw [hlen, HN.out, Nat.zero_add, show sz (Eqn) = 2 from rfl] at hsz
      have hrd := Iv.rd ive
      have r0 := rd_cons rfl hrd
      obtain ⟨d0, e0, rfl, _⟩ := rd_list r0.1
      obtain ⟨rfl, _⟩ := rd_i1 r0.2
      have s0 := cell_of_heap hh (q := j * 2) (by omega)
      have f0 := free_at_block (o := j * 2) hh
      have s1 := cell_of_heap hh (q := j * 2 + 1) (by omega)
      have f1 := free_at_block (o := j * 2 + 1) hh
      have OV := Lib.hid ivo
      have EV := Lib.hid ive
      have HSZ := Lib.hid hsz
      clear hrd fr hh ivo ive r0
      go_wp2
      go_roundw
      case rel =>
        have hz := hb2.size
        have hop := putCells_only w.heap.size [.slice d0 (l[j].1).length e0, .int .i64 l[j].2] (j * 2) w2
        refine ⟨j + 1, by omega, by go_num, (hbl.out.trans (hb2.mono hbl.out.size)).trans (hop.below (by simp)), ?_, ?_⟩
        · have := iv_put' OV.out j (by rw [filledG_length _ _ _ (by omega)]; omega) EV.out hz (q := j * 2) (by simp)
          rw [filledG_succ _ _ _ hjl] at this
          show Iv _ _ _ _ _
          have hz2 := hop.size
          rw [← hz2] at this
          exact this
        · have hz2 := hop.size
          exact Nat.lt_of_lt_of_le hlt0 (by rw [← hz2] at hz; exact hz)
      case measure => simp [intOf]; omega
    · obtain rfl : j = n := by omega
      go_wp2_with fail
      go_ret
      refine ⟨_, rfl, ?_, hbl.out⟩
      have := hiv.out
      rw [← HN.out, filledG_all, HN.out] at this
      exact Iv.fresh this
set_option maxRecDepth 100000 in
set_option maxHeartbeats 1000000 in
theorem toArcStepS_b (l : List ((Int × Int × Int))) (v : Value) (w : World) (r : Rd w [v] l) (hc : cost_ArcStepS l ≤ 1048576) :
    Calls Try.prog 56 #[v] w fun e w' => ∃ v', e = .returned v' ∧ Fresh w.heap.size w' [v'] l ∧ Below w.heap.size w w' := by
  obtain ⟨a, c, rfl, h⟩ := rd_list r
  clear r
  have hnc : l.length ≤ 1048576 := by unfold cost_ArcStepS at hc; omega
  have HC := Lib.hid hc
  generalize hn : l.length = n at *
  have HN := Lib.hid hn
  have HH := Lib.hid h
  clear hn h hc
  go_enter Try.func56, Try.ntmps56
  go_wp2_with (at_make; refine wpList_make_rep w rfl _ _ 56 rfl E_arcs ((0, 0, 0) : (Int × Int × Int)) own0_i3 n (by omega) rfl rfl ?_)
  intro w1 hown hb1 hs1
  have IV := Lib.hid (iv_made hown)
  have HB := Lib.hid hb1
  clear hown hb1
  go_wp2_with fail
  go_loopw [4] (fun i wr => ∃ j : Nat, j ≤ n ∧ i = .int .i64 j ∧ Hid (Below w.heap.size w wr) ∧ Hid (Iv w.heap.size wr.heap.size wr [.slice (some ⟨w.heap.size, 0, none⟩) n n] (filledG ((0, 0, 0) : (Int × Int × Int)) l j)) ∧ w.heap.size < wr.heap.size) (fun i _ => n - (intOf i).toNat)
  case atStart => exact ⟨0, Nat.zero_le _, rfl, HB.out, by rw [filledG_zero, HN.out]; show Iv _ _ _ _ _; rw [hs1]; exact IV.out, by omega⟩
  case round =>
    obtain ⟨j, hj, rfl, hbl, hiv, hlt0⟩ := hrel
    by_cases hlt : j < n
    · have hjl : j < l.length := by rw [HN.out]; exact hlt
      obtain ⟨b, o, u0, u1, u2, rfl, q0, q1, q2, hx⟩ := rdSl_three rfl (rdSl_mono hbl.out HH.out) j hjl
      have HX := Lib.hid hx
      clear hx
      go_wp2_with fail
      refine (toArcStep_b l[j] _ _ _ _ HX.out).mono ?_
      rintro e w2 ⟨b0, b1, b2, rfl, fr, hb2⟩
      have hlen := filledG_length ((0, 0, 0) : (Int × Int × Int)) l j (by omega)
      have ivo := hiv.out.mono hb2
      have ive := Fresh.iv fr
      obtain ⟨g, o', c', cur, et, hv, hh, hg1, hg2, hsz⟩ := iv_form' ivo (by rw [hlen]; omega) (by simp)
      simp only [Value.slice.injEq, Option.some.injEq, Addr.mk.injEq] at hv
      obtain ⟨⟨rfl, rfl, -⟩, -, rfl⟩ := hv
      rw [hlen, HN.out, Nat.zero_add, show sz ((Int × Int × Int)) = 3 from rfl] at hsz
      have hrd := Iv.rd ive
      have r0 := rd_cons rfl hrd
      obtain ⟨rfl, _⟩ := rd_i1 r0.1
      have r1 := rd_cons rfl r0.2
      obtain ⟨rfl, _⟩ := rd_i1 r1.1
      obtain ⟨rfl, _⟩ := rd_i1 r1.2
      have s0 := cell_of_heap hh (q := j * 3) (by omega)
      have f0 := free_at_block (o := j * 3) hh
      have s1 := cell_of_heap hh (q := j * 3 + 1) (by omega)
      have f1 := free_at_block (o := j * 3 + 1) hh
      have s2 := cell_of_heap hh (q := j * 3 + 2) (by omega)
      have f2 := free_at_block (o := j * 3 + 2) hh
      have OV := Lib.hid ivo
      have EV := Lib.hid ive
      have HSZ := Lib.hid hsz
      clear hrd fr hh ivo ive r0 r1
      go_wp2
      go_roundw
      case rel =>
        have hz := hb2.size
        have hop := putCells_only w.heap.size [.int .i64 l[j].1, .int .i64 l[j].2.1, .int .i64 l[j].2.2] (j * 3) w2
        refine ⟨j + 1, by omega, by go_num, (hbl.out.trans (hb2.mono hbl.out.size)).trans (hop.below (by simp)), ?_, ?_⟩
        · have := iv_put' OV.out j (by rw [filledG_length _ _ _ (by omega)]; omega) EV.out hz (q := j * 3) (by simp)
          rw [filledG_succ _ _ _ hjl] at this
          show Iv _ _ _ _ _
          have hz2 := hop.size
          rw [← hz2] at this
          exact this
        · have hz2 := hop.size
          exact Nat.lt_of_lt_of_le hlt0 (by rw [← hz2] at hz; exact hz)
      case measure => simp [intOf]; omega
    · obtain rfl : j = n := by omega
      go_wp2_with fail
      go_ret
      refine ⟨_, rfl, ?_, hbl.out⟩
      have := hiv.out
      rw [← HN.out, filledG_all, HN.out] at this
      exact Iv.fresh this
set_option maxRecDepth 100000 in
set_option maxHeartbeats 1000000 in
theorem toPairStepS_b (l : List ((Int × Int × Int))) (v : Value) (w : World) (r : Rd w [v] l) (hc : cost_PairStepS l ≤ 1048576) :
    Calls Try.prog 57 #[v] w fun e w' => ∃ v', e = .returned v' ∧ Fresh w.heap.size w' [v'] l ∧ Below w.heap.size w w' := by
  obtain ⟨a, c, rfl, h⟩ := rd_list r
  clear r
  have hnc : l.length ≤ 1048576 := by unfold cost_PairStepS at hc; omega
  have HC := Lib.hid hc
  generalize hn : l.length = n at *
  have HN := Lib.hid hn
  have HH := Lib.hid h
  clear hn h hc
  go_enter Try.func57, Try.ntmps57
  go_wp2_with (at_make; refine wpList_make_rep w rfl _ _ 57 rfl E_pairs ((0, 0, 0) : (Int × Int × Int)) own0_i3 n (by omega) rfl rfl ?_)
  intro w1 hown hb1 hs1
  have IV := Lib.hid (iv_made hown)
  have HB := Lib.hid hb1
  clear hown hb1
  go_wp2_with fail
  go_loopw [4] (fun i wr => ∃ j : Nat, j ≤ n ∧ i = .int .i64 j ∧ Hid (Below w.heap.size w wr) ∧ Hid (Iv w.heap.size wr.heap.size wr [.slice (some ⟨w.heap.size, 0, none⟩) n n] (filledG ((0, 0, 0) : (Int × Int × Int)) l j)) ∧ w.heap.size < wr.heap.size) (fun i _ => n - (intOf i).toNat)
  case atStart => exact ⟨0, Nat.zero_le _, rfl, HB.out, by rw [filledG_zero, HN.out]; show Iv _ _ _ _ _; rw [hs1]; exact IV.out, by omega⟩
  case round =>
    obtain ⟨j, hj, rfl, hbl, hiv, hlt0⟩ := hrel
    by_cases hlt : j < n
    · have hjl : j < l.length := by rw [HN.out]; exact hlt
      obtain ⟨b, o, u0, u1, u2, rfl, q0, q1, q2, hx⟩ := rdSl_three rfl (rdSl_mono hbl.out HH.out) j hjl
      have HX := Lib.hid hx
      clear hx
      go_wp2_with fail
      refine (toPairStep_b l[j] _ _ _ _ HX.out).mono ?_
      rintro e w2 ⟨b0, b1, b2, rfl, fr, hb2⟩
      have hlen := filledG_length ((0, 0, 0) : (Int × Int × Int)) l j (by omega)
      have ivo := hiv.out.mono hb2
      have ive := Fresh.iv fr
      obtain ⟨g, o', c', cur, et, hv, hh, hg1, hg2, hsz⟩ := iv_form' ivo (by rw [hlen]; omega) (by simp)
      simp only [Value.slice.injEq, Option.some.injEq, Addr.mk.injEq] at hv
      obtain ⟨⟨rfl, rfl, -⟩, -, rfl⟩ := hv
      rw [hlen, HN.out, Nat.zero_add, show sz ((Int × Int × Int)) = 3 from rfl] at hsz
      have hrd := Iv.rd ive
      have r0 := rd_cons rfl hrd
      obtain ⟨rfl, _⟩ := rd_i1 r0.1
      have r1 := rd_cons rfl r0.2
      obtain ⟨rfl, _⟩ := rd_i1 r1.1
      obtain ⟨rfl, _⟩ := rd_i1 r1.2
      have s0 := cell_of_heap hh (q := j * 3) (by omega)
      have f0 := free_at_block (o := j * 3) hh
      have s1 := cell_of_heap hh (q := j * 3 + 1) (by omega)
      have f1 := free_at_block (o := j * 3 + 1) hh
      have s2 := cell_of_heap hh (q := j * 3 + 2) (by omega)
      have f2 := free_at_block (o := j * 3 + 2) hh
      have OV := Lib.hid ivo
      have EV := Lib.hid ive
      have HSZ := Lib.hid hsz
      clear hrd fr hh ivo ive r0 r1
      go_wp2
      go_roundw
      case rel =>
        have hz := hb2.size
        have hop := putCells_only w.heap.size [.int .i64 l[j].1, .int .i64 l[j].2.1, .int .i64 l[j].2.2] (j * 3) w2
        refine ⟨j + 1, by omega, by go_num, (hbl.out.trans (hb2.mono hbl.out.size)).trans (hop.below (by simp)), ?_, ?_⟩
        · have := iv_put' OV.out j (by rw [filledG_length _ _ _ (by omega)]; omega) EV.out hz (q := j * 3) (by simp)
          rw [filledG_succ _ _ _ hjl] at this
          show Iv _ _ _ _ _
          have hz2 := hop.size
          rw [← hz2] at this
          exact this
        · have hz2 := hop.size
          exact Nat.lt_of_lt_of_le hlt0 (by rw [← hz2] at hz; exact hz)
      case measure => simp [intOf]; omega
    · obtain rfl : j = n := by omega
      go_wp2_with fail
      go_ret
      refine ⟨_, rfl, ?_, hbl.out⟩
      have := hiv.out
      rw [← HN.out, filledG_all, HN.out] at this
      exact Iv.fresh this
set_option maxRecDepth 100000 in
set_option maxHeartbeats 1000000 in
theorem toLineS_b (l : List ((Int × Int × Int × Int))) (v : Value) (w : World) (r : Rd w [v] l) (hc : cost_LineS l ≤ 1048576) :
    Calls Try.prog 10 #[v] w fun e w' => ∃ v', e = .returned v' ∧ Fresh w.heap.size w' [v'] l ∧ Below w.heap.size w w' := by
  obtain ⟨a, c, rfl, h⟩ := rd_list r
  clear r
  have hnc : l.length ≤ 1048576 := by unfold cost_LineS at hc; omega
  have HC := Lib.hid hc
  generalize hn : l.length = n at *
  have HN := Lib.hid hn
  have HH := Lib.hid h
  clear hn h hc
  go_enter Try.func10, Try.ntmps10
  go_wp2_with (at_make; refine wpList_make_rep w rfl _ _ 26 rfl E_lines ((0, 0, 0, 0) : (Int × Int × Int × Int)) own0_i4 n (by omega) rfl rfl ?_)
  intro w1 hown hb1 hs1
  have IV := Lib.hid (iv_made hown)
  have HB := Lib.hid hb1
  clear hown hb1
  go_wp2_with fail
  go_loopw [4] (fun i wr => ∃ j : Nat, j ≤ n ∧ i = .int .i64 j ∧ Hid (Below w.heap.size w wr) ∧ Hid (Iv w.heap.size wr.heap.size wr [.slice (some ⟨w.heap.size, 0, none⟩) n n] (filledG ((0, 0, 0, 0) : (Int × Int × Int × Int)) l j)) ∧ w.heap.size < wr.heap.size) (fun i _ => n - (intOf i).toNat)
  case atStart => exact ⟨0, Nat.zero_le _, rfl, HB.out, by rw [filledG_zero, HN.out]; show Iv _ _ _ _ _; rw [hs1]; exact IV.out, by omega⟩
  case round =>
    obtain ⟨j, hj, rfl, hbl, hiv, hlt0⟩ := hrel
    by_cases hlt : j < n
    · have hjl : j < l.length := by rw [HN.out]; exact hlt
      obtain ⟨b, o, u0, u1, u2, u3, rfl, q0, q1, q2, q3, hx⟩ := rdSl_four rfl (rdSl_mono hbl.out HH.out) j hjl
      have HX := Lib.hid hx
      clear hx
      go_wp2_with fail
      refine (toLine_b l[j] _ _ _ _ _ HX.out).mono ?_
      rintro e w2 ⟨b0, b1, b2, b3, rfl, fr, hb2⟩
      have hlen := filledG_length ((0, 0, 0, 0) : (Int × Int × Int × Int)) l j (by omega)
      have ivo := hiv.out.mono hb2
      have ive := Fresh.iv fr
      obtain ⟨g, o', c', cur, et, hv, hh, hg1, hg2, hsz⟩ := iv_form' ivo (by rw [hlen]; omega) (by simp)
      simp only [Value.slice.injEq, Option.some.injEq, Addr.mk.injEq] at hv
      obtain ⟨⟨rfl, rfl, -⟩, -, rfl⟩ := hv
      rw [hlen, HN.out, Nat.zero_add, show sz ((Int × Int × Int × Int)) = 4 from rfl] at hsz
      have hrd := Iv.rd ive
      have r0 := rd_cons rfl hrd
      obtain ⟨rfl, _⟩ := rd_i1 r0.1
      have r1 := rd_cons rfl r0.2
      obtain ⟨rfl, _⟩ := rd_i1 r1.1
      have r2 := rd_cons rfl r1.2
      obtain ⟨rfl, _⟩ := rd_i1 r2.1
      obtain ⟨rfl, _⟩ := rd_i1 r2.2
      have s0 := cell_of_heap hh (q := j * 4) (by omega)
      have f0 := free_at_block (o := j * 4) hh
      have s1 := cell_of_heap hh (q := j * 4 + 1) (by omega)
      have f1 := free_at_block (o := j * 4 + 1) hh
      have s2 := cell_of_heap hh (q := j * 4 + 2) (by omega)
      have f2 := free_at_block (o := j * 4 + 2) hh
      have s3 := cell_of_heap hh (q := j * 4 + 3) (by omega)
      have f3 := free_at_block (o := j * 4 + 3) hh
      have OV := Lib.hid ivo
      have EV := Lib.hid ive
      have HSZ := Lib.hid hsz
      clear hrd fr hh ivo ive r0 r1 r2
      go_wp2
      go_roundw
      case rel =>
        have hz := hb2.size
        have hop := putCells_only w.heap.size [.int .i64 l[j].1, .int .i64 l[j].2.1, .int .i64 l[j].2.2.1, .int .i64 l[j].2.2.2] (j * 4) w2
        refine ⟨j + 1, by omega, by go_num, (hbl.out.trans (hb2.mono hbl.out.size)).trans (hop.below (by simp)), ?_, ?_⟩
        · have := iv_put' OV.out j (by rw [filledG_length _ _ _ (by omega)]; omega) EV.out hz (q := j * 4) (by simp)
          rw [filledG_succ _ _ _ hjl] at this
          show Iv _ _ _ _ _
          have hz2 := hop.size
          rw [← hz2] at this
          exact this
        · have hz2 := hop.size
          exact Nat.lt_of_lt_of_le hlt0 (by rw [← hz2] at hz; exact hz)
      case measure => simp [intOf]; omega
    · obtain rfl : j = n := by omega
      go_wp2_with fail
      go_ret
      refine ⟨_, rfl, ?_, hbl.out⟩
      have := hiv.out
      rw [← HN.out, filledG_all, HN.out] at this
      exact Iv.fresh this
set_option maxRecDepth 100000 in
set_option maxHeartbeats 1000000 in
theorem toSystem_b (x : Sys) (v0 v1 v2 : Value) (w : World) (hx : Rd w [v0, v1, v2] x) (hc : cost_System x ≤ 1048576) :
    Calls Try.prog 20 #[.agg #[v0, v1, v2]] w fun e w' => ∃ u0 u1 u2, e = .returned (.agg #[u0, u1, u2]) ∧ Fresh w.heap.size w' [u0, u1, u2] x ∧ Below w.heap.size w w' := by
  obtain ⟨x0, x1, x2⟩ := x
  simp only [cost_System] at hc
  have tx0 := rd_cons rfl hx
  obtain ⟨rfl, Ix0⟩ := rd_i1 tx0.1
  have tx1 := rd_cons rfl tx0.2
  obtain ⟨rfl, Ix1⟩ := rd_i1 tx1.1
  have Rx2 := Lib.hid tx1.2
  obtain ⟨ax2, cx2, rfl, _⟩ := rd_list Rx2.out
  clear hx tx0 tx1
  have hs := (((St.start w).alloc #[.int .i64 x0, .int .i64 x1, .slice ax2 x2.length cx2] 40 rfl).alloc #[.int .i64 0, .int .i64 0, .slice none 0 0] 45 (n := w.heap.size + 1) (by simp)).alloc #[.int .i64 x0, .int .i64 x1, .slice none 0 0] 45 (n := w.heap.size + 1 + 1) (by simp)
  go_enter Try.func20, Try.ntmps20
  have hl2 := hs.hi
  go_wp2_with fail
  refine (toEquationS_b x2 _ _ (Rd.mono Rx2.out hs.bel) (by omega)).mono ?_
  rintro e w1 ⟨b2, rfl, fr2, hb1⟩
  have iv2 := Fresh.iv fr2
  obtain ⟨d2, e2, rfl, _⟩ := rd_list (Iv.rd iv2)
  have hs1 := hs.step hb1
  clear fr2
  have p0 := hs1.cellAt 0 rfl 0 rfl
  have p1 := hs1.cellAt 0 rfl 1 rfl
  have p2 := hs1.cellAt 0 rfl 2 rfl
  have s0 := hs1.cellAt 2 rfl 0 rfl
  have f0 := hs1.freeAt 2 rfl 0
  have s1 := hs1.cellAt 2 rfl 1 rfl
  have f1 := hs1.freeAt 2 rfl 1
  have s2 := hs1.cellAt 2 rfl 2 rfl
  have f2 := hs1.freeAt 2 rfl 2
  have z0 := hs1.cellAt 1 rfl 0 rfl
  have y0 := hs1.freeAt 1 rfl 0
  have z1 := hs1.cellAt 1 rfl 1 rfl
  have y1 := hs1.freeAt 1 rfl 1
  have z2 := hs1.cellAt 1 rfl 2 rfl
  have y2 := hs1.freeAt 1 rfl 2
  have hs1x := hs1.set (p := [_, _]) (by simp <;> omega) 2 (.slice d2 x2.length e2)
  have iv2s := iv2.setCell (a := ⟨w.heap.size + 1 + 1, 2, none⟩) (Nat.lt_of_lt_of_le (Nat.lt_succ_self _) hl2) (.slice d2 x2.length e2)
  go_wp2
  have ivA := iv_int_cons Ix0 (iv_int_cons Ix1 (iv2s))
  refine bodyPost_ret (v := .agg #[.int .i64 x0, .int .i64 x1, .slice d2 x2.length e2]) (by simp [results, Try.results20, go_sem, z0, y0, z1, y1, z2, y2]) rfl ⟨_, _, _,  rfl, ?_⟩
  exact hs1x.finI ivA (g := w.heap.size + 1) (by omega) (Nat.lt_of_lt_of_le (Nat.lt_succ_of_lt (Nat.lt_succ_self _)) hl2) [.int .i64 x0, .int .i64 x1, .slice d2 x2.length e2]
set_option maxRecDepth 100000 in
set_option maxHeartbeats 1000000 in
theorem toVerdict_b (x : Vdct) (v0 v1 v2 v3 v4 : Value) (w : World) (hx : Rd w [v0, v1, v2, v3, v4] x) (hc : cost_Verdict x ≤ 1048576) :
    Calls Try.prog 27 #[.agg #[v0, v1, v2, v3, v4]] w fun e w' => ∃ u0 u1 u2 u3 u4, e = .returned (.agg #[u0, u1, u2, u3, u4]) ∧ Fresh w.heap.size w' [u0, u1, u2, u3, u4] x ∧ Below w.heap.size w w' := by
  obtain ⟨x0, x1, x2, x3, x4⟩ := x
  simp only [cost_Verdict] at hc
  have tx0 := rd_cons rfl hx
  obtain ⟨rfl, Ix0⟩ := rd_i1 tx0.1
  have tx1 := rd_cons rfl tx0.2
  have Rx1 := Lib.hid tx1.1
  obtain ⟨ax1, cx1, rfl, _⟩ := rd_list Rx1.out
  have tx2 := rd_cons rfl tx1.2
  have Rx2 := Lib.hid tx2.1
  obtain ⟨ax2, cx2, rfl, _⟩ := rd_list Rx2.out
  have tx3 := rd_cons rfl tx2.2
  have Rx3 := Lib.hid tx3.1
  obtain ⟨ax3, cx3, rfl, _⟩ := rd_list Rx3.out
  have Rx4 := Lib.hid tx3.2
  obtain ⟨ax4, cx4, rfl, _⟩ := rd_list Rx4.out
  clear hx tx0 tx1 tx2 tx3
  have hs := (((St.start w).alloc #[.int .i64 x0, .slice ax1 x1.length cx1, .slice ax2 x2.length cx2, .slice ax3 x3.length cx3, .slice ax4 x4.length cx4] 53 rfl).alloc #[.int .i64 0, .slice none 0 0, .slice none 0 0, .slice none 0 0, .slice none 0 0] 59 (n := w.heap.size + 1) (by simp)).alloc #[.int .i64 x0, .slice none 0 0, .slice none 0 0, .slice none 0 0, .slice none 0 0] 59 (n := w.heap.size + 1 + 1) (by simp)
  go_enter Try.func27, Try.ntmps27
  have hl1 := hs.hi
  go_wp2_with fail
  refine (toInt64S_b x1 _ _ (Rd.mono Rx1.out hs.bel) (by omega)).mono ?_
  rintro e w1 ⟨b1, rfl, fr1, hb1⟩
  have iv1 := Fresh.iv fr1
  obtain ⟨d1, e1, rfl, _⟩ := rd_list (Iv.rd iv1)
  have hs1 := hs.step hb1
  clear fr1
  have p0 := hs1.cellAt 0 rfl 0 rfl
  have p1 := hs1.cellAt 0 rfl 1 rfl
  have p2 := hs1.cellAt 0 rfl 2 rfl
  have p3 := hs1.cellAt 0 rfl 3 rfl
  have p4 := hs1.cellAt 0 rfl 4 rfl
  have s0 := hs1.cellAt 2 rfl 0 rfl
  have f0 := hs1.freeAt 2 rfl 0
  have s1 := hs1.cellAt 2 rfl 1 rfl
  have f1 := hs1.freeAt 2 rfl 1
  have s2 := hs1.cellAt 2 rfl 2 rfl
  have f2 := hs1.freeAt 2 rfl 2
  have s3 := hs1.cellAt 2 rfl 3 rfl
  have f3 := hs1.freeAt 2 rfl 3
  have s4 := hs1.cellAt 2 rfl 4 rfl
  have f4 := hs1.freeAt 2 rfl 4
  have z0 := hs1.cellAt 1 rfl 0 rfl
  have y0 := hs1.freeAt 1 rfl 0
  have z1 := hs1.cellAt 1 rfl 1 rfl
  have y1 := hs1.freeAt 1 rfl 1
  have z2 := hs1.cellAt 1 rfl 2 rfl
  have y2 := hs1.freeAt 1 rfl 2
  have z3 := hs1.cellAt 1 rfl 3 rfl
  have y3 := hs1.freeAt 1 rfl 3
  have z4 := hs1.cellAt 1 rfl 4 rfl
  have y4 := hs1.freeAt 1 rfl 4
  have hs1x := hs1.set (p := [_, _]) (by simp <;> omega) 1 (.slice d1 x1.length e1)
  have iv1s := iv1.setCell (a := ⟨w.heap.size + 1 + 1, 1, none⟩) (Nat.lt_of_lt_of_le (Nat.lt_succ_self _) hl1) (.slice d1 x1.length e1)
  have hl2 := hs1x.hi
  go_wp2_with fail
  refine (toArcStepS_b x2 _ _ (Rd.mono Rx2.out hs1x.bel) (by omega)).mono ?_
  rintro e w2 ⟨b2, rfl, fr2, hb2⟩
  have iv2 := Fresh.iv fr2
  obtain ⟨d2, e2, rfl, _⟩ := rd_list (Iv.rd iv2)
  have hs2 := hs1x.step hb2
  have iv1sm := iv1s.mono hb2
  clear fr2 p0 p1 p2 p3 p4 s0 f0 s1 f1 s2 f2 s3 f3 s4 f4 z0 y0 z1 y1 z2 y2 z3 y3 z4 y4
  have p0 := hs2.cellAt 0 rfl 0 rfl
  have p1 := hs2.cellAt 0 rfl 1 rfl
  have p2 := hs2.cellAt 0 rfl 2 rfl
  have p3 := hs2.cellAt 0 rfl 3 rfl
  have p4 := hs2.cellAt 0 rfl 4 rfl
  have s0 := hs2.cellAt 2 rfl 0 rfl
  have f0 := hs2.freeAt 2 rfl 0
  have s1 := hs2.cellAt 2 rfl 1 rfl
  have f1 := hs2.freeAt 2 rfl 1
  have s2 := hs2.cellAt 2 rfl 2 rfl
  have f2 := hs2.freeAt 2 rfl 2
  have s3 := hs2.cellAt 2 rfl 3 rfl
  have f3 := hs2.freeAt 2 rfl 3
  have s4 := hs2.cellAt 2 rfl 4 rfl
  have f4 := hs2.freeAt 2 rfl 4
  have z0 := hs2.cellAt 1 rfl 0 rfl
  have y0 := hs2.freeAt 1 rfl 0
  have z1 := hs2.cellAt 1 rfl 1 rfl
  have y1 := hs2.freeAt 1 rfl 1
  have z2 := hs2.cellAt 1 rfl 2 rfl
  have y2 := hs2.freeAt 1 rfl 2
  have z3 := hs2.cellAt 1 rfl 3 rfl
  have y3 := hs2.freeAt 1 rfl 3
  have z4 := hs2.cellAt 1 rfl 4 rfl
  have y4 := hs2.freeAt 1 rfl 4
  have hs2x := hs2.set (p := [_, _]) (by simp <;> omega) 2 (.slice d2 x2.length e2)
  have iv1sms := iv1sm.setCell (a := ⟨w.heap.size + 1 + 1, 2, none⟩) (Nat.lt_of_lt_of_le (Nat.lt_succ_self _) hl1) (.slice d2 x2.length e2)
  have iv2s := iv2.setCell (a := ⟨w.heap.size + 1 + 1, 2, none⟩) (Nat.lt_of_lt_of_le (Nat.lt_succ_self _) hl2) (.slice d2 x2.length e2)
  have hl3 := hs2x.hi
  go_wp2_with fail
  refine (toPairStepS_b x3 _ _ (Rd.mono Rx3.out hs2x.bel) (by omega)).mono ?_
  rintro e w3 ⟨b3, rfl, fr3, hb3⟩
  have iv3 := Fresh.iv fr3
  obtain ⟨d3, e3, rfl, _⟩ := rd_list (Iv.rd iv3)
  have hs3 := hs2x.step hb3
  have iv1smsm := iv1sms.mono hb3
  have iv2sm := iv2s.mono hb3
  clear fr3 p0 p1 p2 p3 p4 s0 f0 s1 f1 s2 f2 s3 f3 s4 f4 z0 y0 z1 y1 z2 y2 z3 y3 z4 y4
  have p0 := hs3.cellAt 0 rfl 0 rfl
  have p1 := hs3.cellAt 0 rfl 1 rfl
  have p2 := hs3.cellAt 0 rfl 2 rfl
  have p3 := hs3.cellAt 0 rfl 3 rfl
  have p4 := hs3.cellAt 0 rfl 4 rfl
  have s0 := hs3.cellAt 2 rfl 0 rfl
  have f0 := hs3.freeAt 2 rfl 0
  have s1 := hs3.cellAt 2 rfl 1 rfl
  have f1 := hs3.freeAt 2 rfl 1
  have s2 := hs3.cellAt 2 rfl 2 rfl
  have f2 := hs3.freeAt 2 rfl 2
  have s3 := hs3.cellAt 2 rfl 3 rfl
  have f3 := hs3.freeAt 2 rfl 3
  have s4 := hs3.cellAt 2 rfl 4 rfl
  have f4 := hs3.freeAt 2 rfl 4
  have z0 := hs3.cellAt 1 rfl 0 rfl
  have y0 := hs3.freeAt 1 rfl 0
  have z1 := hs3.cellAt 1 rfl 1 rfl
  have y1 := hs3.freeAt 1 rfl 1
  have z2 := hs3.cellAt 1 rfl 2 rfl
  have y2 := hs3.freeAt 1 rfl 2
  have z3 := hs3.cellAt 1 rfl 3 rfl
  have y3 := hs3.freeAt 1 rfl 3
  have z4 := hs3.cellAt 1 rfl 4 rfl
  have y4 := hs3.freeAt 1 rfl 4
  have hs3x := hs3.set (p := [_, _]) (by simp <;> omega) 3 (.slice d3 x3.length e3)
  have iv1smsms := iv1smsm.setCell (a := ⟨w.heap.size + 1 + 1, 3, none⟩) (Nat.lt_of_lt_of_le (Nat.lt_succ_self _) hl1) (.slice d3 x3.length e3)
  have iv2sms := iv2sm.setCell (a := ⟨w.heap.size + 1 + 1, 3, none⟩) (Nat.lt_of_lt_of_le (Nat.lt_succ_self _) hl2) (.slice d3 x3.length e3)
  have iv3s := iv3.setCell (a := ⟨w.heap.size + 1 + 1, 3, none⟩) (Nat.lt_of_lt_of_le (Nat.lt_succ_self _) hl3) (.slice d3 x3.length e3)
  have hl4 := hs3x.hi
  go_wp2_with fail
  refine (toInt64S_b x4 _ _ (Rd.mono Rx4.out hs3x.bel) (by omega)).mono ?_
  rintro e w4 ⟨b4, rfl, fr4, hb4⟩
  have iv4 := Fresh.iv fr4
  obtain ⟨d4, e4, rfl, _⟩ := rd_list (Iv.rd iv4)
  have hs4 := hs3x.step hb4
  have iv1smsmsm := iv1smsms.mono hb4
  have iv2smsm := iv2sms.mono hb4
  have iv3sm := iv3s.mono hb4
  clear fr4 p0 p1 p2 p3 p4 s0 f0 s1 f1 s2 f2 s3 f3 s4 f4 z0 y0 z1 y1 z2 y2 z3 y3 z4 y4
  have p0 := hs4.cellAt 0 rfl 0 rfl
  have p1 := hs4.cellAt 0 rfl 1 rfl
  have p2 := hs4.cellAt 0 rfl 2 rfl
  have p3 := hs4.cellAt 0 rfl 3 rfl
  have p4 := hs4.cellAt 0 rfl 4 rfl
  have s0 := hs4.cellAt 2 rfl 0 rfl
  have f0 := hs4.freeAt 2 rfl 0
  have s1 := hs4.cellAt 2 rfl 1 rfl
  have f1 := hs4.freeAt 2 rfl 1
  have s2 := hs4.cellAt 2 rfl 2 rfl
  have f2 := hs4.freeAt 2 rfl 2
  have s3 := hs4.cellAt 2 rfl 3 rfl
  have f3 := hs4.freeAt 2 rfl 3
  have s4 := hs4.cellAt 2 rfl 4 rfl
  have f4 := hs4.freeAt 2 rfl 4
  have z0 := hs4.cellAt 1 rfl 0 rfl
  have y0 := hs4.freeAt 1 rfl 0
  have z1 := hs4.cellAt 1 rfl 1 rfl
  have y1 := hs4.freeAt 1 rfl 1
  have z2 := hs4.cellAt 1 rfl 2 rfl
  have y2 := hs4.freeAt 1 rfl 2
  have z3 := hs4.cellAt 1 rfl 3 rfl
  have y3 := hs4.freeAt 1 rfl 3
  have z4 := hs4.cellAt 1 rfl 4 rfl
  have y4 := hs4.freeAt 1 rfl 4
  have hs4x := hs4.set (p := [_, _]) (by simp <;> omega) 4 (.slice d4 x4.length e4)
  have iv1smsmsms := iv1smsmsm.setCell (a := ⟨w.heap.size + 1 + 1, 4, none⟩) (Nat.lt_of_lt_of_le (Nat.lt_succ_self _) hl1) (.slice d4 x4.length e4)
  have iv2smsms := iv2smsm.setCell (a := ⟨w.heap.size + 1 + 1, 4, none⟩) (Nat.lt_of_lt_of_le (Nat.lt_succ_self _) hl2) (.slice d4 x4.length e4)
  have iv3sms := iv3sm.setCell (a := ⟨w.heap.size + 1 + 1, 4, none⟩) (Nat.lt_of_lt_of_le (Nat.lt_succ_self _) hl3) (.slice d4 x4.length e4)
  have iv4s := iv4.setCell (a := ⟨w.heap.size + 1 + 1, 4, none⟩) (Nat.lt_of_lt_of_le (Nat.lt_succ_self _) hl4) (.slice d4 x4.length e4)
  go_wp2
  have hz1 := hb1.size
  have hz2 := hb2.size
  have hz3 := hb3.size
  have hz4 := hb4.size
  simp only [size_setCell] at hz2 hz3 hz4
  have ivA := iv_int_cons Ix0 (iv_cons iv1smsmsms (iv_cons iv2smsms (iv_cons iv3sms (iv4s) (by first | omega | (simp only [size_setCell]; omega)) (by first | omega | (simp only [size_setCell]; omega)) (by first | omega | (simp only [size_setCell]; omega))) (by first | omega | (simp only [size_setCell]; omega)) (by first | omega | (simp only [size_setCell]; omega)) (by first | omega | (simp only [size_setCell]; omega))) (by first | omega | (simp only [size_setCell]; omega)) (by first | omega | (simp only [size_setCell]; omega)) (by first | omega | (simp only [size_setCell]; omega)))
  refine bodyPost_ret (v := .agg #[.int .i64 x0, .slice d1 x1.length e1, .slice d2 x2.length e2, .slice d3 x3.length e3, .slice d4 x4.length e4]) (by simp [results, Try.results27, go_sem, z0, y0, z1, y1, z2, y2, z3, y3, z4, y4]) rfl ⟨_, _, _, _, _,  rfl, ?_⟩
  exact hs4x.finI ivA (g := w.heap.size + 1) (by omega) (Nat.lt_of_lt_of_le (Nat.lt_succ_of_lt (Nat.lt_succ_self _)) hl1) [.int .i64 x0, .slice d1 x1.length e1, .slice d2 x2.length e2, .slice d3 x3.length e3, .slice d4 x4.length e4]

end Go.Proofs.Ytndpinikniameaa
