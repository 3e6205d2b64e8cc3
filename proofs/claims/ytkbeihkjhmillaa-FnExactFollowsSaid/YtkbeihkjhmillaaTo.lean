/-
  CONTRACTS of the laws' functions on types: to. (Printed by wip/gentypes.py.)
-/
import Derived.Test.YtkbeihkjhmillaaSz
namespace Go.Proofs.Ytkbeihkjhmillaa
open Go.RowKit
open Rep (Rd Own sz)
set_option linter.unusedSimpArgs false
set_option linter.unusedVariables false


theorem size_setCell (w : World) (a : Addr) (v : Value) : (w.setCell a v).heap.size = w.heap.size := by simp [World.setCell]
theorem toInt64S_b (l : List Int) (v : Value) (w : World) (r : Rd w [v] l) (hc : l.length ≤ 1048576) :
    Calls Try.prog 18 #[v] w fun e w' => ∃ v', e = .returned v' ∧ Fresh w.heap.size w' [v'] l ∧ Below w.heap.size w w' := toInt64S_c l v w r (by omega)
set_option maxRecDepth 100000 in
set_option maxHeartbeats 1000000 in
theorem toEquation_b (x : Eqn) (v0 v1 : Value) (w : World) (hx : Rd w [v0, v1] x) (hc : cost_Equation x ≤ 1048576) :
    Calls Try.prog 37 #[.agg #[v0, v1]] w fun e w' => ∃ u0 u1, e = .returned (.agg #[u0, u1]) ∧ Fresh w.heap.size w' [u0, u1] x ∧ Below w.heap.size w w' := by
  obtain ⟨x0, x1⟩ := x
  simp only [cost_Equation] at hc
  have tx0 := rd_cons rfl hx
  have Rx0 := Lib.hid tx0.1
  obtain ⟨ax0, cx0, rfl, _⟩ := rd_list Rx0.out
  obtain ⟨rfl, Ix1⟩ := rd_i1 tx0.2
  clear hx tx0
  have hs := (((St.start w).alloc #[.slice ax0 x0.length cx0, .int .i64 x1] 45 rfl).alloc #[.slice none 0 0, .int .i64 0] 48 (n := w.heap.size + 1) (by simp)).alloc #[.slice none 0 0, .int .i64 0] 48 (n := w.heap.size + 1 + 1) (by simp)
  go_enter Try.func37, Try.ntmps37
  have hl0 := hs.hi
  go_wp2_with fail
  refine (toInt64S_b x0 _ _ (Rd.mono Rx0.out hs.bel) (by omega)).mono ?_
  rintro e w1 ⟨b0, rfl, fr0, hb1⟩
  have iv0 := Fresh.iv fr0
  obtain ⟨d0, e0, rfl, _⟩ := rd_list (Iv.rd iv0)
  have hs1 := hs.step hb1
  clear fr0
  have p0 := hs1.cellAt 0 rfl 0 rfl
  have p1 := hs1.cellAt 0 rfl 1 rfl
  have s0 := hs1.cellAt 2 rfl 0 rfl
  have f0 := hs1.freeAt 2 rfl 0
  have s1 := hs1.cellAt 2 rfl 1 rfl
  have f1 := hs1.freeAt 2 rfl 1
  have z0 := hs1.cellAt 1 rfl 0 rfl
  have y0 := hs1.freeAt 1 rfl 0
  have z1 := hs1.cellAt 1 rfl 1 rfl
  have y1 := hs1.freeAt 1 rfl 1
  have hs1x := hs1.set (p := [_, _]) (by simp <;> omega) 0 (.slice d0 x0.length e0)
  have iv0s := iv0.setCell (a := ⟨w.heap.size + 1 + 1, 0, none⟩) (Nat.lt_of_lt_of_le (Nat.lt_succ_self _) hl0) (.slice d0 x0.length e0)
  have hs1xx := hs1x.set (p := [_, _]) (by simp <;> omega) 1 (.int .i64 x1)
  have iv0ss := iv0s.setCell (a := ⟨w.heap.size + 1 + 1, 1, none⟩) (Nat.lt_of_lt_of_le (Nat.lt_succ_self _) hl0) (.int .i64 x1)
  go_wp2
  have ivA := iv_cons_int Ix1 iv0ss
  refine bodyPost_ret (v := .agg #[.slice d0 x0.length e0, .int .i64 x1]) (by simp [results, Try.results37, go_sem, z0, y0, z1, y1]) rfl ⟨_, _,  rfl, ?_⟩
  exact hs1xx.finI ivA (g := w.heap.size + 1) (by omega) (Nat.lt_of_lt_of_le (Nat.lt_succ_of_lt (Nat.lt_succ_self _)) hl0) [.slice d0 x0.length e0, .int .i64 x1]
set_option maxRecDepth 100000 in
set_option maxHeartbeats 1000000 in
theorem toEquationS_b (l : List (Eqn)) (v : Value) (w : World) (r : Rd w [v] l) (hc : cost_EquationS l ≤ 1048576) :
    Calls Try.prog 65 #[v] w fun e w' => ∃ v', e = .returned v' ∧ Fresh w.heap.size w' [v'] l ∧ Below w.heap.size w w' := by
  obtain ⟨a, c, rfl, h⟩ := rd_list r
  clear r
  have hnc : l.length ≤ 1048576 := by unfold cost_EquationS cL at hc; omega
  have HC := Lib.hid hc
  generalize hn : l.length = n at *
  have HN := Lib.hid hn
  have HH := Lib.hid h
  clear hn h hc
  go_enter Try.func65, Try.ntmps65
  go_wp2_with (at_make; refine wpList_make_rep w rfl _ _ 29 rfl E_eqns (([], 0) : Eqn) own0_eqn n (by omega) rfl rfl ?_)
  intro w1 hown hb1 hs1
  have IV := Lib.hid (iv_made hown)
  have HB := Lib.hid hb1
  clear hown hb1
  go_wp2_with fail
  go_loopw [4] (fun i wr => ∃ j : Nat, j ≤ n ∧ i = .int .i64 j ∧ Hid (Below w.heap.size w wr) ∧ Hid (Iv w.heap.size wr.heap.size wr [.slice (some ⟨w.heap.size, 0, none⟩) n n] (filledG (([], 0) : Eqn) l j)) ∧ w.heap.size < wr.heap.size) (fun i _ => n - (intOf i).toNat)
  case atStart => exact ⟨0, Nat.zero_le _, rfl, HB.out, by rw [filledG_zero, HN.out]; show Iv _ _ _ _ _; rw [hs1]; exact IV.out, by omega⟩
  case round =>
    obtain ⟨j, hj, rfl, hbl, hiv, hlt0⟩ := hrel
    by_cases hlt : j < n
    · have hjl : j < l.length := by rw [HN.out]; exact hlt
      obtain ⟨b, o, u0, u1, rfl, q0, q1, hx⟩ := rdSl_two rfl (rdSl_mono hbl.out HH.out) j hjl
      have HX := Lib.hid hx
      clear hx
      go_wp2_with fail
      refine (toEquation_b l[j] _ _ _ HX.out (by have := cL_mem cost_Equation l j hjl; have := HC.out; unfold cost_EquationS at this; omega)).mono ?_
      rintro e w2 ⟨b0, b1, rfl, fr, hb2⟩
      have hlen := filledG_length (([], 0) : Eqn) l j (by omega)
      have ivo := hiv.out.mono hb2
      have ive := Fresh.iv fr
      obtain ⟨g, o', c', cur, et, hv, hh, hg1, hg2, hsz⟩ := iv_form' ivo (by rw [hlen]; omega) (by simp)
      simp only [Value.slice.injEq, Option.some.injEq, Addr.mk.injEq] at hv
      obtain ⟨⟨rfl, rfl, -⟩, -, rfl⟩ := hv
      rw [hlen, HN.out, Nat.zero_add, show sz (Eqn) = 2 from rfl] at hsz
      have hrd := Iv.rd ive
      have r0 := rd_cons rfl hrd
      obtain ⟨d0, e0, rfl, _⟩ := rd_list r0.1
      obtain ⟨rfl, _⟩ := rd_i1 r0.2
      have s0 := cell_of_heap hh (q := j * 2) (by omega)
      have f0 := free_at_block (o := j * 2) hh
      have s1 := cell_of_heap hh (q := j * 2 + 1) (by omega)
      have f1 := free_at_block (o := j * 2 + 1) hh
      have OV := Lib.hid ivo
      have EV := Lib.hid ive
      have HSZ := Lib.hid hsz
      clear hrd fr hh ivo ive r0
      go_wp2
      go_roundw
      case rel =>
        have hz := hb2.size
        have hop := putCells_only w.heap.size [.slice d0 (l[j].1).length e0, .int .i64 l[j].2] (j * 2) w2
        refine ⟨j + 1, by omega, by go_num, (hbl.out.trans (hb2.mono hbl.out.size)).trans (hop.below (by simp)), ?_, ?_⟩
        · have := iv_put' OV.out j (by rw [filledG_length _ _ _ (by omega)]; omega) EV.out hz (q := j * 2) (by simp)
          rw [filledG_succ _ _ _ hjl] at this
          show Iv _ _ _ _ _
          have hz2 := hop.size
          rw [← hz2] at this
          exact this
        · have hz2 := hop.size
          exact Nat.lt_of_lt_of_le hlt0 (by rw [← hz2] at hz; exact hz)
      case measure => simp [intOf]; omega
    · obtain rfl : j = n := by omega
      go_wp2_with fail
      go_ret
      refine ⟨_, rfl, ?_, hbl.out⟩
      have := hiv.out
      rw [← HN.out, filledG_all, HN.out] at this
      exact Iv.fresh this
set_option maxRecDepth 100000 in
set_option maxHeartbeats 1000000 in
theorem toSystem_b (x : Sys) (v0 v1 v2 : Value) (w : World) (hx : Rd w [v0, v1, v2] x) (hc : cost_System x ≤ 1048576) :
    Calls Try.prog 17 #[.agg #[v0, v1, v2]] w fun e w' => ∃ u0 u1 u2, e = .returned (.agg #[u0, u1, u2]) ∧ Fresh w.heap.size w' [u0, u1, u2] x ∧ Below w.heap.size w w' := by
  obtain ⟨x0, x1, x2⟩ := x
  simp only [cost_System] at hc
  have tx0 := rd_cons rfl hx
  obtain ⟨rfl, Ix0⟩ := rd_i1 tx0.1
  have tx1 := rd_cons rfl tx0.2
  obtain ⟨rfl, Ix1⟩ := rd_i1 tx1.1
  have Rx2 := Lib.hid tx1.2
  obtain ⟨ax2, cx2, rfl, _⟩ := rd_list Rx2.out
  clear hx tx0 tx1
  have hs := (((St.start w).alloc #[.int .i64 x0, .int .i64 x1, .slice ax2 x2.length cx2] 24 rfl).alloc #[.int .i64 0, .int .i64 0, .slice none 0 0] 31 (n := w.heap.size + 1) (by simp)).alloc #[.int .i64 x0, .int .i64 x1, .slice none 0 0] 31 (n := w.heap.size + 1 + 1) (by simp)
  go_enter Try.func17, Try.ntmps17
  have hl2 := hs.hi
  go_wp2_with fail
  refine (toEquationS_b x2 _ _ (Rd.mono Rx2.out hs.bel) (by omega)).mono ?_
  rintro e w1 ⟨b2, rfl, fr2, hb1⟩
  have iv2 := Fresh.iv fr2
  obtain ⟨d2, e2, rfl, _⟩ := rd_list (Iv.rd iv2)
  have hs1 := hs.step hb1
  clear fr2
  have p0 := hs1.cellAt 0 rfl 0 rfl
  have p1 := hs1.cellAt 0 rfl 1 rfl
  have p2 := hs1.cellAt 0 rfl 2 rfl
  have s0 := hs1.cellAt 2 rfl 0 rfl
  have f0 := hs1.freeAt 2 rfl 0
  have s1 := hs1.cellAt 2 rfl 1 rfl
  have f1 := hs1.freeAt 2 rfl 1
  have s2 := hs1.cellAt 2 rfl 2 rfl
  have f2 := hs1.freeAt 2 rfl 2
  have z0 := hs1.cellAt 1 rfl 0 rfl
  have y0 := hs1.freeAt 1 rfl 0
  have z1 := hs1.cellAt 1 rfl 1 rfl
  have y1 := hs1.freeAt 1 rfl 1
  have z2 := hs1.cellAt 1 rfl 2 rfl
  have y2 := hs1.freeAt 1 rfl 2
  have hs1x := hs1.set (p := [_, _]) (by simp <;> omega) 2 (.slice d2 x2.length e2)
  have iv2s := iv2.setCell (a := ⟨w.heap.size + 1 + 1, 2, none⟩) (Nat.lt_of_lt_of_le (Nat.lt_succ_self _) hl2) (.slice d2 x2.length e2)
  go_wp2
  have ivA := iv_int_cons Ix0 (iv_int_cons Ix1 (iv2s))
  refine bodyPost_ret (v := .agg #[.int .i64 x0, .int .i64 x1, .slice d2 x2.length e2]) (by simp [results, Try.results17, go_sem, z0, y0, z1, y1, z2, y2]) rfl ⟨_, _, _,  rfl, ?_⟩
  exact hs1x.finI ivA (g := w.heap.size + 1) (by omega) (Nat.lt_of_lt_of_le (Nat.lt_succ_of_lt (Nat.lt_succ_self _)) hl2) [.int .i64 x0, .int .i64 x1, .slice d2 x2.length e2]

end Go.Proofs.Ytkbeihkjhmillaa
