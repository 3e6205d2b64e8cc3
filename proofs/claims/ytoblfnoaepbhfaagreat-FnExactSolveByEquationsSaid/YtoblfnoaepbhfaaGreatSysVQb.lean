import Derived.Test.YtoblfnoaepbhfaaGreatSysTQb
import Derived.Test.YtoblfnoaepbhfaaGreatDomBQb
import Derived.Test.YtoblfnoaepbhfaaGreatMarkTQb
set_option linter.unusedSimpArgs false
set_option linter.unusedVariables false
namespace Go.Proofs.YtoblfnoaepbhfaaGreat
open Go.RowKit Go.Shelf Go.IntWalk
open Rep (Rd Own sz)
theorem systemF_ok {t : Tmpl} {x : Inst} (h : instOk t x = true) : systemF t x = sysF t x := by unfold systemF; rw [if_pos h]
theorem systemF_bad {t : Tmpl} {x : Inst} (h : instOk t x = false) : systemF t x = ((0, 0, []), 1) := by unfold systemF; rw [h]; rfl
set_option maxRecDepth 100000 in
set_option maxHeartbeats 4000000 in
theorem SystemOf_c (t : Tmpl) (t0 t1 : Value) (x : Inst) (x0 x1 : Value) (w : World) (ht : Rd w [t0, t1] t) (hx : Rd w [x0, x1] x) :
    Calls Tryz.prog 26 #[.agg #[t0, t1], .agg #[x0, x1]] w fun e w' => ∃ u0 u1 u2, e = .returned (.tuple #[.agg #[u0, u1, u2], .int .i64 (systemF t x).2]) ∧ Fresh w.heap.size w' [u0, u1, u2] (systemF t x).1 ∧ Below w.heap.size w w' := by
  obtain ⟨size, rs⟩ := t
  obtain ⟨vars, cs⟩ := x
  have HT := Lib.hid ht
  have HX := Lib.hid hx
  have zt := rd_cons rfl ht
  obtain ⟨rfl, _⟩ := rd_i1 zt.1
  obtain ⟨at0, ct0, rfl, _⟩ := rd_list zt.2
  have zx := rd_cons rfl hx
  obtain ⟨rfl, _⟩ := rd_i1 zx.1
  obtain ⟨ax, cx, rfl, _⟩ := rd_list zx.2
  clear ht hx zt zx
  have hs1 := (St.start w).alloc #[.int .i64 size, .slice at0 rs.length ct0] 42 (n := w.heap.size) (by simp)
  have k0_0 := hs1.cellAt 0 rfl 0 rfl
  have k0_1 := hs1.cellAt 0 rfl 1 rfl
  have hs2 := hs1.alloc #[.int .i64 vars, .slice ax cs.length cx] 46 (n := w.heap.size + 1) (by simp)
  clear k0_0 k0_1
  have k0_0 := hs2.cellAt 0 rfl 0 rfl
  have k0_1 := hs2.cellAt 0 rfl 1 rfl
  have k1_0 := hs2.cellAt 1 rfl 0 rfl
  have k1_1 := hs2.cellAt 1 rfl 1 rfl
  have hs3 := hs2.alloc #[.int .i64 0, .int .i64 0, .slice none 0 0] 61 (n := w.heap.size + 1 + 1) (by simp)
  clear k0_0 k0_1 k1_0 k1_1
  have k0_0 := hs3.cellAt 0 rfl 0 rfl
  have k0_1 := hs3.cellAt 0 rfl 1 rfl
  have k1_0 := hs3.cellAt 1 rfl 0 rfl
  have k1_1 := hs3.cellAt 1 rfl 1 rfl
  have k2_0 := hs3.cellAt 2 rfl 0 rfl
  have k2_1 := hs3.cellAt 2 rfl 1 rfl
  have k2_2 := hs3.cellAt 2 rfl 2 rfl
  go_enter Tryz.func26, Tryz.ntmps26
  go_wp2_with fail
  refine (ValidInstance_c (size, rs) (vars, cs) _ _ _ _ _ (Rd.mono HT.out hs3.bel) (Rd.mono HX.out hs3.bel)).mono ?_
  rintro e w4 ⟨rfl, hbw4⟩
  have hz_w4 : w.heap.size + 1 + 1 + 1 ≤ w4.heap.size := by have h9 := hbw4.size; (try simp at h9); omega
  have hs5 := hs3.step hbw4
  clear k0_0 k0_1 k1_0 k1_1 k2_0 k2_1 k2_2
  have k0_0 := hs5.cellAt 0 rfl 0 rfl
  have k0_1 := hs5.cellAt 0 rfl 1 rfl
  have k1_0 := hs5.cellAt 1 rfl 0 rfl
  have k1_1 := hs5.cellAt 1 rfl 1 rfl
  have k2_0 := hs5.cellAt 2 rfl 0 rfl
  have k2_1 := hs5.cellAt 2 rfl 1 rfl
  have k2_2 := hs5.cellAt 2 rfl 2 rfl
  cases hok : instOk (size, rs) (vars, cs) with
  | false =>
    have H1 := Lib.hid (systemF_bad hok)
    clear hok
    have f2_0 := hs5.freeAt 2 rfl 0
    have f2_1 := hs5.freeAt 2 rfl 1
    have f2_2 := hs5.freeAt 2 rfl 2
    go_wp2_with fail
    have hs6 := hs5.set (p := [_, _]) (by simp <;> omega) 0 (.int .i64 0)
    have hs7 := hs6.set (p := [_, _]) (by simp <;> omega) 1 (.int .i64 0)
    have hs8 := hs7.set (p := [_, _]) (by simp <;> omega) 2 (.slice none 0 0)
    have x0 := (hs8.cellAt 2 rfl 0 rfl)
    have x1 := (hs8.cellAt 2 rfl 1 rfl)
    have x2 := (hs8.cellAt 2 rfl 2 rfl)
    refine bodyPost_ret (v := .tuple #[.agg #[.int .i64 0, .int .i64 0, .slice none 0 0], .int .i64 1]) (by simp [results, Tryz.results26, go_sem, x0, x1, x2]) rfl ⟨_, _, _, by rw [H1.out], ?_, hs8.bel⟩
    rw [H1.out]; exact ⟨[], own0_sys, by simp, by simp⟩
  | true =>
    have HK := Lib.hid hok
    have H1 := Lib.hid (systemF_ok hok)
    clear hok
    have hlo := hs5.hi
    go_wp2_with fail
    refine (systemOf_c (size, rs) (vars, cs) _ _ _ _ _ (Rd.mono HT.out hs5.bel) (Rd.mono HX.out hs5.bel) HK.out).mono ?_
    rintro e w9 ⟨u0, u1, u2, rfl, fr9, hbw9⟩
    have hz_w9 : w4.heap.size ≤ w9.heap.size := by have h9 := hbw9.size; (try simp at h9); omega
    have hs10 := hs5.step hbw9
    clear k0_0 k0_1 k1_0 k1_1 k2_0 k2_1 k2_2
    have k0_0 := hs10.cellAt 0 rfl 0 rfl
    have k0_1 := hs10.cellAt 0 rfl 1 rfl
    have k1_0 := hs10.cellAt 1 rfl 0 rfl
    have k1_1 := hs10.cellAt 1 rfl 1 rfl
    have k2_0 := hs10.cellAt 2 rfl 0 rfl
    have k2_1 := hs10.cellAt 2 rfl 1 rfl
    have k2_2 := hs10.cellAt 2 rfl 2 rfl
    have z9 := fr9.rd
    generalize hSF : sysF (size, rs) (vars, cs) = SF at *
    obtain ⟨⟨p9, n9, l9⟩, cd9⟩ := SF
    have z8 := rd_cons rfl z9
    obtain ⟨rfl, _⟩ := rd_i1 z8.1
    have z7 := rd_cons rfl z8.2
    obtain ⟨rfl, _⟩ := rd_i1 z7.1
    obtain ⟨a9, c9, rfl, _⟩ := rd_list z7.2
    have HFR := Lib.hid fr9
    clear z9 z8 z7 fr9 hSF
    have f2_0 := hs10.freeAt 2 rfl 0
    have f2_1 := hs10.freeAt 2 rfl 1
    have f2_2 := hs10.freeAt 2 rfl 2
    go_wp2_with fail
    have hs11 := hs10.set (p := [_, _]) (by simp <;> omega) 0 (.int .i64 p9)
    have hs12 := hs11.set (p := [_, _]) (by simp <;> omega) 1 (.int .i64 n9)
    have hs13 := hs12.set (p := [_, _]) (by simp <;> omega) 2 (.slice a9 l9.length c9)
    have x0 := (hs13.cellAt 2 rfl 0 rfl)
    have x1 := (hs13.cellAt 2 rfl 1 rfl)
    have x2 := (hs13.cellAt 2 rfl 2 rfl)
    refine bodyPost_ret (v := .tuple #[.agg #[.int .i64 p9, .int .i64 n9, .slice a9 l9.length c9], .int .i64 cd9]) (by simp [results, Tryz.results26, go_sem, x0, x1, x2]) rfl ⟨_, _, _, by rw [H1.out], ?_, hs13.bel⟩
    rw [H1.out]
    exact (((HFR.out.setCell (a := ⟨w.heap.size + 1 + 1, 0, none⟩) (by (try simp) <;> (try simp at hlo) <;> omega) _).setCell (a := ⟨w.heap.size + 1 + 1, 1, none⟩) (by (try simp) <;> (try simp at hlo) <;> omega) _).setCell (a := ⟨w.heap.size + 1 + 1, 2, none⟩) (by (try simp) <;> (try simp at hlo) <;> omega) _).lower (by (try simp) <;> (try simp at hlo) <;> omega)
end Go.Proofs.YtoblfnoaepbhfaaGreat

