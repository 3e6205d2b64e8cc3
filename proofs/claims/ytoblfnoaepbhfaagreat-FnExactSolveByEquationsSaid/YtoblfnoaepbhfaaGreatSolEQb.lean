import Derived.Test.YtoblfnoaepbhfaaGreatSysVQb
import Derived.Test.YtoblfnoaepbhfaaGreatSolBQb
import Derived.Test.YtoblfnoaepbhfaaGreatFailBQb
set_option linter.unusedSimpArgs false
set_option linter.unusedVariables false
namespace Go.Proofs.YtoblfnoaepbhfaaGreat
open Go.RowKit Go.Shelf Go.IntWalk
open Rep (Rd Own sz)
theorem fresh_vdN {lo : Nat} {w : World} {k : Int} {v : Value} {l : List Int} (hI : I64 k) (h : Fresh lo w [v] l) : Fresh lo w [.int .i64 k, .slice none 0 0, .slice none 0 0, .slice none 0 0, v] ((k, [], [], [], l) : Vdct) := by
  obtain ⟨ps, h1, h2, h3⟩ := h
  have e : ∀ {α : Type} [Rep α], Own [] w [.slice none 0 0] ([] : List α) := ⟨_, rfl, .inl ⟨rfl, rfl, none, 0, rfl, Nat.zero_le _⟩⟩
  exact ⟨[] ++ ([] ++ ([] ++ ([] ++ ps))), mk_own ⟨rfl, rfl, hI⟩ (mk_own e (mk_own e (mk_own e h1))), by simpa using h2, fun k hk => h3 k (by simpa using hk)⟩
def solveEF (t : Tmpl) (x : Inst) : Vdct × Int :=
  if (systemF t x).2 = 0 then (if (solveF (systemF t x).1).2 = 0 then ((0, (solveF (systemF t x).1).1, [], [], []), 0) else ((3, [], [], [], (refuteF (systemF t x).1).1), 0)) else (vd0, (systemF t x).2)
set_option maxRecDepth 100000 in
set_option maxHeartbeats 8000000 in
theorem SolveByEquations_c (t : Tmpl) (t0 t1 : Value) (x : Inst) (x0 x1 : Value) (w : World) (ht : Rd w [t0, t1] t) (hx : Rd w [x0, x1] x) :
    Calls Tryz.prog 31 #[.agg #[t0, t1], .agg #[x0, x1]] w fun e w' => ∃ u0 u1 u2 u3 u4, e = .returned (.tuple #[.agg #[u0, u1, u2, u3, u4], .int .i64 (solveEF t x).2]) ∧ Fresh w.heap.size w' [u0, u1, u2, u3, u4] (solveEF t x).1 ∧ Below w.heap.size w w' := by
  have hEF : solveEF t x = (if (systemF t x).2 = 0 then (if (solveF (systemF t x).1).2 = 0 then ((0, (solveF (systemF t x).1).1, [], [], []), 0) else ((3, [], [], [], (refuteF (systemF t x).1).1), 0)) else (vd0, (systemF t x).2)) := rfl
  have HEF := Lib.hid hEF
  have hSB := fun (h : instOk t x = false) => systemF_bad h
  have hSO := fun (h : instOk t x = true) => systemF_ok h
  clear hEF
  obtain ⟨size, rs⟩ := t
  obtain ⟨vars, cs⟩ := x
  have HT := Lib.hid ht
  have HX := Lib.hid hx
  have zt := rd_cons rfl ht
  obtain ⟨rfl, _⟩ := rd_i1 zt.1
  obtain ⟨at0, ct0, rfl, _⟩ := rd_list zt.2
  have zx := rd_cons rfl hx
  obtain ⟨rfl, _⟩ := rd_i1 zx.1
  obtain ⟨ax, cx, rfl, _⟩ := rd_list zx.2
  clear ht hx zt zx
  have hs1 := (St.start w).alloc #[.int .i64 size, .slice at0 rs.length ct0] 42 (n := w.heap.size) (by simp)
  have k0_0 := hs1.cellAt 0 rfl 0 rfl
  have k0_1 := hs1.cellAt 0 rfl 1 rfl
  have hs2 := hs1.alloc #[.int .i64 vars, .slice ax cs.length cx] 46 (n := w.heap.size + 1) (by simp)
  clear k0_0 k0_1
  have k0_0 := hs2.cellAt 0 rfl 0 rfl
  have k0_1 := hs2.cellAt 0 rfl 1 rfl
  have k1_0 := hs2.cellAt 1 rfl 0 rfl
  have k1_1 := hs2.cellAt 1 rfl 1 rfl
  have hs3 := hs2.alloc #[.int .i64 0, .slice none 0 0, .slice none 0 0, .slice none 0 0, .slice none 0 0] 37 (n := w.heap.size + 1 + 1) (by simp)
  clear k0_0 k0_1 k1_0 k1_1
  have k0_0 := hs3.cellAt 0 rfl 0 rfl
  have k0_1 := hs3.cellAt 0 rfl 1 rfl
  have k1_0 := hs3.cellAt 1 rfl 0 rfl
  have k1_1 := hs3.cellAt 1 rfl 1 rfl
  have k2_0 := hs3.cellAt 2 rfl 0 rfl
  have k2_1 := hs3.cellAt 2 rfl 1 rfl
  have k2_2 := hs3.cellAt 2 rfl 2 rfl
  have k2_3 := hs3.cellAt 2 rfl 3 rfl
  have k2_4 := hs3.cellAt 2 rfl 4 rfl
  have hlo := hs3.hi
  go_enter Tryz.func31, Tryz.ntmps31
  go_wp2_with fail
  refine (SystemOf_c (size, rs) _ _ (vars, cs) _ _ _ (Rd.mono HT.out hs3.bel) (Rd.mono HX.out hs3.bel)).mono ?_
  rintro e w4 ⟨u0, u1, u2, rfl, fr9, hbw4⟩
  have hz_w4 : w.heap.size + 1 + 1 + 1 ≤ w4.heap.size := by have h9 := hbw4.size; (try simp at h9); omega
  have hs5 := hs3.step hbw4
  clear k0_0 k0_1 k1_0 k1_1 k2_0 k2_1 k2_2 k2_3 k2_4
  have k0_0 := hs5.cellAt 0 rfl 0 rfl
  have k0_1 := hs5.cellAt 0 rfl 1 rfl
  have k1_0 := hs5.cellAt 1 rfl 0 rfl
  have k1_1 := hs5.cellAt 1 rfl 1 rfl
  have k2_0 := hs5.cellAt 2 rfl 0 rfl
  have k2_1 := hs5.cellAt 2 rfl 1 rfl
  have k2_2 := hs5.cellAt 2 rfl 2 rfl
  have k2_3 := hs5.cellAt 2 rfl 3 rfl
  have k2_4 := hs5.cellAt 2 rfl 4 rfl
  have z9 := fr9.rd
  generalize hSF : systemF (size, rs) (vars, cs) = SF at *
  obtain ⟨⟨p9, n9, l9⟩, cd9⟩ := SF
  have z8 := rd_cons rfl z9
  obtain ⟨rfl, _⟩ := rd_i1 z8.1
  have z7 := rd_cons rfl z8.2
  obtain ⟨rfl, _⟩ := rd_i1 z7.1
  obtain ⟨a9, c9, rfl, _⟩ := rd_list z7.2
  have HS9 := Lib.hid z9
  clear z9 z8 z7 fr9 hSF
  simp only at HEF
  have hs6 := hs5.alloc #[.int .i64 p9, .int .i64 n9, .slice a9 l9.length c9] 61 (n := w4.heap.size) (by simp)
  have HS9_7 := Lib.hid (Rd.mono HS9.out (belowA _ (.cells #[.int .i64 p9, .int .i64 n9, .slice a9 l9.length c9] 61)))
  clear HS9
  clear k0_0 k0_1 k1_0 k1_1 k2_0 k2_1 k2_2 k2_3 k2_4
  have k0_0 := hs6.cellAt 0 rfl 0 rfl
  have k0_1 := hs6.cellAt 0 rfl 1 rfl
  have k1_0 := hs6.cellAt 1 rfl 0 rfl
  have k1_1 := hs6.cellAt 1 rfl 1 rfl
  have k2_0 := hs6.cellAt 2 rfl 0 rfl
  have k2_1 := hs6.cellAt 2 rfl 1 rfl
  have k2_2 := hs6.cellAt 2 rfl 2 rfl
  have k2_3 := hs6.cellAt 2 rfl 3 rfl
  have k2_4 := hs6.cellAt 2 rfl 4 rfl
  have k3_0 := hs6.cellAt 3 rfl 0 rfl
  have k3_1 := hs6.cellAt 3 rfl 1 rfl
  have k3_2 := hs6.cellAt 3 rfl 2 rfl
  by_cases hc : cd9 = 0
  · subst hc
    rw [if_pos rfl] at HEF
    go_wp2_with fail
    refine (SolveSystem_c (p9, n9, l9) _ _ _ _ HS9_7.out).mono ?_
    rintro e w8 ⟨v8, rfl, fr8, hbw8⟩
    have hz_w8 : w4.heap.size + 1 ≤ w8.heap.size := by have h9 := hbw8.size; (try simp at h9); omega
    have hs9 := hs6.step hbw8
    have HS9_10 := Lib.hid (Rd.mono HS9_7.out hbw8)
    clear HS9_7
    clear k0_0 k0_1 k1_0 k1_1 k2_0 k2_1 k2_2 k2_3 k2_4 k3_0 k3_1 k3_2
    have k0_0 := hs9.cellAt 0 rfl 0 rfl
    have k0_1 := hs9.cellAt 0 rfl 1 rfl
    have k1_0 := hs9.cellAt 1 rfl 0 rfl
    have k1_1 := hs9.cellAt 1 rfl 1 rfl
    have k2_0 := hs9.cellAt 2 rfl 0 rfl
    have k2_1 := hs9.cellAt 2 rfl 1 rfl
    have k2_2 := hs9.cellAt 2 rfl 2 rfl
    have k2_3 := hs9.cellAt 2 rfl 3 rfl
    have k2_4 := hs9.cellAt 2 rfl 4 rfl
    have k3_0 := hs9.cellAt 3 rfl 0 rfl
    have k3_1 := hs9.cellAt 3 rfl 1 rfl
    have k3_2 := hs9.cellAt 3 rfl 2 rfl
    generalize solveF (p9, n9, l9) = SV at *
    obtain ⟨sv, sc⟩ := SV
    simp only at HEF fr8
    obtain ⟨a8, c8, rfl, _⟩ := rd_list fr8.rd
    have HF8 := Lib.hid fr8
    clear fr8
    by_cases hs0 : sc = 0
    · subst hs0
      rw [if_pos rfl] at HEF
      go_wp2_with fail
      refine (solution_c _ _ _ _).mono ?_
      rintro e w11 ⟨rfl, hbw11⟩
      have hz_w11 : w8.heap.size ≤ w11.heap.size := by have h9 := hbw11.size; (try simp at h9); omega
      have hs12 := hs9.step hbw11
      have HS9_13 := Lib.hid (Rd.mono HS9_10.out hbw11)
      clear HS9_10
      have HF8_14 := Lib.hid (Fresh.mono HF8.out hbw11)
      clear HF8
      clear k0_0 k0_1 k1_0 k1_1 k2_0 k2_1 k2_2 k2_3 k2_4 k3_0 k3_1 k3_2
      have k0_0 := hs12.cellAt 0 rfl 0 rfl
      have k0_1 := hs12.cellAt 0 rfl 1 rfl
      have k1_0 := hs12.cellAt 1 rfl 0 rfl
      have k1_1 := hs12.cellAt 1 rfl 1 rfl
      have k2_0 := hs12.cellAt 2 rfl 0 rfl
      have k2_1 := hs12.cellAt 2 rfl 1 rfl
      have k2_2 := hs12.cellAt 2 rfl 2 rfl
      have k2_3 := hs12.cellAt 2 rfl 3 rfl
      have k2_4 := hs12.cellAt 2 rfl 4 rfl
      have k3_0 := hs12.cellAt 3 rfl 0 rfl
      have k3_1 := hs12.cellAt 3 rfl 1 rfl
      have k3_2 := hs12.cellAt 3 rfl 2 rfl
      have HF9 := Lib.hid (fresh_vd (k := 0) ⟨by decide, by decide⟩ HF8_14.out)
      have f2_0 := hs12.freeAt 2 rfl 0
      have f2_1 := hs12.freeAt 2 rfl 1
      have f2_2 := hs12.freeAt 2 rfl 2
      have f2_3 := hs12.freeAt 2 rfl 3
      have f2_4 := hs12.freeAt 2 rfl 4
      go_wp2_with fail
      have hs15 := hs12.set (p := [_, _]) (by simp <;> omega) 0 (.int .i64 0)
      have hs16 := hs15.set (p := [_, _]) (by simp <;> omega) 1 (.slice a8 sv.length c8)
      have hs17 := hs16.set (p := [_, _]) (by simp <;> omega) 2 (.slice none 0 0)
      have hs18 := hs17.set (p := [_, _]) (by simp <;> omega) 3 (.slice none 0 0)
      have hs19 := hs18.set (p := [_, _]) (by simp <;> omega) 4 (.slice none 0 0)
      have x0 := (hs19.cellAt 2 rfl 0 rfl)
      have x1 := (hs19.cellAt 2 rfl 1 rfl)
      have x2 := (hs19.cellAt 2 rfl 2 rfl)
      have x3 := (hs19.cellAt 2 rfl 3 rfl)
      have x4 := (hs19.cellAt 2 rfl 4 rfl)
      refine bodyPost_ret (v := .tuple #[.agg #[.int .i64 0, .slice a8 sv.length c8, .slice none 0 0, .slice none 0 0, .slice none 0 0], .int .i64 0]) (by simp [results, Tryz.results31, go_sem, x0, x1, x2, x3, x4]) rfl ⟨_, _, _, _, _, by rw [HEF.out], ?_, hs19.bel⟩
      rw [HEF.out]
      exact ((((((HF9.out.setCell (a := ⟨w.heap.size + 1 + 1, 0, none⟩) (by (try simp) <;> (try simp at hlo) <;> omega) (.int .i64 0)).setCell (a := ⟨w.heap.size + 1 + 1, 1, none⟩) (by (try simp) <;> (try simp at hlo) <;> omega) (.slice a8 sv.length c8)).setCell (a := ⟨w.heap.size + 1 + 1, 2, none⟩) (by (try simp) <;> (try simp at hlo) <;> omega) (.slice none 0 0)).setCell (a := ⟨w.heap.size + 1 + 1, 3, none⟩) (by (try simp) <;> (try simp at hlo) <;> omega) (.slice none 0 0)).setCell (a := ⟨w.heap.size + 1 + 1, 4, none⟩) (by (try simp) <;> (try simp at hlo) <;> omega) (.slice none 0 0)).lower (by (try simp) <;> (try simp at hlo) <;> omega))
    · rw [if_neg hs0] at HEF
      have hsb : (sc == 0) = false := by rw [beq_eq_false_iff_ne]; exact hs0
      clear hs0
      go_wp2_with fail
      refine (RefuteSystem_c (p9, n9, l9) _ _ _ _ HS9_10.out).mono ?_
      rintro e w20 ⟨v7, rfl, fr7, hbw20⟩
      have hz_w20 : w8.heap.size ≤ w20.heap.size := by have h9 := hbw20.size; (try simp at h9); omega
      have hs21 := hs9.step hbw20
      have HS9_22 := Lib.hid (Rd.mono HS9_10.out hbw20)
      clear HS9_10
      clear k0_0 k0_1 k1_0 k1_1 k2_0 k2_1 k2_2 k2_3 k2_4 k3_0 k3_1 k3_2
      have k0_0 := hs21.cellAt 0 rfl 0 rfl
      have k0_1 := hs21.cellAt 0 rfl 1 rfl
      have k1_0 := hs21.cellAt 1 rfl 0 rfl
      have k1_1 := hs21.cellAt 1 rfl 1 rfl
      have k2_0 := hs21.cellAt 2 rfl 0 rfl
      have k2_1 := hs21.cellAt 2 rfl 1 rfl
      have k2_2 := hs21.cellAt 2 rfl 2 rfl
      have k2_3 := hs21.cellAt 2 rfl 3 rfl
      have k2_4 := hs21.cellAt 2 rfl 4 rfl
      have k3_0 := hs21.cellAt 3 rfl 0 rfl
      have k3_1 := hs21.cellAt 3 rfl 1 rfl
      have k3_2 := hs21.cellAt 3 rfl 2 rfl
      generalize refuteF (p9, n9, l9) = RV at *
      obtain ⟨rv, rc⟩ := RV
      simp only at HEF fr7
      obtain ⟨a7, c7, rfl, _⟩ := rd_list fr7.rd
      have HF7 := Lib.hid (fresh_vdN (k := 3) ⟨by decide, by decide⟩ fr7)
      clear fr7
      have f2_0 := hs21.freeAt 2 rfl 0
      have f2_1 := hs21.freeAt 2 rfl 1
      have f2_2 := hs21.freeAt 2 rfl 2
      have f2_3 := hs21.freeAt 2 rfl 3
      have f2_4 := hs21.freeAt 2 rfl 4
      go_wp2_with fail
      have hs23 := hs21.set (p := [_, _]) (by simp <;> omega) 0 (.int .i64 3)
      have hs24 := hs23.set (p := [_, _]) (by simp <;> omega) 1 (.slice none 0 0)
      have hs25 := hs24.set (p := [_, _]) (by simp <;> omega) 2 (.slice none 0 0)
      have hs26 := hs25.set (p := [_, _]) (by simp <;> omega) 3 (.slice none 0 0)
      have hs27 := hs26.set (p := [_, _]) (by simp <;> omega) 4 (.slice a7 rv.length c7)
      have x0 := (hs27.cellAt 2 rfl 0 rfl)
      have x1 := (hs27.cellAt 2 rfl 1 rfl)
      have x2 := (hs27.cellAt 2 rfl 2 rfl)
      have x3 := (hs27.cellAt 2 rfl 3 rfl)
      have x4 := (hs27.cellAt 2 rfl 4 rfl)
      refine bodyPost_ret (v := .tuple #[.agg #[.int .i64 3, .slice none 0 0, .slice none 0 0, .slice none 0 0, .slice a7 rv.length c7], .int .i64 0]) (by simp [results, Tryz.results31, go_sem, x0, x1, x2, x3, x4]) rfl ⟨_, _, _, _, _, by rw [HEF.out], ?_, hs27.bel⟩
      rw [HEF.out]
      exact ((((((HF7.out.setCell (a := ⟨w.heap.size + 1 + 1, 0, none⟩) (by (try simp) <;> (try simp at hlo) <;> omega) (.int .i64 3)).setCell (a := ⟨w.heap.size + 1 + 1, 1, none⟩) (by (try simp) <;> (try simp at hlo) <;> omega) (.slice none 0 0)).setCell (a := ⟨w.heap.size + 1 + 1, 2, none⟩) (by (try simp) <;> (try simp at hlo) <;> omega) (.slice none 0 0)).setCell (a := ⟨w.heap.size + 1 + 1, 3, none⟩) (by (try simp) <;> (try simp at hlo) <;> omega) (.slice none 0 0)).setCell (a := ⟨w.heap.size + 1 + 1, 4, none⟩) (by (try simp) <;> (try simp at hlo) <;> omega) (.slice a7 rv.length c7)).lower (by (try simp) <;> (try simp at hlo) <;> omega))
  · rw [if_neg hc] at HEF
    have hcb : (cd9 != 0) = true := by rw [bne_iff_ne]; exact hc
    clear hc
    have f2_0 := hs6.freeAt 2 rfl 0
    have f2_1 := hs6.freeAt 2 rfl 1
    have f2_2 := hs6.freeAt 2 rfl 2
    have f2_3 := hs6.freeAt 2 rfl 3
    have f2_4 := hs6.freeAt 2 rfl 4
    go_wp2_with fail
    have hs28 := hs6.set (p := [_, _]) (by simp <;> omega) 0 (.int .i64 0)
    have hs29 := hs28.set (p := [_, _]) (by simp <;> omega) 1 (.slice none 0 0)
    have hs30 := hs29.set (p := [_, _]) (by simp <;> omega) 2 (.slice none 0 0)
    have hs31 := hs30.set (p := [_, _]) (by simp <;> omega) 3 (.slice none 0 0)
    have hs32 := hs31.set (p := [_, _]) (by simp <;> omega) 4 (.slice none 0 0)
    have x0 := (hs32.cellAt 2 rfl 0 rfl)
    have x1 := (hs32.cellAt 2 rfl 1 rfl)
    have x2 := (hs32.cellAt 2 rfl 2 rfl)
    have x3 := (hs32.cellAt 2 rfl 3 rfl)
    have x4 := (hs32.cellAt 2 rfl 4 rfl)
    refine bodyPost_ret (v := .tuple #[.agg #[.int .i64 0, .slice none 0 0, .slice none 0 0, .slice none 0 0, .slice none 0 0], .int .i64 cd9]) (by simp [results, Tryz.results31, go_sem, x0, x1, x2, x3, x4]) rfl ⟨_, _, _, _, _, by rw [HEF.out], ?_, hs32.bel⟩
    rw [HEF.out]; exact fresh_vd ⟨by decide, by decide⟩ fresh_nil_list
set_option maxRecDepth 100000 in
set_option maxHeartbeats 8000000 in
theorem sSolveByEquations_c (t : Tmpl) (t0 t1 : Value) (x : Inst) (x0 x1 : Value) (w : World) (ht : Rd w [t0, t1] t) (hx : Rd w [x0, x1] x) :
    Calls Tryz.prog 30 #[.agg #[t0, t1], .agg #[x0, x1]] w fun e w' => ∃ u0 u1 u2 u3 u4, e = .returned (.tuple #[.agg #[u0, u1, u2, u3, u4], .int .i64 (solveEF t x).2]) ∧ Fresh w.heap.size w' [u0, u1, u2, u3, u4] (solveEF t x).1 ∧ Below w.heap.size w w' := by
  have hEF : solveEF t x = (if (systemF t x).2 = 0 then (if (solveF (systemF t x).1).2 = 0 then ((0, (solveF (systemF t x).1).1, [], [], []), 0) else ((3, [], [], [], (refuteF (systemF t x).1).1), 0)) else (vd0, (systemF t x).2)) := rfl
  have HEF := Lib.hid hEF
  have hSB := fun (h : instOk t x = false) => systemF_bad h
  have hSO := fun (h : instOk t x = true) => systemF_ok h
  clear hEF
  obtain ⟨size, rs⟩ := t
  obtain ⟨vars, cs⟩ := x
  have HT := Lib.hid ht
  have HX := Lib.hid hx
  have zt := rd_cons rfl ht
  obtain ⟨rfl, _⟩ := rd_i1 zt.1
  obtain ⟨at0, ct0, rfl, _⟩ := rd_list zt.2
  have zx := rd_cons rfl hx
  obtain ⟨rfl, _⟩ := rd_i1 zx.1
  obtain ⟨ax, cx, rfl, _⟩ := rd_list zx.2
  clear ht hx zt zx
  have hs33 := (St.start w).alloc #[.int .i64 size, .slice at0 rs.length ct0] 42 (n := w.heap.size) (by simp)
  have k0_0 := hs33.cellAt 0 rfl 0 rfl
  have k0_1 := hs33.cellAt 0 rfl 1 rfl
  have hs34 := hs33.alloc #[.int .i64 vars, .slice ax cs.length cx] 46 (n := w.heap.size + 1) (by simp)
  clear k0_0 k0_1
  have k0_0 := hs34.cellAt 0 rfl 0 rfl
  have k0_1 := hs34.cellAt 0 rfl 1 rfl
  have k1_0 := hs34.cellAt 1 rfl 0 rfl
  have k1_1 := hs34.cellAt 1 rfl 1 rfl
  have hs35 := hs34.alloc #[.int .i64 0, .slice none 0 0, .slice none 0 0, .slice none 0 0, .slice none 0 0] 37 (n := w.heap.size + 1 + 1) (by simp)
  clear k0_0 k0_1 k1_0 k1_1
  have k0_0 := hs35.cellAt 0 rfl 0 rfl
  have k0_1 := hs35.cellAt 0 rfl 1 rfl
  have k1_0 := hs35.cellAt 1 rfl 0 rfl
  have k1_1 := hs35.cellAt 1 rfl 1 rfl
  have k2_0 := hs35.cellAt 2 rfl 0 rfl
  have k2_1 := hs35.cellAt 2 rfl 1 rfl
  have k2_2 := hs35.cellAt 2 rfl 2 rfl
  have k2_3 := hs35.cellAt 2 rfl 3 rfl
  have k2_4 := hs35.cellAt 2 rfl 4 rfl
  have hlo := hs35.hi
  go_enter Tryz.func30, Tryz.ntmps30
  go_wp2_with fail
  refine (l05Ok_c (size, rs) (vars, cs) (w.heap.size) (w.heap.size + 1) _ _ _ _ _ (Rd.mono HT.out hs35.bel) (Rd.mono HX.out hs35.bel) (hs35.cellAt 0 rfl 0 rfl) (hs35.cellAt 0 rfl 1 rfl) (hs35.cellAt 1 rfl 0 rfl) (hs35.cellAt 1 rfl 1 rfl)).mono ?_
  rintro e w36 ⟨rfl, hbw36⟩
  have hz_w36 : w.heap.size + 1 + 1 + 1 ≤ w36.heap.size := by have h9 := hbw36.size; (try simp at h9); omega
  have hs37 := hs35.step hbw36
  clear k0_0 k0_1 k1_0 k1_1 k2_0 k2_1 k2_2 k2_3 k2_4
  have k0_0 := hs37.cellAt 0 rfl 0 rfl
  have k0_1 := hs37.cellAt 0 rfl 1 rfl
  have k1_0 := hs37.cellAt 1 rfl 0 rfl
  have k1_1 := hs37.cellAt 1 rfl 1 rfl
  have k2_0 := hs37.cellAt 2 rfl 0 rfl
  have k2_1 := hs37.cellAt 2 rfl 1 rfl
  have k2_2 := hs37.cellAt 2 rfl 2 rfl
  have k2_3 := hs37.cellAt 2 rfl 3 rfl
  have k2_4 := hs37.cellAt 2 rfl 4 rfl
  cases hok : instOk (size, rs) (vars, cs) with
  | false =>
    have H1 := Lib.hid (show solveEF (size, rs) (vars, cs) = (vd0, 1) by rw [HEF.out, hSB hok]; rfl)
    clear hok hSB hSO
    have f2_0 := hs37.freeAt 2 rfl 0
    have f2_1 := hs37.freeAt 2 rfl 1
    have f2_2 := hs37.freeAt 2 rfl 2
    have f2_3 := hs37.freeAt 2 rfl 3
    have f2_4 := hs37.freeAt 2 rfl 4
    go_wp2_with fail
    have hs38 := hs37.set (p := [_, _]) (by simp <;> omega) 0 (.int .i64 0)
    have hs39 := hs38.set (p := [_, _]) (by simp <;> omega) 1 (.slice none 0 0)
    have hs40 := hs39.set (p := [_, _]) (by simp <;> omega) 2 (.slice none 0 0)
    have hs41 := hs40.set (p := [_, _]) (by simp <;> omega) 3 (.slice none 0 0)
    have hs42 := hs41.set (p := [_, _]) (by simp <;> omega) 4 (.slice none 0 0)
    have x0 := (hs42.cellAt 2 rfl 0 rfl)
    have x1 := (hs42.cellAt 2 rfl 1 rfl)
    have x2 := (hs42.cellAt 2 rfl 2 rfl)
    have x3 := (hs42.cellAt 2 rfl 3 rfl)
    have x4 := (hs42.cellAt 2 rfl 4 rfl)
    refine bodyPost_ret (v := .tuple #[.agg #[.int .i64 0, .slice none 0 0, .slice none 0 0, .slice none 0 0, .slice none 0 0], .int .i64 1]) (by simp [results, Tryz.results30, go_sem, x0, x1, x2, x3, x4]) rfl ⟨_, _, _, _, _, by rw [H1.out], ?_, hs42.bel⟩
    rw [H1.out]; exact fresh_vd ⟨by decide, by decide⟩ fresh_nil_list
  | true =>
    have HK := Lib.hid hok
    have hSO := hSO hok
    clear hok hSB
    go_wp2_with fail
    refine (l06System_c (size, rs) (vars, cs) (w.heap.size) (w.heap.size + 1) _ _ _ _ _ (Rd.mono HT.out hs37.bel) (Rd.mono HX.out hs37.bel) HK.out (hs37.cellAt 0 rfl 0 rfl) (hs37.cellAt 0 rfl 1 rfl) (hs37.cellAt 1 rfl 0 rfl) (hs37.cellAt 1 rfl 1 rfl)).mono ?_
    rintro e w43 ⟨u0, u1, u2, rfl, fr9, hbw43⟩
    have hz_w43 : w36.heap.size ≤ w43.heap.size := by have h9 := hbw43.size; (try simp at h9); omega
    have hs44 := hs37.step hbw43
    clear k0_0 k0_1 k1_0 k1_1 k2_0 k2_1 k2_2 k2_3 k2_4
    have k0_0 := hs44.cellAt 0 rfl 0 rfl
    have k0_1 := hs44.cellAt 0 rfl 1 rfl
    have k1_0 := hs44.cellAt 1 rfl 0 rfl
    have k1_1 := hs44.cellAt 1 rfl 1 rfl
    have k2_0 := hs44.cellAt 2 rfl 0 rfl
    have k2_1 := hs44.cellAt 2 rfl 1 rfl
    have k2_2 := hs44.cellAt 2 rfl 2 rfl
    have k2_3 := hs44.cellAt 2 rfl 3 rfl
    have k2_4 := hs44.cellAt 2 rfl 4 rfl
    rw [← hSO] at fr9
    rw [← hSO]
    clear hSO
    have z9 := fr9.rd
    generalize hSF : systemF (size, rs) (vars, cs) = SF at *
    obtain ⟨⟨p9, n9, l9⟩, cd9⟩ := SF
    have z8 := rd_cons rfl z9
    obtain ⟨rfl, _⟩ := rd_i1 z8.1
    have z7 := rd_cons rfl z8.2
    obtain ⟨rfl, _⟩ := rd_i1 z7.1
    obtain ⟨a9, c9, rfl, _⟩ := rd_list z7.2
    have HS9 := Lib.hid z9
    clear z9 z8 z7 fr9 hSF
    simp only at HEF
    have hs45 := hs44.alloc #[.int .i64 p9, .int .i64 n9, .slice a9 l9.length c9] 61 (n := w43.heap.size) (by simp)
    have HS9_46 := Lib.hid (Rd.mono HS9.out (belowA _ (.cells #[.int .i64 p9, .int .i64 n9, .slice a9 l9.length c9] 61)))
    clear HS9
    clear k0_0 k0_1 k1_0 k1_1 k2_0 k2_1 k2_2 k2_3 k2_4
    have k0_0 := hs45.cellAt 0 rfl 0 rfl
    have k0_1 := hs45.cellAt 0 rfl 1 rfl
    have k1_0 := hs45.cellAt 1 rfl 0 rfl
    have k1_1 := hs45.cellAt 1 rfl 1 rfl
    have k2_0 := hs45.cellAt 2 rfl 0 rfl
    have k2_1 := hs45.cellAt 2 rfl 1 rfl
    have k2_2 := hs45.cellAt 2 rfl 2 rfl
    have k2_3 := hs45.cellAt 2 rfl 3 rfl
    have k2_4 := hs45.cellAt 2 rfl 4 rfl
    have k3_0 := hs45.cellAt 3 rfl 0 rfl
    have k3_1 := hs45.cellAt 3 rfl 1 rfl
    have k3_2 := hs45.cellAt 3 rfl 2 rfl
    by_cases hc : cd9 = 0
    · subst hc
      rw [if_pos rfl] at HEF
      go_wp2_with fail
      refine (sSolveSystem_c (p9, n9, l9) _ _ _ _ HS9_46.out).mono ?_
      rintro e w47 ⟨v8, rfl, fr8, hbw47⟩
      have hz_w47 : w43.heap.size + 1 ≤ w47.heap.size := by have h9 := hbw47.size; (try simp at h9); omega
      have hs48 := hs45.step hbw47
      have HS9_49 := Lib.hid (Rd.mono HS9_46.out hbw47)
      clear HS9_46
      clear k0_0 k0_1 k1_0 k1_1 k2_0 k2_1 k2_2 k2_3 k2_4 k3_0 k3_1 k3_2
      have k0_0 := hs48.cellAt 0 rfl 0 rfl
      have k0_1 := hs48.cellAt 0 rfl 1 rfl
      have k1_0 := hs48.cellAt 1 rfl 0 rfl
      have k1_1 := hs48.cellAt 1 rfl 1 rfl
      have k2_0 := hs48.cellAt 2 rfl 0 rfl
      have k2_1 := hs48.cellAt 2 rfl 1 rfl
      have k2_2 := hs48.cellAt 2 rfl 2 rfl
      have k2_3 := hs48.cellAt 2 rfl 3 rfl
      have k2_4 := hs48.cellAt 2 rfl 4 rfl
      have k3_0 := hs48.cellAt 3 rfl 0 rfl
      have k3_1 := hs48.cellAt 3 rfl 1 rfl
      have k3_2 := hs48.cellAt 3 rfl 2 rfl
      generalize solveF (p9, n9, l9) = SV at *
      obtain ⟨sv, sc⟩ := SV
      simp only at HEF fr8
      obtain ⟨a8, c8, rfl, _⟩ := rd_list fr8.rd
      have HF8 := Lib.hid fr8
      clear fr8
      by_cases hs0 : sc = 0
      · subst hs0
        rw [if_pos rfl] at HEF
        have HF9 := Lib.hid (fresh_vd (k := 0) ⟨by decide, by decide⟩ HF8.out)
        have f2_0 := hs48.freeAt 2 rfl 0
        have f2_1 := hs48.freeAt 2 rfl 1
        have f2_2 := hs48.freeAt 2 rfl 2
        have f2_3 := hs48.freeAt 2 rfl 3
        have f2_4 := hs48.freeAt 2 rfl 4
        go_wp2_with fail
        have hs50 := hs48.set (p := [_, _]) (by simp <;> omega) 0 (.int .i64 0)
        have hs51 := hs50.set (p := [_, _]) (by simp <;> omega) 1 (.slice a8 sv.length c8)
        have hs52 := hs51.set (p := [_, _]) (by simp <;> omega) 2 (.slice none 0 0)
        have hs53 := hs52.set (p := [_, _]) (by simp <;> omega) 3 (.slice none 0 0)
        have hs54 := hs53.set (p := [_, _]) (by simp <;> omega) 4 (.slice none 0 0)
        have x0 := (hs54.cellAt 2 rfl 0 rfl)
        have x1 := (hs54.cellAt 2 rfl 1 rfl)
        have x2 := (hs54.cellAt 2 rfl 2 rfl)
        have x3 := (hs54.cellAt 2 rfl 3 rfl)
        have x4 := (hs54.cellAt 2 rfl 4 rfl)
        refine bodyPost_ret (v := .tuple #[.agg #[.int .i64 0, .slice a8 sv.length c8, .slice none 0 0, .slice none 0 0, .slice none 0 0], .int .i64 0]) (by simp [results, Tryz.results30, go_sem, x0, x1, x2, x3, x4]) rfl ⟨_, _, _, _, _, by rw [HEF.out], ?_, hs54.bel⟩
        rw [HEF.out]
        exact ((((((HF9.out.setCell (a := ⟨w.heap.size + 1 + 1, 0, none⟩) (by (try simp) <;> (try simp at hlo) <;> omega) (.int .i64 0)).setCell (a := ⟨w.heap.size + 1 + 1, 1, none⟩) (by (try simp) <;> (try simp at hlo) <;> omega) (.slice a8 sv.length c8)).setCell (a := ⟨w.heap.size + 1 + 1, 2, none⟩) (by (try simp) <;> (try simp at hlo) <;> omega) (.slice none 0 0)).setCell (a := ⟨w.heap.size + 1 + 1, 3, none⟩) (by (try simp) <;> (try simp at hlo) <;> omega) (.slice none 0 0)).setCell (a := ⟨w.heap.size + 1 + 1, 4, none⟩) (by (try simp) <;> (try simp at hlo) <;> omega) (.slice none 0 0)).lower (by (try simp) <;> (try simp at hlo) <;> omega))
      · rw [if_neg hs0] at HEF
        have hsb : (sc == 0) = false := by rw [beq_eq_false_iff_ne]; exact hs0
        clear hs0
        go_wp2_with fail
        refine (sRefuteSystem_c (p9, n9, l9) _ _ _ _ HS9_49.out).mono ?_
        rintro e w55 ⟨v7, rfl, fr7, hbw55⟩
        have hz_w55 : w47.heap.size ≤ w55.heap.size := by have h9 := hbw55.size; (try simp at h9); omega
        have hs56 := hs48.step hbw55
        have HS9_57 := Lib.hid (Rd.mono HS9_49.out hbw55)
        clear HS9_49
        clear k0_0 k0_1 k1_0 k1_1 k2_0 k2_1 k2_2 k2_3 k2_4 k3_0 k3_1 k3_2
        have k0_0 := hs56.cellAt 0 rfl 0 rfl
        have k0_1 := hs56.cellAt 0 rfl 1 rfl
        have k1_0 := hs56.cellAt 1 rfl 0 rfl
        have k1_1 := hs56.cellAt 1 rfl 1 rfl
        have k2_0 := hs56.cellAt 2 rfl 0 rfl
        have k2_1 := hs56.cellAt 2 rfl 1 rfl
        have k2_2 := hs56.cellAt 2 rfl 2 rfl
        have k2_3 := hs56.cellAt 2 rfl 3 rfl
        have k2_4 := hs56.cellAt 2 rfl 4 rfl
        have k3_0 := hs56.cellAt 3 rfl 0 rfl
        have k3_1 := hs56.cellAt 3 rfl 1 rfl
        have k3_2 := hs56.cellAt 3 rfl 2 rfl
        generalize refuteF (p9, n9, l9) = RV at *
        obtain ⟨rv, rc⟩ := RV
        simp only at HEF fr7
        obtain ⟨a7, c7, rfl, _⟩ := rd_list fr7.rd
        have HF7 := Lib.hid (fresh_vdN (k := 3) ⟨by decide, by decide⟩ fr7)
        clear fr7
        have f2_0 := hs56.freeAt 2 rfl 0
        have f2_1 := hs56.freeAt 2 rfl 1
        have f2_2 := hs56.freeAt 2 rfl 2
        have f2_3 := hs56.freeAt 2 rfl 3
        have f2_4 := hs56.freeAt 2 rfl 4
        go_wp2_with fail
        have hs58 := hs56.set (p := [_, _]) (by simp <;> omega) 0 (.int .i64 3)
        have hs59 := hs58.set (p := [_, _]) (by simp <;> omega) 1 (.slice none 0 0)
        have hs60 := hs59.set (p := [_, _]) (by simp <;> omega) 2 (.slice none 0 0)
        have hs61 := hs60.set (p := [_, _]) (by simp <;> omega) 3 (.slice none 0 0)
        have hs62 := hs61.set (p := [_, _]) (by simp <;> omega) 4 (.slice a7 rv.length c7)
        have x0 := (hs62.cellAt 2 rfl 0 rfl)
        have x1 := (hs62.cellAt 2 rfl 1 rfl)
        have x2 := (hs62.cellAt 2 rfl 2 rfl)
        have x3 := (hs62.cellAt 2 rfl 3 rfl)
        have x4 := (hs62.cellAt 2 rfl 4 rfl)
        refine bodyPost_ret (v := .tuple #[.agg #[.int .i64 3, .slice none 0 0, .slice none 0 0, .slice none 0 0, .slice a7 rv.length c7], .int .i64 0]) (by simp [results, Tryz.results30, go_sem, x0, x1, x2, x3, x4]) rfl ⟨_, _, _, _, _, by rw [HEF.out], ?_, hs62.bel⟩
        rw [HEF.out]
        exact ((((((HF7.out.setCell (a := ⟨w.heap.size + 1 + 1, 0, none⟩) (by (try simp) <;> (try simp at hlo) <;> omega) (.int .i64 3)).setCell (a := ⟨w.heap.size + 1 + 1, 1, none⟩) (by (try simp) <;> (try simp at hlo) <;> omega) (.slice none 0 0)).setCell (a := ⟨w.heap.size + 1 + 1, 2, none⟩) (by (try simp) <;> (try simp at hlo) <;> omega) (.slice none 0 0)).setCell (a := ⟨w.heap.size + 1 + 1, 3, none⟩) (by (try simp) <;> (try simp at hlo) <;> omega) (.slice none 0 0)).setCell (a := ⟨w.heap.size + 1 + 1, 4, none⟩) (by (try simp) <;> (try simp at hlo) <;> omega) (.slice a7 rv.length c7)).lower (by (try simp) <;> (try simp at hlo) <;> omega))
    · rw [if_neg hc] at HEF
      have hcb : (cd9 != 0) = true := by rw [bne_iff_ne]; exact hc
      clear hc
      have f2_0 := hs45.freeAt 2 rfl 0
      have f2_1 := hs45.freeAt 2 rfl 1
      have f2_2 := hs45.freeAt 2 rfl 2
      have f2_3 := hs45.freeAt 2 rfl 3
      have f2_4 := hs45.freeAt 2 rfl 4
      go_wp2_with fail
      have hs63 := hs45.set (p := [_, _]) (by simp <;> omega) 0 (.int .i64 0)
      have hs64 := hs63.set (p := [_, _]) (by simp <;> omega) 1 (.slice none 0 0)
      have hs65 := hs64.set (p := [_, _]) (by simp <;> omega) 2 (.slice none 0 0)
      have hs66 := hs65.set (p := [_, _]) (by simp <;> omega) 3 (.slice none 0 0)
      have hs67 := hs66.set (p := [_, _]) (by simp <;> omega) 4 (.slice none 0 0)
      have x0 := (hs67.cellAt 2 rfl 0 rfl)
      have x1 := (hs67.cellAt 2 rfl 1 rfl)
      have x2 := (hs67.cellAt 2 rfl 2 rfl)
      have x3 := (hs67.cellAt 2 rfl 3 rfl)
      have x4 := (hs67.cellAt 2 rfl 4 rfl)
      refine bodyPost_ret (v := .tuple #[.agg #[.int .i64 0, .slice none 0 0, .slice none 0 0, .slice none 0 0, .slice none 0 0], .int .i64 cd9]) (by simp [results, Tryz.results30, go_sem, x0, x1, x2, x3, x4]) rfl ⟨_, _, _, _, _, by rw [HEF.out], ?_, hs67.bel⟩
      rw [HEF.out]; exact fresh_vd ⟨by decide, by decide⟩ fresh_nil_list
end Go.Proofs.YtoblfnoaepbhfaaGreat

