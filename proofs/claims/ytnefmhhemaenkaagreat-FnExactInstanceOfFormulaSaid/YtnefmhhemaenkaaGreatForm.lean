/-
  CONTRACTS: valid formulas; both sides.
-/
import Derived.Test.YtnefmhhemaenkaaGreatFormP
import Derived.Test.YtnefmhhemaenkaaGreatTmplB
namespace Go.Proofs.YtnefmhhemaenkaaGreat
open Go.RowKit Go.Shelf Go.IntWalk
open Rep (Rd Own sz)
set_option linter.unusedSimpArgs false
set_option linter.unusedVariables false

theorem arityA_no {size : Int} {rs : List RelT} {r : Int} (h : r ≠ -1) (h1 : inB r 0 (rs.length - 1) = false) : arityA (size, rs) r = 0 := by unfold arityA; simp only; rw [if_neg h, h1]; rfl
theorem arityA_at {size : Int} {rs : List RelT} {k : Nat} (hk : k < rs.length) : arityA (size, rs) (k : Int) = rs[k].1 := by
  unfold arityA
  simp only [Int.toNat_natCast]
  rw [if_neg (by omega), show inB (k : Int) 0 ((rs.length : Int) - 1) = true by simp [inB]; omega, show rs.getD k (0, []) = rs[k] by simp [List.getD, hk]]
  rfl
theorem arityA_eq {size : Int} {rs : List RelT} : arityA (size, rs) (-1) = 2 := by unfold arityA; rw [if_pos rfl]
set_option maxRecDepth 100000 in
set_option maxHeartbeats 2000000 in
theorem arityOf_c (t : Tmpl) (r AR : Int) (t0 t1 : Value) (w : World) (ht : Rd w [t0, t1] t) (hl : t.2.length ≤ 6) (he : arityA t r = AR) :
    Calls Tryz.prog 52 #[.agg #[t0, t1], .int .i64 r] w fun e w' => e = .returned (.int .i64 AR) ∧ Below w.heap.size w w' := by
  obtain ⟨size, rs⟩ := t
  have zt := rd_cons rfl ht
  obtain ⟨rfl, _⟩ := rd_i1 zt.1
  have HTR := Lib.hid zt.2
  obtain ⟨at0, ct0, rfl, _⟩ := rd_list zt.2
  clear ht zt
  simp only at hl
  have HE := Lib.hid he
  clear he
  have ew : IntKind.i64.wrap ((rs.length : Int) - 1) = (rs.length : Int) - 1 := i64_in _ (by omega)
  have hs1 := (St.start w).alloc #[.int .i64 size, .slice at0 rs.length ct0] 37 (n := w.heap.size) (by simp)
  have k0_0 := hs1.cellAt 0 rfl 0 rfl
  have k0_1 := hs1.cellAt 0 rfl 1 rfl
  go_enter Tryz.func52, Tryz.ntmps52
  by_cases h : r = -1
  · subst h
    go_wp2_with fail
    go_ret
    exact ⟨ret_int (by rw [← HE.out, arityA_eq]), hs1.bel⟩
  · have h1 : (r == -1) = false := by simp [h]
    have HN := Lib.hid h
    clear h
    go_wp2_with fail
    refine (within_c r 0 (rs.length - 1) _).mono ?_
    rintro e w2 ⟨rfl, rfl, rfl⟩
    cases h2 : inB r 0 (rs.length - 1) with
    | false =>
      have H2 := Lib.hid h2
      clear h2
      go_wp2_with fail
      go_ret
      exact ⟨ret_int (by rw [← HE.out, arityA_no HN.out H2.out]), hs1.bel⟩
    | true =>
      have h3 := inB_true h2
      obtain ⟨k, rfl⟩ : ∃ k : Nat, r = k := ⟨r.toNat, by omega⟩
      have hk : k < rs.length := by omega
      obtain ⟨b, o, u0, u1, rfl, q0, q1, hy⟩ := rd_two_at rfl HTR.out k hk
      have hyz := rd_cons rfl hy
      obtain ⟨rfl, _⟩ := rd_i1 hyz.1
      have H2 := Lib.hid (HE.out.symm.trans (arityA_at (size := size) hk))
      clear hy hyz h2
      generalize rs[k].1 = BR at *
      have hkl : (k : Int) < rs.length := by omega
      clear k0_0 k0_1
      have k0_0 := hs1.cellAt 0 rfl 0 rfl
      have k0_1 := hs1.cellAt 0 rfl 1 rfl
      have q0_ := cellL hs1.bel q0
      clear k0_0 k0_1 q0_
      have k0_0 := hs1.cellAt 0 rfl 0 rfl
      have k0_1 := hs1.cellAt 0 rfl 1 rfl
      have q0_ := cellL hs1.bel q0
      go_wp2_with fail
      go_ret
      exact ⟨ret_int H2.out.symm, hs1.bel⟩
set_option maxRecDepth 100000 in
theorem isAtom_c (x : OpT) (ar vars : Int) (v0 v1 : Value) (w : World) (hx : Rd w [v0, v1] x) (h0 : -1000 ≤ vars) (h1 : vars ≤ 1000000000) :
    Calls Tryz.prog 53 #[.agg #[v0, v1], .int .i64 ar, .int .i64 vars] w fun e w' => e = .returned (.bool (valsOk vars x.2 ar)) ∧ Below w.heap.size w w' := by
  obtain ⟨ci, sc⟩ := x
  have z := rd_cons rfl hx
  obtain ⟨rfl, _⟩ := rd_i1 z.1
  have HSC := Lib.hid z.2
  obtain ⟨a2, c2, rfl, _⟩ := rd_list z.2
  clear hx z
  have hs3 := (St.start w).alloc #[.int .i64 ci, .slice a2 sc.length c2] 58 (n := w.heap.size) (by simp)
  have k0_0 := hs3.cellAt 0 rfl 0 rfl
  have k0_1 := hs3.cellAt 0 rfl 1 rfl
  go_enter Tryz.func53, Tryz.ntmps53
  go_wp2_with fail
  refine (areValues_c vars sc _ ar _ (Rd.mono HSC.out hs3.bel) h0 h1).mono ?_
  rintro e w4 ⟨rfl, hbw4⟩
  have hz_w4 : w.heap.size + 1 ≤ w4.heap.size := by have h9 := hbw4.size; (try simp at h9); omega
  have hs5 := hs3.step hbw4
  clear k0_0 k0_1
  have k0_0 := hs5.cellAt 0 rfl 0 rfl
  have k0_1 := hs5.cellAt 0 rfl 1 rfl
  go_wp2_with fail
  go_ret
  exact ⟨rfl, hs5.bel⟩
theorem frameOk_1 {f : Fml} (h : inB f.1 1 4 = false) : frameOk f = false := by unfold frameOk; rw [h]; rfl
theorem frameOk_2 {f : Fml} (h : inB f.2.1 f.1 8 = false) : frameOk f = false := by unfold frameOk; rw [h, Bool.and_false]; rfl
theorem frameOk_3 {f : Fml} (h1 : inB f.1 1 4 = true) (h2 : inB f.2.1 f.1 8 = true) : frameOk f = decide (f.2.2.length ≤ 16) := by unfold frameOk; rw [h1, h2]; rfl
theorem frameOk_get {f : Fml} (h : frameOk f = true) : (1 ≤ f.1 ∧ f.1 ≤ 4) ∧ (f.1 ≤ f.2.1 ∧ f.2.1 ≤ 8) ∧ f.2.2.length ≤ 16 := by
  unfold frameOk at h
  simp only [Bool.and_eq_true, decide_eq_true_eq] at h
  exact ⟨inB_true h.1.1, inB_true h.1.2, h.2⟩
set_option maxRecDepth 100000 in
set_option maxHeartbeats 2000000 in
theorem isFrame_c (f : Fml) (v0 v1 v2 : Value) (w : World) (hx : Rd w [v0, v1, v2] f) :
    Calls Tryz.prog 49 #[.agg #[v0, v1, v2]] w fun e w' => e = .returned (.bool (frameOk f)) ∧ Below w.heap.size w w' := by
  obtain ⟨fr, vars, l⟩ := f
  have z := rd_cons rfl hx
  obtain ⟨rfl, _⟩ := rd_i1 z.1
  have z2 := rd_cons rfl z.2
  obtain ⟨rfl, _⟩ := rd_i1 z2.1
  obtain ⟨a, c, rfl, _⟩ := rd_list z2.2
  have HL := Lib.hid z2.2
  clear hx z z2
  have hs6 := (St.start w).alloc #[.int .i64 fr, .int .i64 vars, .slice a l.length c] 41 (n := w.heap.size) (by simp)
  have k0_0 := hs6.cellAt 0 rfl 0 rfl
  have k0_1 := hs6.cellAt 0 rfl 1 rfl
  have k0_2 := hs6.cellAt 0 rfl 2 rfl
  go_enter Tryz.func49, Tryz.ntmps49
  go_wp2_with fail
  refine (isArity_c fr _).mono ?_
  rintro e w7 ⟨rfl, rfl, rfl⟩
  cases h1 : inB fr 1 4 with
  | false =>
    have H1 := Lib.hid (frameOk_1 (f := (fr, vars, l)) h1)
    clear h1
    go_wp2_with fail
    go_ret
    exact ⟨ret_bool H1.out.symm, hs6.bel⟩
  | true =>
    have H1 := Lib.hid h1
    clear h1
    go_wp2_with fail
    refine (within_c vars fr 8 _).mono ?_
    rintro e w8 ⟨rfl, rfl, rfl⟩
    cases h2 : inB vars fr 8 with
    | false =>
      have H2 := Lib.hid (frameOk_2 (f := (fr, vars, l)) h2)
      clear h2
      go_wp2_with fail
      go_ret
      exact ⟨ret_bool H2.out.symm, hs6.bel⟩
    | true =>
      have H2 := Lib.hid (frameOk_3 (f := (fr, vars, l)) H1.out h2)
      clear h2
      go_wp2_with fail
      go_ret
      exact ⟨ret_bool (by rw [H2.out]; exact decide_eq_decide.2 (by omega)), hs6.bel⟩
set_option maxRecDepth 100000 in
set_option maxHeartbeats 4000000 in
theorem validFormula1_by (tb xb : Nat) (t : Tmpl) (vars : Int) (va vb : Value) (w : World) (l : List OpT) (hc : w.cell? ⟨tb, 0, none⟩ = some va) (hc0 : w.cell? ⟨tb, 1, none⟩ = some vb) (hc1 : w.cell? ⟨xb, 1, none⟩ = some (.int .i64 vars)) (hr : Rd w [va, vb] t) (hrl : t.2.length ≤ 6) (hv : 1 ≤ vars ∧ vars ≤ 8) :
    PredC 51 #[.pointer (some ⟨tb, 0, none⟩), .pointer (some ⟨xb, 0, none⟩)] w l (fun c => !atomOk t vars c) := by
  intro W x v0 v1 hb hx _
  have HT := Lib.hid (Rd.mono hr hb)
  have g := cellL hb hc
  have g0 := cellL hb hc0
  have g1 := cellL hb hc1
  clear hc hc0 hc1 hr hb
  show Calls Tryz.prog 51 #[_, .pointer (some ⟨tb, 0, none⟩), .pointer (some ⟨xb, 0, none⟩)] W _
  obtain ⟨ci, sc⟩ := x
  have z := rd_cons rfl hx
  obtain ⟨rfl, hIc⟩ := rd_i1 z.1
  have HX := Lib.hid hx
  obtain ⟨a2, c2, rfl, _⟩ := rd_list z.2
  clear hx z
  simp only at hIc
  have g_ := cellL (St.start W).bel g
  clear g_
  have g_ := cellL (St.start W).bel g
  have g0_ := cellL (St.start W).bel g0
  clear g_ g0_
  have g_ := cellL (St.start W).bel g
  have g0_ := cellL (St.start W).bel g0
  have g1_ := cellL (St.start W).bel g1
  have hs9 := (St.start W).alloc #[.int .i64 ci, .slice a2 sc.length c2] 58 (n := W.heap.size) (by simp)
  clear g_ g0_ g1_
  have k0_0 := hs9.cellAt 0 rfl 0 rfl
  have k0_1 := hs9.cellAt 0 rfl 1 rfl
  have g_ := cellL hs9.bel g
  have g0_ := cellL hs9.bel g0
  have g1_ := cellL hs9.bel g1
  go_enter Tryz.func51, Tryz.ntmps51
  have HA := Lib.hid (show atomOk t vars (ci, sc) = (!decide (arityA t ci = 0) && valsOk vars sc (arityA t ci)) from rfl)
  generalize hAR : arityA t ci = AR at *
  have HAR := Lib.hid hAR
  clear hAR
  cases h1 : (AR == 0) with
  | true =>
    have H1 := Lib.hid (show atomOk t vars (ci, sc) = false by rw [HA.out, decide_eq_true (by simpa using h1)]; rfl)
    go_upto_region 1 with fail
    refine wp_region_noPanic (wp_region_tree4 (fun w' => w'.cell? ⟨W.heap.size, 0, none⟩ = some (.int .i64 ci) ∧ w'.cell? ⟨W.heap.size, 1, none⟩ = some (.slice a2 sc.length c2) ∧ w'.cell? ⟨tb, 0, none⟩ = some (va) ∧ w'.cell? ⟨tb, 1, none⟩ = some (vb) ∧ w'.cell? ⟨xb, 1, none⟩ = some (.int .i64 vars)) (.float 0 (.float 1 (.float 2 (.hard 3 (.float 4 (.float 5 (.float 6 (.float 7 (.float 8 (.float 9 (.float 11 (.float 12 (.hard 10 (.hard 13 (.float 14 (.float 15 (.float 16 .nil))))))))))))))))) (by kernel_rfl) (by kernel_rfl) (by kernel_rfl) rfl ?_ (fun _ _ _ _ _ h => h) ?_)
    · exact ⟨(hs9.drew).cellAt 0 rfl 0 rfl, (hs9.drew).cellAt 0 rfl 1 rfl, cellL (hs9.drew).bel g, cellL (hs9.drew).bel g0, cellL (hs9.drew).bel g1⟩
    have hs10 := hs9.drew
    clear k0_0 k0_1 g_ g0_ g1_
    have hz_wd11 : W.heap.size + 1 ≤ ((W.alloc (.cells #[.int .i64 ci, .slice a2 sc.length c2] 58)).drew).heap.size := by simp
    generalize hgen_wd11 : (W.alloc (.cells #[.int .i64 ci, .slice a2 sc.length c2] 58)).drew = wd11 at *
    have HG_wd11 := Lib.hid hgen_wd11
    clear hgen_wd11
    (repeat (first | (apply t4_skip rfl (by rfl); try simp only [Act.put, List.setIfInBounds_toArray, List.set_cons_zero, List.set_cons_succ]) | (apply t4_float rfl (by rfl); (· (intro w' hS; go_simp <;> with_reducible rfl)); (try simp only [Act.put, List.setIfInBounds_toArray, List.set_cons_zero, List.set_cons_succ]))))
    refine t4_hard rfl (by rfl) (fun K hK => ?_)
    go_wp2_with (go_at_call 52; refine (arityOf_c t ci AR _ _ _ (Rd.mono HT.out hs10.bel) hrl HAR.out).mono ?_; rintro e w12 ⟨rfl, hbw12⟩)
    have hz_w12 : wd11.heap.size ≤ w12.heap.size := by have h9 := hbw12.size; (try simp at h9); omega
    have hs13 := hs10.step hbw12
    refine ⟨⟨hs13.cellAt 0 rfl 0 rfl, hs13.cellAt 0 rfl 1 rfl, cellL hs13.bel g, cellL hs13.bel g0, cellL hs13.bel g1⟩, ?_⟩
    (repeat (first | (apply t4_skip rfl (by rfl); try simp only [Act.put, List.setIfInBounds_toArray, List.set_cons_zero, List.set_cons_succ]) | (apply t4_float rfl (by rfl); (· (intro w' hS; go_simp <;> with_reducible rfl)); (try simp only [Act.put, List.setIfInBounds_toArray, List.set_cons_zero, List.set_cons_succ]))))
    refine t4_hskip rfl (by rfl) ?_ ?_
    · exact ⟨hs13.cellAt 0 rfl 0 rfl, hs13.cellAt 0 rfl 1 rfl, cellL hs13.bel g, cellL hs13.bel g0, cellL hs13.bel g1⟩
    (try simp only [Act.put, List.setIfInBounds_toArray, List.set_cons_zero, List.set_cons_succ])
    (repeat (first | (apply t4_skip rfl (by rfl); try simp only [Act.put, List.setIfInBounds_toArray, List.set_cons_zero, List.set_cons_succ]) | (apply t4_float rfl (by rfl); (· (intro w' hS; go_simp <;> with_reducible rfl)); (try simp only [Act.put, List.setIfInBounds_toArray, List.set_cons_zero, List.set_cons_succ]))))
    refine t4_hskip rfl (by rfl) ?_ ?_
    · exact ⟨hs13.cellAt 0 rfl 0 rfl, hs13.cellAt 0 rfl 1 rfl, cellL hs13.bel g, cellL hs13.bel g0, cellL hs13.bel g1⟩
    (try simp only [Act.put, List.setIfInBounds_toArray, List.set_cons_zero, List.set_cons_succ])
    (repeat (first | (apply t4_skip rfl (by rfl); try simp only [Act.put, List.setIfInBounds_toArray, List.set_cons_zero, List.set_cons_succ]) | (apply t4_float rfl (by rfl); (· (intro w' hS; go_simp <;> with_reducible rfl)); (try simp only [Act.put, List.setIfInBounds_toArray, List.set_cons_zero, List.set_cons_succ]))))
    have k0_0 := hs13.cellAt 0 rfl 0 rfl
    have k0_1 := hs13.cellAt 0 rfl 1 rfl
    have g_ := cellL hs13.bel g
    have g0_ := cellL hs13.bel g0
    have g1_ := cellL hs13.bel g1
    refine t4_nil (NoPanic.normal ?_)
    go_wp2_with fail
    go_ret
    exact ⟨ret_bool (by rw [H1.out]; rfl), hs13.bel⟩
  | false =>
    have H1 := Lib.hid (show atomOk t vars (ci, sc) = valsOk vars sc AR by rw [HA.out, decide_eq_false (by simpa using h1)]; rfl)
    go_upto_region 1 with fail
    refine wp_region_noPanic (wp_region_tree4 (fun w' => w'.cell? ⟨W.heap.size, 0, none⟩ = some (.int .i64 ci) ∧ w'.cell? ⟨W.heap.size, 1, none⟩ = some (.slice a2 sc.length c2) ∧ w'.cell? ⟨tb, 0, none⟩ = some (va) ∧ w'.cell? ⟨tb, 1, none⟩ = some (vb) ∧ w'.cell? ⟨xb, 1, none⟩ = some (.int .i64 vars)) (.float 0 (.float 1 (.float 2 (.hard 3 (.float 4 (.float 5 (.float 6 (.float 7 (.float 8 (.float 9 (.float 11 (.float 12 (.hard 10 (.hard 13 (.float 14 (.float 15 (.float 16 .nil))))))))))))))))) (by kernel_rfl) (by kernel_rfl) (by kernel_rfl) rfl ?_ (fun _ _ _ _ _ h => h) ?_)
    · exact ⟨(hs9.drew).cellAt 0 rfl 0 rfl, (hs9.drew).cellAt 0 rfl 1 rfl, cellL (hs9.drew).bel g, cellL (hs9.drew).bel g0, cellL (hs9.drew).bel g1⟩
    have hs14 := hs9.drew
    clear k0_0 k0_1 g_ g0_ g1_
    have hz_wd15 : W.heap.size + 1 ≤ ((W.alloc (.cells #[.int .i64 ci, .slice a2 sc.length c2] 58)).drew).heap.size := by simp
    generalize hgen_wd15 : (W.alloc (.cells #[.int .i64 ci, .slice a2 sc.length c2] 58)).drew = wd15 at *
    have HG_wd15 := Lib.hid hgen_wd15
    clear hgen_wd15
    (repeat (first | (apply t4_skip rfl (by rfl); try simp only [Act.put, List.setIfInBounds_toArray, List.set_cons_zero, List.set_cons_succ]) | (apply t4_float rfl (by rfl); (· (intro w' hS; go_simp <;> with_reducible rfl)); (try simp only [Act.put, List.setIfInBounds_toArray, List.set_cons_zero, List.set_cons_succ]))))
    refine t4_hard rfl (by rfl) (fun K hK => ?_)
    go_wp2_with (go_at_call 52; refine (arityOf_c t ci AR _ _ _ (Rd.mono HT.out hs14.bel) hrl HAR.out).mono ?_; rintro e w16 ⟨rfl, hbw16⟩)
    have hz_w16 : wd15.heap.size ≤ w16.heap.size := by have h9 := hbw16.size; (try simp at h9); omega
    have hs17 := hs14.step hbw16
    refine ⟨⟨hs17.cellAt 0 rfl 0 rfl, hs17.cellAt 0 rfl 1 rfl, cellL hs17.bel g, cellL hs17.bel g0, cellL hs17.bel g1⟩, ?_⟩
    (repeat (first | (apply t4_skip rfl (by rfl); try simp only [Act.put, List.setIfInBounds_toArray, List.set_cons_zero, List.set_cons_succ]) | (apply t4_float rfl (by rfl); (· (intro w' hS; go_simp <;> with_reducible rfl)); (try simp only [Act.put, List.setIfInBounds_toArray, List.set_cons_zero, List.set_cons_succ]))))
    refine t4_hard rfl (by rfl) (fun K hK => ?_)
    go_wp2_with (go_at_call 52; refine (arityOf_c t ci AR _ _ _ (Rd.mono HT.out hs17.bel) hrl HAR.out).mono ?_; rintro e w18 ⟨rfl, hbw18⟩)
    have hz_w18 : w16.heap.size ≤ w18.heap.size := by have h9 := hbw18.size; (try simp at h9); omega
    have hs19 := hs17.step hbw18
    refine ⟨⟨hs19.cellAt 0 rfl 0 rfl, hs19.cellAt 0 rfl 1 rfl, cellL hs19.bel g, cellL hs19.bel g0, cellL hs19.bel g1⟩, ?_⟩
    (repeat (first | (apply t4_skip rfl (by rfl); try simp only [Act.put, List.setIfInBounds_toArray, List.set_cons_zero, List.set_cons_succ]) | (apply t4_float rfl (by rfl); (· (intro w' hS; go_simp <;> with_reducible rfl)); (try simp only [Act.put, List.setIfInBounds_toArray, List.set_cons_zero, List.set_cons_succ]))))
    refine t4_hard rfl (by rfl) (fun K hK => ?_)
    go_wp2_with (go_at_call 53; refine (isAtom_c (ci, sc) AR vars _ _ _ (Rd.mono HX.out hs19.bel) (by omega) (by omega)).mono ?_; rintro e w20 ⟨rfl, hbw20⟩)
    have hz_w20 : w18.heap.size ≤ w20.heap.size := by have h9 := hbw20.size; (try simp at h9); omega
    have hs21 := hs19.step hbw20
    refine ⟨⟨hs21.cellAt 0 rfl 0 rfl, hs21.cellAt 0 rfl 1 rfl, cellL hs21.bel g, cellL hs21.bel g0, cellL hs21.bel g1⟩, ?_⟩
    (repeat (first | (apply t4_skip rfl (by rfl); try simp only [Act.put, List.setIfInBounds_toArray, List.set_cons_zero, List.set_cons_succ]) | (apply t4_float rfl (by rfl); (· (intro w' hS; go_simp <;> with_reducible rfl)); (try simp only [Act.put, List.setIfInBounds_toArray, List.set_cons_zero, List.set_cons_succ]))))
    have k0_0 := hs21.cellAt 0 rfl 0 rfl
    have k0_1 := hs21.cellAt 0 rfl 1 rfl
    have g_ := cellL hs21.bel g
    have g0_ := cellL hs21.bel g0
    have g1_ := cellL hs21.bel g1
    refine t4_nil (NoPanic.normal ?_)
    go_wp2_with fail
    go_ret
    exact ⟨ret_bool (by rw [H1.out]), hs21.bel⟩
set_option maxRecDepth 100000 in
set_option maxHeartbeats 4000000 in
theorem ValidFormula_c (t : Tmpl) (f : Fml) (t0 t1 x0 x1 x2 : Value) (w : World) (ht : Rd w [t0, t1] t) (hx : Rd w [x0, x1, x2] f) :
    Calls Tryz.prog 23 #[.agg #[t0, t1], .agg #[x0, x1, x2]] w fun e w' => e = .returned (.bool (fmlOk t f)) ∧ Below w.heap.size w w' := by
  obtain ⟨size, rs⟩ := t
  obtain ⟨fr, vars, l⟩ := f
  have HT := Lib.hid ht
  have zt := rd_cons rfl ht
  obtain ⟨rfl, _⟩ := rd_i1 zt.1
  obtain ⟨at0, ct0, rfl, _⟩ := rd_list zt.2
  have HF := Lib.hid hx
  have zx := rd_cons rfl hx
  obtain ⟨rfl, _⟩ := rd_i1 zx.1
  have zy := rd_cons rfl zx.2
  obtain ⟨rfl, _⟩ := rd_i1 zy.1
  have HL := Lib.hid zy.2
  obtain ⟨a, c, rfl, _⟩ := rd_list zy.2
  clear ht hx zt zx zy
  have eg : ∀ args w, (callFunc 51 args).run Tryz.prog w = .ok (.enter 51 args) w := enters_of Tryz.func51 (by kernel_rfl) rfl
  have hs22 := (St.start w).alloc #[.int .i64 size, .slice at0 rs.length ct0] 37 (n := w.heap.size) (by simp)
  have k0_0 := hs22.cellAt 0 rfl 0 rfl
  have k0_1 := hs22.cellAt 0 rfl 1 rfl
  have hs23 := hs22.alloc #[.int .i64 fr, .int .i64 vars, .slice a l.length c] 41 (n := w.heap.size + 1) (by simp)
  clear k0_0 k0_1
  have k0_0 := hs23.cellAt 0 rfl 0 rfl
  have k0_1 := hs23.cellAt 0 rfl 1 rfl
  have k1_0 := hs23.cellAt 1 rfl 0 rfl
  have k1_1 := hs23.cellAt 1 rfl 1 rfl
  have k1_2 := hs23.cellAt 1 rfl 2 rfl
  go_enter Tryz.func23, Tryz.ntmps23
  go_wp2_with fail
  refine (ValidTemplate_c (size, rs) _ _ _ (Rd.mono HT.out hs23.bel)).mono ?_
  rintro e w24 ⟨rfl, hbw24⟩
  have hz_w24 : w.heap.size + 1 + 1 ≤ w24.heap.size := by have h9 := hbw24.size; (try simp at h9); omega
  have hs25 := hs23.step hbw24
  clear k0_0 k0_1 k1_0 k1_1 k1_2
  have k0_0 := hs25.cellAt 0 rfl 0 rfl
  have k0_1 := hs25.cellAt 0 rfl 1 rfl
  have k1_0 := hs25.cellAt 1 rfl 0 rfl
  have k1_1 := hs25.cellAt 1 rfl 1 rfl
  have k1_2 := hs25.cellAt 1 rfl 2 rfl
  cases h1 : tmplOk (size, rs) with
  | false =>
    have H1 := Lib.hid (show fmlOk (size, rs) (fr, vars, l) = false by unfold fmlOk; rw [h1]; rfl)
    clear h1
    go_wp2_with fail
    go_ret
    exact ⟨ret_bool H1.out.symm, hs25.bel⟩
  | true =>
    have H1 := Lib.hid h1
    have hrl := (tmplOk_get h1).2.1
    clear h1
    go_wp2_with fail
    refine (isFrame_c (fr, vars, l) _ _ _ _ (Rd.mono HF.out hs25.bel)).mono ?_
    rintro e w26 ⟨rfl, hbw26⟩
    have hz_w26 : w24.heap.size ≤ w26.heap.size := by have h9 := hbw26.size; (try simp at h9); omega
    have hs27 := hs25.step hbw26
    clear k0_0 k0_1 k1_0 k1_1 k1_2
    have k0_0 := hs27.cellAt 0 rfl 0 rfl
    have k0_1 := hs27.cellAt 0 rfl 1 rfl
    have k1_0 := hs27.cellAt 1 rfl 0 rfl
    have k1_1 := hs27.cellAt 1 rfl 1 rfl
    have k1_2 := hs27.cellAt 1 rfl 2 rfl
    cases h2 : frameOk (fr, vars, l) with
    | false =>
      have H2 := Lib.hid (show fmlOk (size, rs) (fr, vars, l) = false by unfold fmlOk; rw [h2, Bool.and_false]; rfl)
      clear h2
      go_wp2_with fail
      go_ret
      exact ⟨ret_bool H2.out.symm, hs27.bel⟩
    | true =>
      have H2 := Lib.hid (show fmlOk (size, rs) (fr, vars, l) = l.all (atomOk (size, rs) vars) by unfold fmlOk; rw [h2, H1.out]; rfl)
      have hv := frameOk_get h2
      simp only at hv
      clear h2
      go_wp2_with fail
      refine (containsAtoms_c l _ 51 _ _ _ (Rd.mono HL.out hs27.bel) eg (validFormula1_by _ _ (size, rs) vars _ _ _ l (hs27.cellAt 0 rfl 0 rfl) (hs27.cellAt 0 rfl 1 rfl) (hs27.cellAt 1 rfl 1 rfl) (Rd.mono HT.out hs27.bel) hrl ⟨by omega, by omega⟩)).mono ?_
      rintro e w28 ⟨rfl, hbw28⟩
      have hz_w28 : w26.heap.size ≤ w28.heap.size := by have h9 := hbw28.size; (try simp at h9); omega
      have hs29 := hs27.step hbw28
      clear k0_0 k0_1 k1_0 k1_1 k1_2
      have k0_0 := hs29.cellAt 0 rfl 0 rfl
      have k0_1 := hs29.cellAt 0 rfl 1 rfl
      have k1_0 := hs29.cellAt 1 rfl 0 rfl
      have k1_1 := hs29.cellAt 1 rfl 1 rfl
      have k1_2 := hs29.cellAt 1 rfl 2 rfl
      go_wp2_with fail
      go_ret
      refine ⟨ret_bool ?_, hs29.bel⟩
      rw [H2.out, ← all_of_any]
set_option maxRecDepth 100000 in
set_option maxHeartbeats 2000000 in
theorem l03Arity_c (t : Tmpl) (r AR : Int) (tb : Nat) (t1 : Value) (w : World) (ht : Rd w [t1] t.2) (hc : w.cell? ⟨tb, 1, none⟩ = some t1) (hl : t.2.length ≤ 6) (he : arityA t r = AR) :
    Calls Tryz.prog 36 #[.pointer (some ⟨tb, 0, none⟩), .int .i64 r] w fun e w' => e = .returned (.int .i64 AR) ∧ w = w' := by
  obtain ⟨size, rs⟩ := t
  have HTR := Lib.hid ht
  obtain ⟨at0, ct0, rfl, _⟩ := rd_list ht
  clear ht
  simp only at hl hc
  have HE := Lib.hid he
  clear he
  have ew : IntKind.i64.wrap ((rs.length : Int) - 1) = (rs.length : Int) - 1 := i64_in _ (by omega)
  go_enter Tryz.func36, Tryz.ntmps36
  by_cases h : r = -1
  · subst h
    go_wp2_with fail
    go_ret
    exact ⟨ret_int (by rw [← HE.out, arityA_eq]), rfl⟩
  · have h1 : (r == -1) = false := by simp [h]
    have HN := Lib.hid h
    clear h
    go_wp2_with fail
    refine (l00In_c r 0 (rs.length - 1) _).mono ?_
    rintro e w1 ⟨rfl, rfl⟩
    cases h2 : inB r 0 (rs.length - 1) with
    | false =>
      have H2 := Lib.hid h2
      clear h2
      go_wp2_with fail
      go_ret
      exact ⟨ret_int (by rw [← HE.out, arityA_no HN.out H2.out]), rfl⟩
    | true =>
      have h3 := inB_true h2
      obtain ⟨k, rfl⟩ : ∃ k : Nat, r = k := ⟨r.toNat, by omega⟩
      have hk : k < rs.length := by omega
      obtain ⟨b, o, u0, u1, rfl, q0, q1, hy⟩ := rd_two_at rfl HTR.out k hk
      have hyz := rd_cons rfl hy
      obtain ⟨rfl, _⟩ := rd_i1 hyz.1
      have H2 := Lib.hid (HE.out.symm.trans (arityA_at (size := size) hk))
      clear hy hyz h2
      generalize rs[k].1 = BR at *
      have hkl : (k : Int) < rs.length := by omega
      go_wp2_with fail
      go_ret
      exact ⟨ret_int H2.out.symm, rfl⟩
set_option maxRecDepth 100000 in
set_option maxHeartbeats 4000000 in
theorem l03Counts_c (f : Fml) (xb : Nat) (v0 v1 v2 : Value) (w : World) (hx : Rd w [v0, v1, v2] f) (cx0 : w.cell? ⟨xb, 0, none⟩ = some v0) (cx1 : w.cell? ⟨xb, 1, none⟩ = some v1) (cx2 : w.cell? ⟨xb, 2, none⟩ = some v2) :
    Calls Tryz.prog 35 #[.pointer (some ⟨xb, 0, none⟩)] w fun e w' => e = .returned (.bool (frameOk f)) ∧ Below w.heap.size w w' := by
  obtain ⟨fr, vars, l⟩ := f
  have z := rd_cons rfl hx
  obtain ⟨rfl, _⟩ := rd_i1 z.1
  have z2 := rd_cons rfl z.2
  obtain ⟨rfl, _⟩ := rd_i1 z2.1
  obtain ⟨a, c, rfl, _⟩ := rd_list z2.2
  clear hx z z2
  have cx0_ := cellL (St.start w).bel cx0
  clear cx0_
  have cx0_ := cellL (St.start w).bel cx0
  have cx1_ := cellL (St.start w).bel cx1
  clear cx0_ cx1_
  have cx0_ := cellL (St.start w).bel cx0
  have cx1_ := cellL (St.start w).bel cx1
  have cx2_ := cellL (St.start w).bel cx2
  go_enter Tryz.func35, Tryz.ntmps35
  cases h1 : inB fr 1 4 with
  | false =>
    have H1 := Lib.hid (frameOk_1 (f := (fr, vars, l)) h1)
    go_upto_region 1 with fail
    refine wp_region_noPanic (wp_region_tree4 (fun w' => w'.cell? ⟨xb, 0, none⟩ = some (.int .i64 fr) ∧ w'.cell? ⟨xb, 1, none⟩ = some (.int .i64 vars) ∧ w'.cell? ⟨xb, 2, none⟩ = some (.slice a l.length c)) (.float 0 (.float 1 (.float 2 (.float 3 (.hard 4 (.float 5 (.float 6 (.float 7 (.float 8 (.float 9 (.float 10 (.float 11 (.float 12 (.float 13 (.hard 14 (.float 15 (.float 16 (.float 17 (.float 18 (.float 19 (.float 20 (.float 21 (.float 22 (.float 23 (.float 24 .nil))))))))))))))))))))))))) (by kernel_rfl) (by kernel_rfl) (by kernel_rfl) rfl ?_ (fun _ _ _ _ _ h => h) ?_)
    · exact ⟨cellL ((St.start w).drew).bel cx0, cellL ((St.start w).drew).bel cx1, cellL ((St.start w).drew).bel cx2⟩
    have hs30 := (St.start w).drew
    clear cx0_ cx1_ cx2_
    have hz_wd31 : w.heap.size ≤ (w.drew).heap.size := by simp
    generalize hgen_wd31 : w.drew = wd31 at *
    have HG_wd31 := Lib.hid hgen_wd31
    clear hgen_wd31
    (repeat (first | (apply t4_skip rfl (by rfl); try simp only [Act.put, List.setIfInBounds_toArray, List.set_cons_zero, List.set_cons_succ]) | (apply t4_float rfl (by rfl); (· (intro w' hS; go_simp <;> with_reducible rfl)); (try simp only [Act.put, List.setIfInBounds_toArray, List.set_cons_zero, List.set_cons_succ]))))
    refine t4_hard rfl (by rfl) (fun K hK => ?_)
    go_wp2_with (go_at_call 78; refine (l01Arity_c fr _).mono ?_; rintro e w32 ⟨rfl, rfl, rfl⟩)
    refine ⟨⟨cellL hs30.bel cx0, cellL hs30.bel cx1, cellL hs30.bel cx2⟩, ?_⟩
    (repeat (first | (apply t4_skip rfl (by rfl); try simp only [Act.put, List.setIfInBounds_toArray, List.set_cons_zero, List.set_cons_succ]) | (apply t4_float rfl (by rfl); (· (intro w' hS; go_simp <;> with_reducible rfl)); (try simp only [Act.put, List.setIfInBounds_toArray, List.set_cons_zero, List.set_cons_succ]))))
    refine t4_hskip rfl (by rfl) ?_ ?_
    · exact ⟨cellL hs30.bel cx0, cellL hs30.bel cx1, cellL hs30.bel cx2⟩
    (try simp only [Act.put, List.setIfInBounds_toArray, List.set_cons_zero, List.set_cons_succ])
    (repeat (first | (apply t4_skip rfl (by rfl); try simp only [Act.put, List.setIfInBounds_toArray, List.set_cons_zero, List.set_cons_succ]) | (apply t4_float rfl (by rfl); (· (intro w' hS; go_simp <;> with_reducible rfl)); (try simp only [Act.put, List.setIfInBounds_toArray, List.set_cons_zero, List.set_cons_succ]))))
    have cx0_ := cellL hs30.bel cx0
    have cx1_ := cellL hs30.bel cx1
    have cx2_ := cellL hs30.bel cx2
    refine t4_nil (NoPanic.normal ?_)
    go_wp2_with fail
    go_ret
    exact ⟨ret_bool H1.out.symm, hs30.bel⟩
  | true =>
    cases h2 : inB vars fr 8 with
    | false =>
      have H2 := Lib.hid (frameOk_2 (f := (fr, vars, l)) h2)
      go_upto_region 1 with fail
      refine wp_region_noPanic (wp_region_tree4 (fun w' => w'.cell? ⟨xb, 0, none⟩ = some (.int .i64 fr) ∧ w'.cell? ⟨xb, 1, none⟩ = some (.int .i64 vars) ∧ w'.cell? ⟨xb, 2, none⟩ = some (.slice a l.length c)) (.float 0 (.float 1 (.float 2 (.float 3 (.hard 4 (.float 5 (.float 6 (.float 7 (.float 8 (.float 9 (.float 10 (.float 11 (.float 12 (.float 13 (.hard 14 (.float 15 (.float 16 (.float 17 (.float 18 (.float 19 (.float 20 (.float 21 (.float 22 (.float 23 (.float 24 .nil))))))))))))))))))))))))) (by kernel_rfl) (by kernel_rfl) (by kernel_rfl) rfl ?_ (fun _ _ _ _ _ h => h) ?_)
      · exact ⟨cellL ((St.start w).drew).bel cx0, cellL ((St.start w).drew).bel cx1, cellL ((St.start w).drew).bel cx2⟩
      have hs33 := (St.start w).drew
      clear cx0_ cx1_ cx2_
      have hz_wd34 : w.heap.size ≤ (w.drew).heap.size := by simp
      generalize hgen_wd34 : w.drew = wd34 at *
      have HG_wd34 := Lib.hid hgen_wd34
      clear hgen_wd34
      (repeat (first | (apply t4_skip rfl (by rfl); try simp only [Act.put, List.setIfInBounds_toArray, List.set_cons_zero, List.set_cons_succ]) | (apply t4_float rfl (by rfl); (· (intro w' hS; go_simp <;> with_reducible rfl)); (try simp only [Act.put, List.setIfInBounds_toArray, List.set_cons_zero, List.set_cons_succ]))))
      refine t4_hard rfl (by rfl) (fun K hK => ?_)
      go_wp2_with (go_at_call 78; refine (l01Arity_c fr _).mono ?_; rintro e w35 ⟨rfl, rfl, rfl⟩)
      refine ⟨⟨cellL hs33.bel cx0, cellL hs33.bel cx1, cellL hs33.bel cx2⟩, ?_⟩
      (repeat (first | (apply t4_skip rfl (by rfl); try simp only [Act.put, List.setIfInBounds_toArray, List.set_cons_zero, List.set_cons_succ]) | (apply t4_float rfl (by rfl); (· (intro w' hS; go_simp <;> with_reducible rfl)); (try simp only [Act.put, List.setIfInBounds_toArray, List.set_cons_zero, List.set_cons_succ]))))
      refine t4_hard rfl (by rfl) (fun K hK => ?_)
      go_wp2_with (go_at_call 79; refine (l00In_c vars fr 8 _).mono ?_; rintro e w36 ⟨rfl, rfl, rfl⟩)
      refine ⟨⟨cellL hs33.bel cx0, cellL hs33.bel cx1, cellL hs33.bel cx2⟩, ?_⟩
      (repeat (first | (apply t4_skip rfl (by rfl); try simp only [Act.put, List.setIfInBounds_toArray, List.set_cons_zero, List.set_cons_succ]) | (apply t4_float rfl (by rfl); (· (intro w' hS; go_simp <;> with_reducible rfl)); (try simp only [Act.put, List.setIfInBounds_toArray, List.set_cons_zero, List.set_cons_succ]))))
      have cx0_ := cellL hs33.bel cx0
      have cx1_ := cellL hs33.bel cx1
      have cx2_ := cellL hs33.bel cx2
      refine t4_nil (NoPanic.normal ?_)
      go_wp2_with fail
      go_ret
      exact ⟨ret_bool H2.out.symm, hs33.bel⟩
    | true =>
      have H2 := Lib.hid (frameOk_3 (f := (fr, vars, l)) h1 h2)
      go_upto_region 1 with fail
      refine wp_region_noPanic (wp_region_tree4 (fun w' => w'.cell? ⟨xb, 0, none⟩ = some (.int .i64 fr) ∧ w'.cell? ⟨xb, 1, none⟩ = some (.int .i64 vars) ∧ w'.cell? ⟨xb, 2, none⟩ = some (.slice a l.length c)) (.float 0 (.float 1 (.float 2 (.float 3 (.hard 4 (.float 5 (.float 6 (.float 7 (.float 8 (.float 9 (.float 10 (.float 11 (.float 12 (.float 13 (.hard 14 (.float 15 (.float 16 (.float 17 (.float 18 (.float 19 (.float 20 (.float 21 (.float 22 (.float 23 (.float 24 .nil))))))))))))))))))))))))) (by kernel_rfl) (by kernel_rfl) (by kernel_rfl) rfl ?_ (fun _ _ _ _ _ h => h) ?_)
      · exact ⟨cellL ((St.start w).drew).bel cx0, cellL ((St.start w).drew).bel cx1, cellL ((St.start w).drew).bel cx2⟩
      have hs37 := (St.start w).drew
      clear cx0_ cx1_ cx2_
      have hz_wd38 : w.heap.size ≤ (w.drew).heap.size := by simp
      generalize hgen_wd38 : w.drew = wd38 at *
      have HG_wd38 := Lib.hid hgen_wd38
      clear hgen_wd38
      (repeat (first | (apply t4_skip rfl (by rfl); try simp only [Act.put, List.setIfInBounds_toArray, List.set_cons_zero, List.set_cons_succ]) | (apply t4_float rfl (by rfl); (· (intro w' hS; go_simp <;> with_reducible rfl)); (try simp only [Act.put, List.setIfInBounds_toArray, List.set_cons_zero, List.set_cons_succ]))))
      refine t4_hard rfl (by rfl) (fun K hK => ?_)
      go_wp2_with (go_at_call 78; refine (l01Arity_c fr _).mono ?_; rintro e w39 ⟨rfl, rfl, rfl⟩)
      refine ⟨⟨cellL hs37.bel cx0, cellL hs37.bel cx1, cellL hs37.bel cx2⟩, ?_⟩
      (repeat (first | (apply t4_skip rfl (by rfl); try simp only [Act.put, List.setIfInBounds_toArray, List.set_cons_zero, List.set_cons_succ]) | (apply t4_float rfl (by rfl); (· (intro w' hS; go_simp <;> with_reducible rfl)); (try simp only [Act.put, List.setIfInBounds_toArray, List.set_cons_zero, List.set_cons_succ]))))
      refine t4_hard rfl (by rfl) (fun K hK => ?_)
      go_wp2_with (go_at_call 79; refine (l00In_c vars fr 8 _).mono ?_; rintro e w40 ⟨rfl, rfl, rfl⟩)
      refine ⟨⟨cellL hs37.bel cx0, cellL hs37.bel cx1, cellL hs37.bel cx2⟩, ?_⟩
      (repeat (first | (apply t4_skip rfl (by rfl); try simp only [Act.put, List.setIfInBounds_toArray, List.set_cons_zero, List.set_cons_succ]) | (apply t4_float rfl (by rfl); (· (intro w' hS; go_simp <;> with_reducible rfl)); (try simp only [Act.put, List.setIfInBounds_toArray, List.set_cons_zero, List.set_cons_succ]))))
      have cx0_ := cellL hs37.bel cx0
      have cx1_ := cellL hs37.bel cx1
      have cx2_ := cellL hs37.bel cx2
      refine t4_nil (NoPanic.normal ?_)
      go_wp2_with fail
      go_ret
      exact ⟨ret_bool (by rw [H2.out]; exact decide_eq_decide.2 (by omega)), hs37.bel⟩
set_option maxRecDepth 100000 in
set_option maxHeartbeats 8000000 in
theorem l03Ok_c (t : Tmpl) (f : Fml) (tb xb : Nat) (t0 t1 x0 x1 x2 : Value) (w : World) (ht : Rd w [t0, t1] t) (hx : Rd w [x0, x1, x2] f)
    (ct0 : w.cell? ⟨tb, 0, none⟩ = some t0) (ct1 : w.cell? ⟨tb, 1, none⟩ = some t1) (cx0 : w.cell? ⟨xb, 0, none⟩ = some x0) (cx1 : w.cell? ⟨xb, 1, none⟩ = some x1) (cx2 : w.cell? ⟨xb, 2, none⟩ = some x2) :
    Calls Tryz.prog 19 #[.pointer (some ⟨tb, 0, none⟩), .pointer (some ⟨xb, 0, none⟩)] w fun e w' => e = .returned (.bool (fmlOk t f)) ∧ Below w.heap.size w w' := by
  obtain ⟨size, rs⟩ := t
  obtain ⟨fr, vars, l⟩ := f
  have HT := Lib.hid ht
  have zt := rd_cons rfl ht
  obtain ⟨rfl, _⟩ := rd_i1 zt.1
  obtain ⟨at0, cc0, rfl, _⟩ := rd_list zt.2
  have HTR := Lib.hid zt.2
  have HF := Lib.hid hx
  have zx := rd_cons rfl hx
  obtain ⟨rfl, _⟩ := rd_i1 zx.1
  have zy := rd_cons rfl zx.2
  obtain ⟨rfl, _⟩ := rd_i1 zy.1
  have HL := Lib.hid zy.2
  obtain ⟨a, c, rfl, hrl⟩ := rd_list zy.2
  have hb0 := (rdSl_len hrl).2
  unfold maxLen at hb0
  have HLR := Lib.hid hrl
  clear ht hx zt zx zy hrl
  have ct0_ := cellL (St.start w).bel ct0
  clear ct0_
  have ct0_ := cellL (St.start w).bel ct0
  have ct1_ := cellL (St.start w).bel ct1
  clear ct0_ ct1_
  have ct0_ := cellL (St.start w).bel ct0
  have ct1_ := cellL (St.start w).bel ct1
  have cx0_ := cellL (St.start w).bel cx0
  clear ct0_ ct1_ cx0_
  have ct0_ := cellL (St.start w).bel ct0
  have ct1_ := cellL (St.start w).bel ct1
  have cx0_ := cellL (St.start w).bel cx0
  have cx1_ := cellL (St.start w).bel cx1
  clear ct0_ ct1_ cx0_ cx1_
  have ct0_ := cellL (St.start w).bel ct0
  have ct1_ := cellL (St.start w).bel ct1
  have cx0_ := cellL (St.start w).bel cx0
  have cx1_ := cellL (St.start w).bel cx1
  have cx2_ := cellL (St.start w).bel cx2
  go_enter Tryz.func19, Tryz.ntmps19
  go_wp2_with fail
  refine (l01Template_c (size, rs) _ _ _ _ (Rd.mono HT.out (St.start w).bel) (cellL (St.start w).bel ct0) (cellL (St.start w).bel ct1)).mono ?_
  rintro e w41 ⟨rfl, hbw41⟩
  have hz_w41 : w.heap.size ≤ w41.heap.size := by have h9 := hbw41.size; (try simp at h9); omega
  have hs42 := (St.start w).step hbw41
  clear ct0_ ct1_ cx0_ cx1_ cx2_
  have ct0_ := cellL hs42.bel ct0
  have ct1_ := cellL hs42.bel ct1
  have cx0_ := cellL hs42.bel cx0
  have cx1_ := cellL hs42.bel cx1
  have cx2_ := cellL hs42.bel cx2
  cases h1 : tmplOk (size, rs) with
  | false =>
    have H1 := Lib.hid (show fmlOk (size, rs) (fr, vars, l) = false by unfold fmlOk; rw [h1]; rfl)
    clear h1
    go_wp2_with fail
    go_ret
    exact ⟨ret_bool H1.out.symm, hs42.bel⟩
  | true =>
    have H1 := Lib.hid h1
    have hrl := (tmplOk_get h1).2.1
    simp only at hrl
    clear h1
    go_wp2_with fail
    refine (l03Counts_c (fr, vars, l) _ _ _ _ _ (Rd.mono HF.out hs42.bel) (cellL hs42.bel cx0) (cellL hs42.bel cx1) (cellL hs42.bel cx2)).mono ?_
    rintro e w43 ⟨rfl, hbw43⟩
    have hz_w43 : w41.heap.size ≤ w43.heap.size := by have h9 := hbw43.size; (try simp at h9); omega
    have hs44 := hs42.step hbw43
    clear ct0_ ct1_ cx0_ cx1_ cx2_
    have ct0_ := cellL hs44.bel ct0
    have ct1_ := cellL hs44.bel ct1
    have cx0_ := cellL hs44.bel cx0
    have cx1_ := cellL hs44.bel cx1
    have cx2_ := cellL hs44.bel cx2
    cases h2 : frameOk (fr, vars, l) with
    | false =>
      have H2 := Lib.hid (show fmlOk (size, rs) (fr, vars, l) = false by unfold fmlOk; rw [h2, Bool.and_false]; rfl)
      clear h2
      go_wp2_with fail
      go_ret
      exact ⟨ret_bool H2.out.symm, hs44.bel⟩
    | true =>
      have H3 := Lib.hid (show fmlOk (size, rs) (fr, vars, l) = l.all (atomOk (size, rs) vars) by unfold fmlOk; rw [h2, H1.out]; rfl)
      have hv := frameOk_get h2
      simp only at hv
      clear h2
      go_wp2_with fail
      go_loopw [5] (fun i wl => ∃ k : Nat, k ≤ l.length ∧ i = .int .i64 k ∧ Hid (Below (w43).heap.size (w43) wl) ∧ Hid (∀ j (hj : j < l.length), j < k → atomOk (size, rs) vars l[j] = true)) (fun i _ => l.length - (intOf i).toNat)
      case atStart => exact ⟨0, Nat.zero_le _, rfl, Below.refl _ _, fun j _ hj => absurd hj (Nat.not_lt_zero _)⟩
      case round =>
        obtain ⟨k, hk, rfl, hbl, hr⟩ := hrel
        have hbl2 := hbl.out
        have hz_wr : w43.heap.size ≤ wr.heap.size := by have h9 := hbl2.size; (try simp at h9); omega
        have hs45 := hs44.step hbl2
        clear ct0_ ct1_ cx0_ cx1_ cx2_
        have ct0_ := cellL hs45.bel ct0
        have ct1_ := cellL hs45.bel ct1
        have cx0_ := cellL hs45.bel cx0
        have cx1_ := cellL hs45.bel cx1
        have cx2_ := cellL hs45.bel cx2
        have HBL := Lib.hid hbl2
        clear hbl2 hbl
        by_cases hlt : k < l.length
        · obtain ⟨b, o, u0, u1, rfl, q0, q1, hy⟩ := rdSl_two rfl HLR.out k hlt
          have hyz := rd_cons rfl hy
          obtain ⟨rfl, hIc⟩ := rd_i1 hyz.1
          have HSC := Lib.hid hyz.2
          obtain ⟨a2, c2, rfl, _⟩ := rd_list hyz.2
          clear hy hyz
          have HK := Lib.hid (show ∀ B, atomOk (size, rs) vars l[k] = B → (B = false → fmlOk (size, rs) (fr, vars, l) = false) by
            intro B e hB
            rw [H3.out]
            exact List.all_eq_false.2 ⟨_, List.getElem_mem hlt, by rw [e, hB]; decide⟩)
          have hkl : (k : Int) < l.length := by omega
          generalize hlk : l[k] = LK at *
          obtain ⟨ci, sc⟩ := LK
          simp only at *
          have HLK := Lib.hid hlk
          clear hlk
          clear ct0_ ct1_ cx0_ cx1_ cx2_
          have ct0_ := cellL hs45.bel ct0
          have ct1_ := cellL hs45.bel ct1
          have cx0_ := cellL hs45.bel cx0
          have cx1_ := cellL hs45.bel cx1
          have cx2_ := cellL hs45.bel cx2
          have q0_ := cellL hs45.bel q0
          clear ct0_ ct1_ cx0_ cx1_ cx2_ q0_
          have ct0_ := cellL hs45.bel ct0
          have ct1_ := cellL hs45.bel ct1
          have cx0_ := cellL hs45.bel cx0
          have cx1_ := cellL hs45.bel cx1
          have cx2_ := cellL hs45.bel cx2
          have q0_ := cellL hs45.bel q0
          have q1_ := cellL hs45.bel q1
          clear ct0_ ct1_ cx0_ cx1_ cx2_ q0_ q1_
          have ct0_ := cellL hs45.bel ct0
          have ct1_ := cellL hs45.bel ct1
          have cx0_ := cellL hs45.bel cx0
          have cx1_ := cellL hs45.bel cx1
          have cx2_ := cellL hs45.bel cx2
          have q0_ := cellL hs45.bel q0
          have q1_ := cellL hs45.bel q1
          have HA := Lib.hid (show atomOk (size, rs) vars (ci, sc) = (!decide (arityA (size, rs) ci = 0) && valsOk vars sc (arityA (size, rs) ci)) from rfl)
          generalize hAR : arityA (size, rs) ci = AR at *
          have HAR := Lib.hid hAR
          clear hAR
          go_wp2_with fail
          refine (l03Arity_c (size, rs) ci AR _ _ _ (Rd.mono HTR.out hs45.bel) (cellL hs45.bel ct1) hrl HAR.out).mono ?_
          rintro e w46 ⟨rfl, rfl, rfl⟩
          cases h1 : (AR == 0) with
          | true =>
            have HF1 := Lib.hid (HK.out false (by rw [HA.out, decide_eq_true (by simpa using h1)]; rfl) rfl)
            go_upto_region 7 with fail
            refine wp_region_noPanic (wp_region_tree4 (fun w' => w'.cell? ⟨tb, 0, none⟩ = some (.int .i64 size) ∧ w'.cell? ⟨tb, 1, none⟩ = some (.slice at0 rs.length cc0) ∧ w'.cell? ⟨xb, 0, none⟩ = some (.int .i64 fr) ∧ w'.cell? ⟨xb, 1, none⟩ = some (.int .i64 vars) ∧ w'.cell? ⟨xb, 2, none⟩ = some (.slice (some ⟨b, o, none⟩) l.length c) ∧ w'.cell? ⟨b, o + k * 2, none⟩ = some (.int .i64 ci) ∧ w'.cell? ⟨b, o + k * 2 + 1, none⟩ = some (.slice a2 sc.length c2)) (.float 0 (.float 1 (.float 2 (.float 3 (.float 4 (.float 5 (.float 6 (.float 7 (.float 8 (.float 9 (.float 10 (.float 11 (.float 12 (.float 13 (.float 14 (.float 15 (.float 16 (.float 17 (.float 18 (.float 19 (.float 20 (.float 21 (.float 22 (.float 23 (.float 24 (.float 25 (.float 26 (.float 27 (.hard 28 (.float 29 (.float 30 .nil))))))))))))))))))))))))))))))) (by kernel_rfl) (by kernel_rfl) (by kernel_rfl) rfl ?_ (fun _ _ _ _ _ h => h) ?_)
            · exact ⟨cellL (hs45.drew).bel ct0, cellL (hs45.drew).bel ct1, cellL (hs45.drew).bel cx0, cellL (hs45.drew).bel cx1, cellL (hs45.drew).bel cx2, cellL (hs45.drew).bel q0, cellL (hs45.drew).bel q1⟩
            have hs47 := hs45.drew
            have HBL_48 := Lib.hid (HBL.out.trans (((belowD _)).mono HBL.out.size))
            clear HBL
            clear ct0_ ct1_ cx0_ cx1_ cx2_ q0_ q1_
            have hz_wd49 : wr.heap.size ≤ (wr.drew).heap.size := by simp
            generalize hgen_wd49 : wr.drew = wd49 at *
            have HG_wd49 := Lib.hid hgen_wd49
            clear hgen_wd49
            (repeat (first | (apply t4_skip rfl (by rfl); try simp only [Act.put, List.setIfInBounds_toArray, List.set_cons_zero, List.set_cons_succ]) | (apply t4_float rfl (by rfl); (· (intro w' hS; go_simp <;> with_reducible rfl)); (try simp only [Act.put, List.setIfInBounds_toArray, List.set_cons_zero, List.set_cons_succ]))))
            refine t4_hskip rfl (by rfl) ?_ ?_
            · exact ⟨cellL hs47.bel ct0, cellL hs47.bel ct1, cellL hs47.bel cx0, cellL hs47.bel cx1, cellL hs47.bel cx2, cellL hs47.bel q0, cellL hs47.bel q1⟩
            (try simp only [Act.put, List.setIfInBounds_toArray, List.set_cons_zero, List.set_cons_succ])
            (repeat (first | (apply t4_skip rfl (by rfl); try simp only [Act.put, List.setIfInBounds_toArray, List.set_cons_zero, List.set_cons_succ]) | (apply t4_float rfl (by rfl); (· (intro w' hS; go_simp <;> with_reducible rfl)); (try simp only [Act.put, List.setIfInBounds_toArray, List.set_cons_zero, List.set_cons_succ]))))
            have ct0_ := cellL hs47.bel ct0
            have ct1_ := cellL hs47.bel ct1
            have cx0_ := cellL hs47.bel cx0
            have cx1_ := cellL hs47.bel cx1
            have cx2_ := cellL hs47.bel cx2
            have q0_ := cellL hs47.bel q0
            have q1_ := cellL hs47.bel q1
            refine t4_nil (NoPanic.normal ?_)
            go_wp2_with fail
            go_ret
            exact ⟨ret_bool HF1.out.symm, hs47.bel⟩
          | false =>
            have HV := Lib.hid (show atomOk (size, rs) vars (ci, sc) = valsOk vars sc AR by rw [HA.out, decide_eq_false (by simpa using h1)]; rfl)
            by_cases h4 : (sc.length : Int) = AR
            · have h5 : ((sc.length : Int) != AR) = false := by simp [h4]
              have HV2 := Lib.hid (show atomOk (size, rs) vars (ci, sc) = sc.all (fun a => inB a 0 (vars - 1)) by rw [HV.out]; unfold valsOk; rw [decide_eq_true h4]; rfl)
              clear h4
              go_upto_region 7 with fail
              refine wp_region_noPanic (wp_region_tree4 (fun w' => w'.cell? ⟨tb, 0, none⟩ = some (.int .i64 size) ∧ w'.cell? ⟨tb, 1, none⟩ = some (.slice at0 rs.length cc0) ∧ w'.cell? ⟨xb, 0, none⟩ = some (.int .i64 fr) ∧ w'.cell? ⟨xb, 1, none⟩ = some (.int .i64 vars) ∧ w'.cell? ⟨xb, 2, none⟩ = some (.slice (some ⟨b, o, none⟩) l.length c) ∧ w'.cell? ⟨b, o + k * 2, none⟩ = some (.int .i64 ci) ∧ w'.cell? ⟨b, o + k * 2 + 1, none⟩ = some (.slice a2 sc.length c2)) (.float 0 (.float 1 (.float 2 (.float 3 (.float 4 (.float 5 (.float 6 (.float 7 (.float 8 (.float 9 (.float 10 (.float 11 (.float 12 (.float 13 (.float 14 (.float 15 (.float 16 (.float 17 (.float 18 (.float 19 (.float 20 (.float 21 (.float 22 (.float 23 (.float 24 (.float 25 (.float 26 (.float 27 (.hard 28 (.float 29 (.float 30 .nil))))))))))))))))))))))))))))))) (by kernel_rfl) (by kernel_rfl) (by kernel_rfl) rfl ?_ (fun _ _ _ _ _ h => h) ?_)
              · exact ⟨cellL (hs45.drew).bel ct0, cellL (hs45.drew).bel ct1, cellL (hs45.drew).bel cx0, cellL (hs45.drew).bel cx1, cellL (hs45.drew).bel cx2, cellL (hs45.drew).bel q0, cellL (hs45.drew).bel q1⟩
              have hs50 := hs45.drew
              have HBL_51 := Lib.hid (HBL.out.trans (((belowD _)).mono HBL.out.size))
              clear HBL
              clear ct0_ ct1_ cx0_ cx1_ cx2_ q0_ q1_
              have hz_wd52 : wr.heap.size ≤ (wr.drew).heap.size := by simp
              generalize hgen_wd52 : wr.drew = wd52 at *
              have HG_wd52 := Lib.hid hgen_wd52
              clear hgen_wd52
              (repeat (first | (apply t4_skip rfl (by rfl); try simp only [Act.put, List.setIfInBounds_toArray, List.set_cons_zero, List.set_cons_succ]) | (apply t4_float rfl (by rfl); (· (intro w' hS; go_simp <;> with_reducible rfl)); (try simp only [Act.put, List.setIfInBounds_toArray, List.set_cons_zero, List.set_cons_succ]))))
              refine t4_hard rfl (by rfl) (fun K hK => ?_)
              go_wp2_with (go_at_call 37; refine (l01Places_c vars sc _ _ (Rd.mono HSC.out hs50.bel) (by omega) (by omega)).mono ?_; rintro e w53 ⟨rfl, rfl, rfl⟩)
              refine ⟨⟨cellL hs50.bel ct0, cellL hs50.bel ct1, cellL hs50.bel cx0, cellL hs50.bel cx1, cellL hs50.bel cx2, cellL hs50.bel q0, cellL hs50.bel q1⟩, ?_⟩
              (repeat (first | (apply t4_skip rfl (by rfl); try simp only [Act.put, List.setIfInBounds_toArray, List.set_cons_zero, List.set_cons_succ]) | (apply t4_float rfl (by rfl); (· (intro w' hS; go_simp <;> with_reducible rfl)); (try simp only [Act.put, List.setIfInBounds_toArray, List.set_cons_zero, List.set_cons_succ]))))
              have ct0_ := cellL hs50.bel ct0
              have ct1_ := cellL hs50.bel ct1
              have cx0_ := cellL hs50.bel cx0
              have cx1_ := cellL hs50.bel cx1
              have cx2_ := cellL hs50.bel cx2
              have q0_ := cellL hs50.bel q0
              have q1_ := cellL hs50.bel q1
              refine t4_nil (NoPanic.normal ?_)
              cases h6 : sc.all (fun a => inB a 0 (vars - 1)) with
              | false =>
                have HF1 := Lib.hid (HK.out false (by rw [HV2.out, h6]) rfl)
                clear h6
                go_wp2_with fail
                go_ret
                exact ⟨ret_bool HF1.out.symm, hs50.bel⟩
              | true =>
                have HT6 := Lib.hid (HV2.out.trans h6)
                clear h6
                go_wp2_with fail
                go_roundw
                case rel =>
                  refine ⟨k + 1, by omega, by go_num, HBL_51.out, fun i hi hik => ?_⟩
                  rcases Nat.lt_or_ge i k with h | h
                  · exact hr.out i hi h
                  · obtain rfl : i = k := by omega
                    rw [HLK.out]; exact HT6.out
                case measure => simp [intOf]; omega
            · have h5 : ((sc.length : Int) != AR) = true := by simp [h4]
              have HF1 := Lib.hid (HK.out false (by rw [HV.out]; unfold valsOk; rw [decide_eq_false h4]; rfl) rfl)
              clear h4
              go_upto_region 7 with fail
              refine wp_region_noPanic (wp_region_tree4 (fun w' => w'.cell? ⟨tb, 0, none⟩ = some (.int .i64 size) ∧ w'.cell? ⟨tb, 1, none⟩ = some (.slice at0 rs.length cc0) ∧ w'.cell? ⟨xb, 0, none⟩ = some (.int .i64 fr) ∧ w'.cell? ⟨xb, 1, none⟩ = some (.int .i64 vars) ∧ w'.cell? ⟨xb, 2, none⟩ = some (.slice (some ⟨b, o, none⟩) l.length c) ∧ w'.cell? ⟨b, o + k * 2, none⟩ = some (.int .i64 ci) ∧ w'.cell? ⟨b, o + k * 2 + 1, none⟩ = some (.slice a2 sc.length c2)) (.float 0 (.float 1 (.float 2 (.float 3 (.float 4 (.float 5 (.float 6 (.float 7 (.float 8 (.float 9 (.float 10 (.float 11 (.float 12 (.float 13 (.float 14 (.float 15 (.float 16 (.float 17 (.float 18 (.float 19 (.float 20 (.float 21 (.float 22 (.float 23 (.float 24 (.float 25 (.float 26 (.float 27 (.hard 28 (.float 29 (.float 30 .nil))))))))))))))))))))))))))))))) (by kernel_rfl) (by kernel_rfl) (by kernel_rfl) rfl ?_ (fun _ _ _ _ _ h => h) ?_)
              · exact ⟨cellL (hs45.drew).bel ct0, cellL (hs45.drew).bel ct1, cellL (hs45.drew).bel cx0, cellL (hs45.drew).bel cx1, cellL (hs45.drew).bel cx2, cellL (hs45.drew).bel q0, cellL (hs45.drew).bel q1⟩
              have hs54 := hs45.drew
              have HBL_55 := Lib.hid (HBL.out.trans (((belowD _)).mono HBL.out.size))
              clear HBL
              clear ct0_ ct1_ cx0_ cx1_ cx2_ q0_ q1_
              have hz_wd56 : wr.heap.size ≤ (wr.drew).heap.size := by simp
              generalize hgen_wd56 : wr.drew = wd56 at *
              have HG_wd56 := Lib.hid hgen_wd56
              clear hgen_wd56
              (repeat (first | (apply t4_skip rfl (by rfl); try simp only [Act.put, List.setIfInBounds_toArray, List.set_cons_zero, List.set_cons_succ]) | (apply t4_float rfl (by rfl); (· (intro w' hS; go_simp <;> with_reducible rfl)); (try simp only [Act.put, List.setIfInBounds_toArray, List.set_cons_zero, List.set_cons_succ]))))
              refine t4_hskip rfl (by rfl) ?_ ?_
              · exact ⟨cellL hs54.bel ct0, cellL hs54.bel ct1, cellL hs54.bel cx0, cellL hs54.bel cx1, cellL hs54.bel cx2, cellL hs54.bel q0, cellL hs54.bel q1⟩
              (try simp only [Act.put, List.setIfInBounds_toArray, List.set_cons_zero, List.set_cons_succ])
              (repeat (first | (apply t4_skip rfl (by rfl); try simp only [Act.put, List.setIfInBounds_toArray, List.set_cons_zero, List.set_cons_succ]) | (apply t4_float rfl (by rfl); (· (intro w' hS; go_simp <;> with_reducible rfl)); (try simp only [Act.put, List.setIfInBounds_toArray, List.set_cons_zero, List.set_cons_succ]))))
              have ct0_ := cellL hs54.bel ct0
              have ct1_ := cellL hs54.bel ct1
              have cx0_ := cellL hs54.bel cx0
              have cx1_ := cellL hs54.bel cx1
              have cx2_ := cellL hs54.bel cx2
              have q0_ := cellL hs54.bel q0
              have q1_ := cellL hs54.bel q1
              refine t4_nil (NoPanic.normal ?_)
              go_wp2_with fail
              go_ret
              exact ⟨ret_bool HF1.out.symm, hs54.bel⟩
        · obtain rfl : k = l.length := by omega
          have HA := Lib.hid (show l.all (atomOk (size, rs) vars) = true by
            rw [List.all_eq_true]
            intro y hy
            obtain ⟨j, hj, rfl⟩ := List.getElem_of_mem hy
            exact hr.out j hj hj)
          have hkl : ¬ ((l.length : Int) < l.length) := by omega
          go_wp2_with fail
          go_ret
          exact ⟨ret_bool (by rw [H3.out, HA.out]), hs45.bel⟩

end Go.Proofs.YtnefmhhemaenkaaGreat
