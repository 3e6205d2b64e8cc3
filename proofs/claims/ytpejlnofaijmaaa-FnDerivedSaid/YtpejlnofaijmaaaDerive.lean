/-
  CONTRACTS: DerivationOf, Follows; both sides.
-/
import Derived.Test.YtpejlnofaijmaaaTaken
namespace Go.Proofs.Ytpejlnofaijmaaa
open Go.RowKit Go.Shelf Go.IntWalk
open Rep (Rd Own sz)
set_option linter.unusedSimpArgs false
set_option linter.unusedVariables false

theorem faultF_cases (s : Sys) (e : Eqn) : (validS s = false ∧ faultF s e = 1) ∨ (validS s = true ∧ eqnOk s.1 s.2.1 e = false ∧ faultF s e = 2) ∨ (validS s = true ∧ eqnOk s.1 s.2.1 e = true ∧ faultF s e = 0) := by
  unfold faultF
  cases h1 : validS s <;> cases h2 : eqnOk s.1 s.2.1 e <;> simp
set_option maxRecDepth 100000 in
set_option maxHeartbeats 4000000 in
theorem followFault_c (s : Sys) (x : Eqn) (v0 v1 v2 e0 e1 : Value) (w : World) (hx : Rd w [v0, v1, v2] s) (he : Rd w [e0, e1] x) :
    Calls Try.prog 18 #[.agg #[v0, v1, v2], .agg #[e0, e1]] w fun e w' => e = .returned (.int .i64 (faultF s x)) ∧ Below w.heap.size w w' := by
  obtain ⟨p, u, l⟩ := s
  obtain ⟨El, Er⟩ := x
  have HX := Lib.hid hx
  have HE := Lib.hid he
  have z := rd_cons rfl hx
  obtain ⟨rfl, _⟩ := rd_i1 z.1
  have z2 := rd_cons rfl z.2
  obtain ⟨rfl, _⟩ := rd_i1 z2.1
  obtain ⟨a, c, rfl, _⟩ := rd_list z2.2
  have ze := rd_cons rfl he
  obtain ⟨ae, ce, rfl, _⟩ := rd_list ze.1
  obtain ⟨rfl, _⟩ := rd_i1 ze.2
  clear hx he z z2 ze
  have hs1 := (St.start w).alloc #[.int .i64 p, .int .i64 u, .slice a l.length c] 26 (n := w.heap.size) (by simp)
  have k0_0 := hs1.cellAt 0 rfl 0 rfl
  have k0_1 := hs1.cellAt 0 rfl 1 rfl
  have k0_2 := hs1.cellAt 0 rfl 2 rfl
  have hs2 := hs1.alloc #[.slice ae El.length ce, .int .i64 Er] 30 (n := w.heap.size + 1) (by simp)
  clear k0_0 k0_1 k0_2
  have k0_0 := hs2.cellAt 0 rfl 0 rfl
  have k0_1 := hs2.cellAt 0 rfl 1 rfl
  have k0_2 := hs2.cellAt 0 rfl 2 rfl
  have k1_0 := hs2.cellAt 1 rfl 0 rfl
  have k1_1 := hs2.cellAt 1 rfl 1 rfl
  go_enter Try.func18, Try.ntmps18
  go_wp2_with fail
  refine (ValidSystem_c (p, u, l) _ _ _ _ (Rd.mono HX.out hs2.bel)).mono ?_
  rintro e w3 ⟨rfl, hbw3⟩
  have hz_w3 : w.heap.size + 1 + 1 ≤ w3.heap.size := by have h9 := hbw3.size; (try simp at h9); omega
  have hs4 := hs2.step hbw3
  clear k0_0 k0_1 k0_2 k1_0 k1_1
  have k0_0 := hs4.cellAt 0 rfl 0 rfl
  have k0_1 := hs4.cellAt 0 rfl 1 rfl
  have k0_2 := hs4.cellAt 0 rfl 2 rfl
  have k1_0 := hs4.cellAt 1 rfl 0 rfl
  have k1_1 := hs4.cellAt 1 rfl 1 rfl
  cases hok : validS (p, u, l) with
  | false =>
    have HK := Lib.hid hok
    clear hok
    go_wp2_with fail
    go_ret
    exact ⟨ret_int (by unfold faultF; rw [HK.out]; rfl), hs4.bel⟩
  | true =>
    have hp := (validS_get hok).1
    have HK := Lib.hid hok
    clear hok
    go_wp2_with fail
    refine (isEquation_c p u (El, Er) _ _ _ (Rd.mono HE.out hs4.bel) (by omega) (by omega)).mono ?_
    rintro e w5 ⟨rfl, hbw5⟩
    have hz_w5 : w3.heap.size ≤ w5.heap.size := by have h9 := hbw5.size; (try simp at h9); omega
    have hs6 := hs4.step hbw5
    clear k0_0 k0_1 k0_2 k1_0 k1_1
    have k0_0 := hs6.cellAt 0 rfl 0 rfl
    have k0_1 := hs6.cellAt 0 rfl 1 rfl
    have k0_2 := hs6.cellAt 0 rfl 2 rfl
    have k1_0 := hs6.cellAt 1 rfl 0 rfl
    have k1_1 := hs6.cellAt 1 rfl 1 rfl
    cases hq : eqnOk p u (El, Er) with
    | false =>
      have HQ := Lib.hid hq
      clear hq
      go_wp2_with fail
      go_ret
      exact ⟨ret_int (by unfold faultF; simp only; rw [HK.out, HQ.out]; rfl), hs6.bel⟩
    | true =>
      have HQ := Lib.hid hq
      clear hq
      go_wp2_with fail
      go_ret
      exact ⟨ret_int (by unfold faultF; simp only; rw [HK.out, HQ.out]; rfl), hs6.bel⟩
set_option maxRecDepth 100000 in
set_option maxHeartbeats 4000000 in
theorem l07Asked_c (s : Sys) (x : Eqn) (sb eb : Nat) (v0 v1 v2 e0 e1 : Value) (w : World) (hx : Rd w [v0, v1, v2] s) (he : Rd w [e0, e1] x)
    (c0 : w.cell? ⟨sb, 0, none⟩ = some v0) (c1 : w.cell? ⟨sb, 1, none⟩ = some v1) (c2 : w.cell? ⟨sb, 2, none⟩ = some v2) (d0 : w.cell? ⟨eb, 0, none⟩ = some e0) (d1 : w.cell? ⟨eb, 1, none⟩ = some e1) :
    Calls Try.prog 25 #[.pointer (some ⟨sb, 0, none⟩), .pointer (some ⟨eb, 0, none⟩)] w fun e w' => e = .returned (.int .i64 (faultF s x)) ∧ Below w.heap.size w w' := by
  obtain ⟨p, u, l⟩ := s
  obtain ⟨El, Er⟩ := x
  have HX := Lib.hid hx
  have HE := Lib.hid he
  have z := rd_cons rfl hx
  obtain ⟨rfl, _⟩ := rd_i1 z.1
  have z2 := rd_cons rfl z.2
  obtain ⟨rfl, _⟩ := rd_i1 z2.1
  obtain ⟨a, c, rfl, _⟩ := rd_list z2.2
  have ze := rd_cons rfl he
  obtain ⟨ae, ce, rfl, _⟩ := rd_list ze.1
  obtain ⟨rfl, _⟩ := rd_i1 ze.2
  clear hx he z z2 ze
  have c0_ := cellL (St.start w).bel c0
  clear c0_
  have c0_ := cellL (St.start w).bel c0
  have c1_ := cellL (St.start w).bel c1
  clear c0_ c1_
  have c0_ := cellL (St.start w).bel c0
  have c1_ := cellL (St.start w).bel c1
  have c2_ := cellL (St.start w).bel c2
  clear c0_ c1_ c2_
  have c0_ := cellL (St.start w).bel c0
  have c1_ := cellL (St.start w).bel c1
  have c2_ := cellL (St.start w).bel c2
  have d0_ := cellL (St.start w).bel d0
  clear c0_ c1_ c2_ d0_
  have c0_ := cellL (St.start w).bel c0
  have c1_ := cellL (St.start w).bel c1
  have c2_ := cellL (St.start w).bel c2
  have d0_ := cellL (St.start w).bel d0
  have d1_ := cellL (St.start w).bel d1
  go_enter Try.func25, Try.ntmps25
  go_wp2_with fail
  refine (l07Ok_c (p, u, l) _ _ _ _ _ (Rd.mono HX.out (St.start w).bel) c0_ c1_ c2_).mono ?_
  rintro e w7 ⟨rfl, nw7, rfl⟩
  have hs8 := (St.start w).drewN nw7
  clear c0_ c1_ c2_ d0_ d1_
  have c0_ := cellL hs8.bel c0
  have c1_ := cellL hs8.bel c1
  have c2_ := cellL hs8.bel c2
  have d0_ := cellL hs8.bel d0
  have d1_ := cellL hs8.bel d1
  cases hok : validS (p, u, l) with
  | false =>
    have HK := Lib.hid hok
    clear hok
    go_wp2_with fail
    go_ret
    exact ⟨ret_int (by unfold faultF; rw [HK.out]; rfl), hs8.bel⟩
  | true =>
    have hp := (validS_get hok).1
    have HK := Lib.hid hok
    clear hok
    go_upto_region 3 with fail
    refine wp_region_noPanic (wp_region_tree4 (fun w' => w'.cell? ⟨sb, 0, none⟩ = some (.int .i64 p) ∧ w'.cell? ⟨sb, 1, none⟩ = some (.int .i64 u) ∧ w'.cell? ⟨sb, 2, none⟩ = some (.slice a l.length c) ∧ w'.cell? ⟨eb, 0, none⟩ = some (.slice ae El.length ce) ∧ w'.cell? ⟨eb, 1, none⟩ = some (.int .i64 Er)) (.float 0 (.float 1 (.float 2 (.float 3 (.float 4 (.float 5 (.float 6 (.float 7 (.float 8 (.hard 9 (.float 10 .nil))))))))))) (by kernel_rfl) (by kernel_rfl) (by kernel_rfl) rfl ?_ (fun _ _ _ _ _ h => h) ?_)
    · exact ⟨cellL (hs8.drew).bel c0, cellL (hs8.drew).bel c1, cellL (hs8.drew).bel c2, cellL (hs8.drew).bel d0, cellL (hs8.drew).bel d1⟩
    have hs9 := hs8.drew
    clear c0_ c1_ c2_ d0_ d1_
    have hz_wd10 : w.heap.size ≤ ((w.drewN nw7).drew).heap.size := by simp
    generalize hgen_wd10 : (w.drewN nw7).drew = wd10 at *
    have HG_wd10 := Lib.hid hgen_wd10
    clear hgen_wd10
    (repeat (first | (apply t4_skip rfl (by rfl); try simp only [Act.put, List.setIfInBounds_toArray, List.set_cons_zero, List.set_cons_succ]) | (apply t4_float rfl (by rfl); (· (intro w' hS; go_simp <;> with_reducible rfl)); (try simp only [Act.put, List.setIfInBounds_toArray, List.set_cons_zero, List.set_cons_succ]))))
    refine t4_hard rfl (by rfl) (fun K hK => ?_)
    go_wp2_with (go_at_call 48; refine (l07Equation_c p u (El, Er) _ _ _ _ _ (Rd.mono HE.out hs9.bel) (cellL hs9.bel d0) (cellL hs9.bel d1) (by omega) (by omega)).mono ?_; rintro e w11 ⟨rfl, rfl⟩)
    refine ⟨⟨cellL hs9.bel c0, cellL hs9.bel c1, cellL hs9.bel c2, cellL hs9.bel d0, cellL hs9.bel d1⟩, ?_⟩
    (repeat (first | (apply t4_skip rfl (by rfl); try simp only [Act.put, List.setIfInBounds_toArray, List.set_cons_zero, List.set_cons_succ]) | (apply t4_float rfl (by rfl); (· (intro w' hS; go_simp <;> with_reducible rfl)); (try simp only [Act.put, List.setIfInBounds_toArray, List.set_cons_zero, List.set_cons_succ]))))
    have c0_ := cellL hs9.bel c0
    have c1_ := cellL hs9.bel c1
    have c2_ := cellL hs9.bel c2
    have d0_ := cellL hs9.bel d0
    have d1_ := cellL hs9.bel d1
    refine t4_nil (NoPanic.normal ?_)
    cases hq : eqnOk p u (El, Er) with
    | false =>
      have HQ := Lib.hid hq
      clear hq
      go_wp2_with fail
      go_ret
      exact ⟨ret_int (by unfold faultF; simp only; rw [HK.out, HQ.out]; rfl), hs9.bel⟩
    | true =>
      have HQ := Lib.hid hq
      clear hq
      go_wp2_with fail
      go_ret
      exact ⟨ret_int (by unfold faultF; simp only; rw [HK.out, HQ.out]; rfl), hs9.bel⟩
theorem taken_len {s : Sys} (K : ElimOk s) {x : Eqn} (hx : eqnOk s.1 s.2.1 x = true) : GoodS s.1 s.2.1.toNat s.2.2.length (takenS s x) := by
  have hp := K.hp
  have hu := K.hu
  exact taken_good K (goodS_of_eqn (U := s.2.1.toNat) (by omega) (by rw [Int.toNat_of_nonneg (by omega)]; exact hx)) _ (Nat.le_refl _)
theorem flat_none {U n : Nat} {p : Int} {r : SRow} (h : GoodS p U n r) : noneR (flat r).1 = r.1.all (fun a => a == 0) := by
  unfold noneR flat
  simp
theorem flat_right {r : SRow} : rightR (flat r).1 = r.2.1 := by simp [rightR, flat, List.getD]
theorem derF_bad {s : Sys} {x : Eqn} (h : 0 ≤ falseS s) : derF s x = ([], 4) := by unfold derF; rw [if_pos h]
theorem derF_no {s : Sys} {x : Eqn} (h : ¬ 0 ≤ falseS s) (h2 : ((takenS s x).1.all (fun a => a == 0) && (takenS s x).2.1 == 0) = false) : derF s x = ([], 6) := by unfold derF; rw [if_neg h, h2]; rfl
theorem derF_yes {s : Sys} {x : Eqn} (h : ¬ 0 ≤ falseS s) (h2 : ((takenS s x).1.all (fun a => a == 0) && (takenS s x).2.1 == 0) = true) : derF s x = ((scaleS s.1 (s.1 - 1) (takenS s x)).2.2, 0) := by unfold derF; rw [if_neg h, h2]; rfl
set_option maxRecDepth 100000 in
set_option maxHeartbeats 8000000 in
theorem DerivationOf_c (s : Sys) (v0 v1 v2 : Value) (x : Eqn) (e0 e1 : Value) (w : World) (hx : Rd w [v0, v1, v2] s) (he : Rd w [e0, e1] x) :
    Calls Try.prog 9 #[.agg #[v0, v1, v2], .agg #[e0, e1]] w fun e w' => ∃ v, e = .returned (.tuple #[v, .int .i64 (deriveF s x).2]) ∧ Fresh w.heap.size w' [v] (deriveF s x).1 ∧ Below w.heap.size w w' := by
  obtain ⟨p, u, l⟩ := s
  obtain ⟨El, Er⟩ := x
  have HX := Lib.hid hx
  have HE := Lib.hid he
  have z := rd_cons rfl hx
  obtain ⟨rfl, _⟩ := rd_i1 z.1
  have z2 := rd_cons rfl z.2
  obtain ⟨rfl, _⟩ := rd_i1 z2.1
  obtain ⟨a, c, rfl, _⟩ := rd_list z2.2
  have ze := rd_cons rfl he
  obtain ⟨ae, ce, rfl, _⟩ := rd_list ze.1
  obtain ⟨rfl, _⟩ := rd_i1 ze.2
  clear hx he z z2 ze
  have hs12 := (St.start w).alloc #[.int .i64 p, .int .i64 u, .slice a l.length c] 26 (n := w.heap.size) (by simp)
  have k0_0 := hs12.cellAt 0 rfl 0 rfl
  have k0_1 := hs12.cellAt 0 rfl 1 rfl
  have k0_2 := hs12.cellAt 0 rfl 2 rfl
  have hs13 := hs12.alloc #[.slice ae El.length ce, .int .i64 Er] 30 (n := w.heap.size + 1) (by simp)
  clear k0_0 k0_1 k0_2
  have k0_0 := hs13.cellAt 0 rfl 0 rfl
  have k0_1 := hs13.cellAt 0 rfl 1 rfl
  have k0_2 := hs13.cellAt 0 rfl 2 rfl
  have k1_0 := hs13.cellAt 1 rfl 0 rfl
  have k1_1 := hs13.cellAt 1 rfl 1 rfl
  go_enter Try.func9, Try.ntmps9
  go_wp2_with fail
  refine (followFault_c (p, u, l) (El, Er) _ _ _ _ _ _ (Rd.mono HX.out hs13.bel) (Rd.mono HE.out hs13.bel)).mono ?_
  rintro e w14 ⟨rfl, hbw14⟩
  have hz_w14 : w.heap.size + 1 + 1 ≤ w14.heap.size := by have h9 := hbw14.size; (try simp at h9); omega
  have hs15 := hs13.step hbw14
  clear k0_0 k0_1 k0_2 k1_0 k1_1
  have k0_0 := hs15.cellAt 0 rfl 0 rfl
  have k0_1 := hs15.cellAt 0 rfl 1 rfl
  have k0_2 := hs15.cellAt 0 rfl 2 rfl
  have k1_0 := hs15.cellAt 1 rfl 0 rfl
  have k1_1 := hs15.cellAt 1 rfl 1 rfl
  rcases faultF_cases (p, u, l) (El, Er) with ⟨h1, h2⟩ | ⟨h1, h2, h3⟩ | ⟨h1, h2, h3⟩
  · rw [h2]
    have H2 := Lib.hid (show deriveF (p, u, l) (El, Er) = ([], 1) by unfold deriveF; rw [if_neg (by rw [h2]; decide), h2])
    clear h1 h2
    go_wp2_with fail
    refine bodyPost_ret (v := .tuple #[.slice none 0 0, .int .i64 1]) (by simp [results, Try.results9, go_sem]) rfl ⟨.slice none 0 0, ?_, ?_, hs15.bel⟩
    · rw [H2.out]
    · rw [H2.out]; exact fresh_nil none
  · rw [h3]
    have H2 := Lib.hid (show deriveF (p, u, l) (El, Er) = ([], 2) by unfold deriveF; rw [if_neg (by rw [h3]; decide), h3])
    clear h1 h2 h3
    go_wp2_with fail
    refine bodyPost_ret (v := .tuple #[.slice none 0 0, .int .i64 2]) (by simp [results, Try.results9, go_sem]) rfl ⟨.slice none 0 0, ?_, ?_, hs15.bel⟩
    · rw [H2.out]
    · rw [H2.out]; exact fresh_nil none
  · rw [h3]
    have H2 := Lib.hid (show deriveF (p, u, l) (El, Er) = derF (p, u, l) (El, Er) by unfold deriveF; rw [if_pos h3])
    have HK := Lib.hid h1
    have KO := Lib.hid (elim_ok h1)
    have HQ := Lib.hid h2
    clear h1 h2 h3
    go_wp2_with fail
    refine (reduced_c (p, u, l) _ _ _ _ (Rd.mono HX.out hs15.bel) HK.out).mono ?_
    rintro e w16 ⟨vr, vb, rfl, rr, rb, hbw16⟩
    have hz_w16 : w14.heap.size ≤ w16.heap.size := by have h9 := hbw16.size; (try simp at h9); omega
    have hs17 := hs15.step hbw16
    clear k0_0 k0_1 k0_2 k1_0 k1_1
    have k0_0 := hs17.cellAt 0 rfl 0 rfl
    have k0_1 := hs17.cellAt 0 rfl 1 rfl
    have k0_2 := hs17.cellAt 0 rfl 2 rfl
    have k1_0 := hs17.cellAt 1 rfl 0 rfl
    have k1_1 := hs17.cellAt 1 rfl 1 rfl
    obtain ⟨ar, cr, rfl, _⟩ := rd_list rr
    obtain ⟨ab, cb, rfl, _⟩ := rd_list rb
    have HRR := Lib.hid rr
    have HRB := Lib.hid rb
    clear rr rb
    go_wp2_with fail
    refine (contradiction_c _ _ _ HRR.out KO.out.contr).mono ?_
    rintro e w18 ⟨o0, n0, d0, o1, n1, d1, rfl, hbw18, hat⟩
    have hz_w18 : w16.heap.size ≤ w18.heap.size := by have h9 := hbw18.size; (try simp at h9); omega
    have hs19 := hs17.step hbw18
    have HRR_20 := Lib.hid (Rd.mono HRR.out hbw18)
    clear HRR
    have HRB_21 := Lib.hid (Rd.mono HRB.out hbw18)
    clear HRB
    clear k0_0 k0_1 k0_2 k1_0 k1_1
    have k0_0 := hs19.cellAt 0 rfl 0 rfl
    have k0_1 := hs19.cellAt 0 rfl 1 rfl
    have k0_2 := hs19.cellAt 0 rfl 2 rfl
    have k1_0 := hs19.cellAt 1 rfl 0 rfl
    have k1_1 := hs19.cellAt 1 rfl 1 rfl
    clear hat
    rw [contrI KO.out]
    have hs22 := hs19.alloc #[.slice o0 n0 d0, .slice o1 n1 d1] 53 (n := w18.heap.size) (by simp)
    have HRR_23 := Lib.hid (Rd.mono HRR_20.out (belowA _ (.cells #[.slice o0 n0 d0, .slice o1 n1 d1] 53)))
    clear HRR_20
    have HRB_24 := Lib.hid (Rd.mono HRB_21.out (belowA _ (.cells #[.slice o0 n0 d0, .slice o1 n1 d1] 53)))
    clear HRB_21
    clear k0_0 k0_1 k0_2 k1_0 k1_1
    have k0_0 := hs22.cellAt 0 rfl 0 rfl
    have k0_1 := hs22.cellAt 0 rfl 1 rfl
    have k0_2 := hs22.cellAt 0 rfl 2 rfl
    have k1_0 := hs22.cellAt 1 rfl 0 rfl
    have k1_1 := hs22.cellAt 1 rfl 1 rfl
    have k2_0 := hs22.cellAt 2 rfl 0 rfl
    have k2_1 := hs22.cellAt 2 rfl 1 rfl
    by_cases hf : 0 ≤ falseS (p, u, l)
    · rw [decide_eq_true hf]
      have H3 := Lib.hid (derF_bad (x := (El, Er)) hf)
      clear hf
      go_wp2_with fail
      refine bodyPost_ret (v := .tuple #[.slice none 0 0, .int .i64 4]) (by simp [results, Try.results9, go_sem]) rfl ⟨.slice none 0 0, ?_, ?_, hs22.bel⟩
      · rw [H2.out, H3.out]
      · rw [H2.out, H3.out]; exact fresh_nil none
    · rw [decide_eq_false hf]
      have HF := Lib.hid hf
      have HGT := Lib.hid (taken_len KO.out (x := (El, Er)) HQ.out)
      have hu2 := KO.out.hu
      have hp2 := KO.out.hp
      have hl2 := KO.out.hl
      simp only at hu2 hp2 hl2
      have HFG := Lib.hid (flat_good HGT.out)
      clear hf
      go_wp2_with fail
      refine (taken_c (p, u, l) (El, Er) _ _ _ _ _ _ _ _ (Rd.mono HX.out hs22.bel) HRR_23.out HRB_24.out (Rd.mono HE.out hs22.bel) HK.out HQ.out).mono ?_
      rintro e w25 ⟨t0, t1, rfl, rt, hbw25⟩
      have hz_w25 : w18.heap.size + 1 ≤ w25.heap.size := by have h9 := hbw25.size; (try simp at h9); omega
      have hs26 := hs22.step hbw25
      have HRR_27 := Lib.hid (Rd.mono HRR_23.out hbw25)
      clear HRR_23
      have HRB_28 := Lib.hid (Rd.mono HRB_24.out hbw25)
      clear HRB_24
      clear k0_0 k0_1 k0_2 k1_0 k1_1 k2_0 k2_1
      have k0_0 := hs26.cellAt 0 rfl 0 rfl
      have k0_1 := hs26.cellAt 0 rfl 1 rfl
      have k0_2 := hs26.cellAt 0 rfl 2 rfl
      have k1_0 := hs26.cellAt 1 rfl 0 rfl
      have k1_1 := hs26.cellAt 1 rfl 1 rfl
      have k2_0 := hs26.cellAt 2 rfl 0 rfl
      have k2_1 := hs26.cellAt 2 rfl 1 rfl
      obtain ⟨at0, ct0, et0, _⟩ := rd_list (rd_cons rfl rt).1
      obtain ⟨at1, ct1, et1, _⟩ := rd_list (rd_cons rfl rt).2
      subst et0 et1
      have HRT := Lib.hid rt
      clear rt
      clear HRR_27
      clear HRB_28
      have HT1 := Lib.hid (flat_none HGT.out)
      have HT2 := Lib.hid (flat_right (r := takenS (p, u, l) (El, Er)))
      have HT3 := Lib.hid (flat_scale (p := p) (p - 1) (takenS (p, u, l) (El, Er)))
      have H4 := Lib.hid (derF_no (s := (p, u, l)) (x := (El, Er)) (by have := HF.out; omega))
      have H5 := Lib.hid (derF_yes (s := (p, u, l)) (x := (El, Er)) (by have := HF.out; omega))
      generalize takenS (p, u, l) (El, Er) = T at *
      (try simp only at HFG)
      (try simp only at HGT)
      have hs29 := hs26.alloc #[.slice at0 (flat T).1.length ct0, .slice at1 (flat T).2.length ct1] 53 (n := w25.heap.size) (by simp)
      have HRT_30 := Lib.hid (Rd.mono HRT.out (belowA _ (.cells #[.slice at0 (flat T).1.length ct0, .slice at1 (flat T).2.length ct1] 53)))
      clear HRT
      clear k0_0 k0_1 k0_2 k1_0 k1_1 k2_0 k2_1
      have k0_0 := hs29.cellAt 0 rfl 0 rfl
      have k0_1 := hs29.cellAt 0 rfl 1 rfl
      have k0_2 := hs29.cellAt 0 rfl 2 rfl
      have k1_0 := hs29.cellAt 1 rfl 0 rfl
      have k1_1 := hs29.cellAt 1 rfl 1 rfl
      have k2_0 := hs29.cellAt 2 rfl 0 rfl
      have k2_1 := hs29.cellAt 2 rfl 1 rfl
      have k3_0 := hs29.cellAt 3 rfl 0 rfl
      have k3_1 := hs29.cellAt 3 rfl 1 rfl
      go_wp2_with fail
      refine (isNone_c (flat T) _ _ _ HRT_30.out (by rw [HFG.out.1]; omega) (by rw [HFG.out.1]; omega)).mono ?_
      rintro e w31 ⟨rfl, hbw31⟩
      have hz_w31 : w25.heap.size + 1 ≤ w31.heap.size := by have h9 := hbw31.size; (try simp at h9); omega
      have hs32 := hs29.step hbw31
      have HRT_33 := Lib.hid (Rd.mono HRT_30.out hbw31)
      clear HRT_30
      clear k0_0 k0_1 k0_2 k1_0 k1_1 k2_0 k2_1 k3_0 k3_1
      have k0_0 := hs32.cellAt 0 rfl 0 rfl
      have k0_1 := hs32.cellAt 0 rfl 1 rfl
      have k0_2 := hs32.cellAt 0 rfl 2 rfl
      have k1_0 := hs32.cellAt 1 rfl 0 rfl
      have k1_1 := hs32.cellAt 1 rfl 1 rfl
      have k2_0 := hs32.cellAt 2 rfl 0 rfl
      have k2_1 := hs32.cellAt 2 rfl 1 rfl
      have k3_0 := hs32.cellAt 3 rfl 0 rfl
      have k3_1 := hs32.cellAt 3 rfl 1 rfl
      rw [HT1.out]
      cases h1 : T.1.all (fun a => a == 0) with
      | false =>
        have H6 := Lib.hid (H4.out (by rw [h1]; rfl))
        clear h1
        go_wp2_with fail
        refine bodyPost_ret (v := .tuple #[.slice none 0 0, .int .i64 6]) (by simp [results, Try.results9, go_sem]) rfl ⟨.slice none 0 0, ?_, ?_, hs32.bel⟩
        · rw [H2.out, H6.out]
        · rw [H2.out, H6.out]; exact fresh_nil none
      | true =>
        have HN1 := Lib.hid h1
        clear h1
        go_wp2_with fail
        refine (right_c (flat T) _ _ _ HRT_33.out (by rw [HFG.out.1]; omega) (by rw [HFG.out.1]; omega)).mono ?_
        rintro e w34 ⟨rfl, hbw34⟩
        have hz_w34 : w31.heap.size ≤ w34.heap.size := by have h9 := hbw34.size; (try simp at h9); omega
        have hs35 := hs32.step hbw34
        have HRT_36 := Lib.hid (Rd.mono HRT_33.out hbw34)
        clear HRT_33
        clear k0_0 k0_1 k0_2 k1_0 k1_1 k2_0 k2_1 k3_0 k3_1
        have k0_0 := hs35.cellAt 0 rfl 0 rfl
        have k0_1 := hs35.cellAt 0 rfl 1 rfl
        have k0_2 := hs35.cellAt 0 rfl 2 rfl
        have k1_0 := hs35.cellAt 1 rfl 0 rfl
        have k1_1 := hs35.cellAt 1 rfl 1 rfl
        have k2_0 := hs35.cellAt 2 rfl 0 rfl
        have k2_1 := hs35.cellAt 2 rfl 1 rfl
        have k3_0 := hs35.cellAt 3 rfl 0 rfl
        have k3_1 := hs35.cellAt 3 rfl 1 rfl
        rw [HT2.out]
        cases h2 : (T.2.1 == 0) with
        | false =>
          have h3 : (T.2.1 != 0) = true := by simp only [bne, h2]; rfl
          have H6 := Lib.hid (H4.out (by rw [HN1.out, h2]; rfl))
          clear h2
          go_wp2_with fail
          refine bodyPost_ret (v := .tuple #[.slice none 0 0, .int .i64 6]) (by simp [results, Try.results9, go_sem]) rfl ⟨.slice none 0 0, ?_, ?_, hs35.bel⟩
          · rw [H2.out, H6.out]
          · rw [H2.out, H6.out]; exact fresh_nil none
        | true =>
          have h3 : (T.2.1 != 0) = false := by simp only [bne, h2]; rfl
          have H6 := Lib.hid (H5.out (by rw [HN1.out, h2]; rfl))
          clear h2
          have hp3 : p ≤ 3 := by omega
          have hp0 : 2 ≤ p := by omega
          go_wp2_with fail
          refine (times_c p (p - 1) (flat T) _ _ _ HRT_36.out (by rw [HFG.out.1]; omega) (by rw [HFG.out.2.1]; omega) (by omega) (by omega) (by omega) (by omega) HFG.out.2.2.1 HFG.out.2.2.2).mono ?_
          rintro e w37 ⟨x0, x1, rfl, fr, hbw37⟩
          have hz_w37 : w34.heap.size ≤ w37.heap.size := by have h9 := hbw37.size; (try simp at h9); omega
          have hs38 := hs35.step hbw37
          have HRT_39 := Lib.hid (Rd.mono HRT_36.out hbw37)
          clear HRT_36
          clear k0_0 k0_1 k0_2 k1_0 k1_1 k2_0 k2_1 k3_0 k3_1
          have k0_0 := hs38.cellAt 0 rfl 0 rfl
          have k0_1 := hs38.cellAt 0 rfl 1 rfl
          have k0_2 := hs38.cellAt 0 rfl 2 rfl
          have k1_0 := hs38.cellAt 1 rfl 0 rfl
          have k1_1 := hs38.cellAt 1 rfl 1 rfl
          have k2_0 := hs38.cellAt 2 rfl 0 rfl
          have k2_1 := hs38.cellAt 2 rfl 1 rfl
          have k3_0 := hs38.cellAt 3 rfl 0 rfl
          have k3_1 := hs38.cellAt 3 rfl 1 rfl
          have FR := Lib.hid (fresh_snd (α := List Int) (β := List Int) rfl fr)
          obtain ⟨a8, c8, rfl, _⟩ := rd_list FR.out.rd
          obtain ⟨a9, c9, rfl, _⟩ := rd_list (rd_cons rfl fr.rd).1
          clear fr
          have hfd : ∀ w : World, (Instr.field 53 (.agg #[.slice a9 (timesR p (p - 1) (flat T)).1.length c9, .slice a8 (timesR p (p - 1) (flat T)).2.length c8]) 1).run Try.prog w = .ok (.slice a8 (timesR p (p - 1) (flat T)).2.length c8) w := fun _ => row_by _ _ _ _ _ _ _
          go_wp2_with fail
          refine bodyPost_ret (v := .tuple #[.slice a8 (timesR p (p - 1) (flat T)).2.length c8, .int .i64 0]) (by simp [results, Try.results9, go_sem]) rfl ⟨.slice a8 (timesR p (p - 1) (flat T)).2.length c8, ?_, ?_, hs38.bel⟩
          · rw [H2.out, H6.out]
          · rw [H2.out, H6.out]
            have h9 := FR.out
            rw [← HT3.out] at h9 ⊢
            exact h9.lower (by omega)

end Go.Proofs.Ytpejlnofaijmaaa
