/-
  THE LAW FnExactReplayArcs, WALKED. (Printed by wip/genlawm.py.)
-/
import Derived.Test.YtjkjfjpajmjglaaGreatKinds
import Derived.Test.YtjkjfjpajmjglaaGreatMarkT
import Derived.Test.YtjkjfjpajmjglaaGreatMarkS
import Derived.Test.YtjkjfjpajmjglaaGreatReplayS
namespace Go.Proofs.YtjkjfjpajmjglaaGreat
open Go.RowKit Go.Shelf
open Rep (Rd Own sz)
set_option linter.unusedSimpArgs false
set_option linter.unusedVariables false

theorem cost_lens {l : List (List Int)} (h : cost_Int64SS l ≤ 1048576) : ∀ d, d ∈ l → d.length ≤ 1048576 := fun d hd => by
  obtain ⟨j, hj, rfl⟩ := List.getElem_of_mem hd
  have := cL_mem List.length l j hj
  unfold cost_Int64SS at h
  omega

set_option maxRecDepth 100000 in
set_option maxHeartbeats 8000000 in
theorem FnExactReplayArcs_c (x0 : Tmpl) (v00 v01 : Value) (x1 : Inst) (v10 v11 : Value) (x2 : List (List Int)) (v20 : Value) (x3 : List ((Int × Int × Int))) (v30 : Value) (w : World) (h0 : Rd w [v00, v01] x0) (h1 : Rd w [v10, v11] x1) (h2 : Rd w [v20] x2) (h3 : Rd w [v30] x3) :
    Calls Tryz.prog 7 #[.agg #[v00, v01], .agg #[v10, v11], v20, v30] w fun e w' => e = .returned (.bool true) ∧ Below w.heap.size w w' := by
  have hsm : mc_Int64SS (replayF x0 x1 x2 x3).1 ≤ 1000000 := replayF_small x0 x1 x2 x3
  have cS := fun a00 a01 a10 a11 a20 a30 W h0 h1 h2 h3 z zs => sReplayArcs_c x0 a00 a01 x1 a10 a11 x2 a20 x3 a30 W h0 h1 h2 h3 z zs
  have cI := fun a00 a01 a10 a11 a20 a30 W h0 h1 h2 h3 z zs => ReplayArcs_c x0 a00 a01 x1 a10 a11 x2 a20 x3 a30 W h0 h1 h2 h3 z zs
  generalize replayF x0 x1 x2 x3 = R at cS cI hsm
  obtain ⟨r0, idx, code⟩ := R
  have CS := Lib.hid cS
  have CI := Lib.hid cI
  clear cS cI
  obtain ⟨x00, x01⟩ := x0
  have z00 := rd_cons rfl h0
  obtain ⟨rfl, _⟩ := rd_i1 z00.1
  obtain ⟨a01, c01, rfl, _⟩ := rd_list z00.2
  clear z00
  have H0 := Lib.hid h0
  clear h0
  obtain ⟨x10, x11⟩ := x1
  have z10 := rd_cons rfl h1
  obtain ⟨rfl, _⟩ := rd_i1 z10.1
  obtain ⟨a11, c11, rfl, _⟩ := rd_list z10.2
  clear z10
  have H1 := Lib.hid h1
  clear h1
  obtain ⟨a2, c2, rfl, _⟩ := rd_list h2
  have H2 := Lib.hid h2
  clear h2
  obtain ⟨a3, c3, rfl, _⟩ := rd_list h3
  have H3 := Lib.hid h3
  clear h3
  have hs := ((St.start w).alloc #[.int .i64 x00, .slice a01 x01.length c01] 24 rfl).alloc #[.int .i64 x10, .slice a11 x11.length c11] 27 (n := w.heap.size + 1) (by simp)
  go_enter Tryz.func7, Tryz.ntmps7
  go_wp2_with fail
  refine (szTemplate_b (x00, x01) _ _ (1048576) _ (Rd.mono H0.out hs.bel) (by omega) (by omega)).mono ?_
  rintro e w1 ⟨rfl, hb1⟩
  have hss := hs.step hb1
  have hz1 : w.heap.size + 2 ≤ w1.heap.size := by simpa using hb1.size
  rcases less_cases (1048576) (cost_Template (x00, x01)) with ⟨e1, g0⟩ | ⟨e1, g0⟩
  · rw [e1]
    clear e1
    go_wp2_with fail
    go_ret
    exact ⟨rfl, hss.bel⟩
  rw [e1]
  clear e1
  have qa00 := hss.cellAt 0 rfl 0 rfl
  have qa01 := hss.cellAt 0 rfl 1 rfl
  have qa10 := hss.cellAt 1 rfl 0 rfl
  have qa11 := hss.cellAt 1 rfl 1 rfl
  go_wp2_with fail
  refine (szInstance_b (x10, x11) _ _ (1048576 - (cost_Template (x00, x01))) _ (Rd.mono H1.out hss.bel) (by omega) (by omega)).mono ?_
  rintro e w2 ⟨rfl, hb2⟩
  have hsss := hss.step hb2
  have hz2 : w1.heap.size ≤ w2.heap.size := by simpa using hb2.size
  rcases less_cases (1048576 - (cost_Template (x00, x01))) (cost_Instance (x10, x11)) with ⟨e1, g1⟩ | ⟨e1, g1⟩
  · rw [e1]
    clear e1
    go_wp2_with fail
    go_ret
    exact ⟨rfl, hsss.bel⟩
  rw [e1]
  clear e1
  clear qa00 qa01 qa10 qa11
  have qa00 := hsss.cellAt 0 rfl 0 rfl
  have qa01 := hsss.cellAt 0 rfl 1 rfl
  have qa10 := hsss.cellAt 1 rfl 0 rfl
  have qa11 := hsss.cellAt 1 rfl 1 rfl
  go_wp2_with fail
  refine (szInt64SS_b x2 _ (1048576 - (cost_Template (x00, x01)) - (cost_Instance (x10, x11))) _ (Rd.mono H2.out hsss.bel) (by omega) (by omega)).mono ?_
  rintro e w3 ⟨rfl, hb3⟩
  have hssss := hsss.step hb3
  have hz3 : w2.heap.size ≤ w3.heap.size := by simpa using hb3.size
  rcases less_cases (1048576 - (cost_Template (x00, x01)) - (cost_Instance (x10, x11))) (cost_Int64SS x2) with ⟨e1, g2⟩ | ⟨e1, g2⟩
  · rw [e1]
    clear e1
    go_wp2_with fail
    go_ret
    exact ⟨rfl, hssss.bel⟩
  rw [e1]
  clear e1
  clear qa00 qa01 qa10 qa11
  have qa00 := hssss.cellAt 0 rfl 0 rfl
  have qa01 := hssss.cellAt 0 rfl 1 rfl
  have qa10 := hssss.cellAt 1 rfl 0 rfl
  have qa11 := hssss.cellAt 1 rfl 1 rfl
  go_wp2_with fail
  refine (szArcStepS_b x3 _ (1048576 - (cost_Template (x00, x01)) - (cost_Instance (x10, x11)) - (cost_Int64SS x2)) _ (Rd.mono H3.out hssss.bel) (by omega) (by omega)).mono ?_
  rintro e w4 ⟨rfl, hb4⟩
  have hsssss := hssss.step hb4
  have hz4 : w3.heap.size ≤ w4.heap.size := by simpa using hb4.size
  rcases less_cases (1048576 - (cost_Template (x00, x01)) - (cost_Instance (x10, x11)) - (cost_Int64SS x2)) (cost_ArcStepS x3) with ⟨e1, g3⟩ | ⟨e1, g3⟩
  · rw [e1]
    clear e1
    go_wp2_with fail
    go_ret
    exact ⟨rfl, hsssss.bel⟩
  rw [e1]
  clear e1
  clear qa00 qa01 qa10 qa11
  have qa00 := hsssss.cellAt 0 rfl 0 rfl
  have qa01 := hsssss.cellAt 0 rfl 1 rfl
  have qa10 := hsssss.cellAt 1 rfl 0 rfl
  have qa11 := hsssss.cellAt 1 rfl 1 rfl
  have gc0 : cost_Template (x00, x01) ≤ 1048576 := by omega
  have gc1 : cost_Instance (x10, x11) ≤ 1048576 := by omega
  have gc2 : cost_Int64SS x2 ≤ 1048576 := by omega
  have gc3 : cost_ArcStepS x3 ≤ 1048576 := by omega
  go_wp2_with fail
  refine wp_region_noPanic (wp_region_el (fun w' => w'.cell? ⟨w.heap.size, 0, none⟩ = some (.int .i64 x00) ∧ w'.cell? ⟨w.heap.size, 1, none⟩ = some (.slice a01 x01.length c01) ∧ w'.cell? ⟨w.heap.size + 1, 0, none⟩ = some (.int .i64 x10) ∧ w'.cell? ⟨w.heap.size + 1, 1, none⟩ = some (.slice a11 x11.length c11)) [(0, 0), (2, 0), (4, 0), (6, 0), (1, 1), (3, 1), (5, 1), (7, 1), (8, 1), (9, 0), (10, 0), (11, 0), (12, 0), (13, 0), (14, 0), (15, 0)] (by kernel_rfl) (by kernel_rfl) (by kernel_rfl) rfl ?_ (fun _ _ _ _ _ h => h) ?_)
  · exact ⟨(hsssss.drew).cellAt 0 rfl 0 rfl, (hsssss.drew).cellAt 0 rfl 1 rfl, (hsssss.drew).cellAt 1 rfl 0 rfl, (hsssss.drew).cellAt 1 rfl 1 rfl⟩
  have hsssssd := hsssss.drew
  (repeat (first | (apply el_skip rfl (by rfl); try simp only [Act.put, List.setIfInBounds_toArray, List.set_cons_zero, List.set_cons_succ]) | (apply el_float rfl (by rfl); (· (intro w' hS; go_simp <;> with_reducible rfl)); (try simp only [Act.put, List.setIfInBounds_toArray, List.set_cons_zero, List.set_cons_succ]))))
  refine el_hard rfl (by rfl) (fun K hK => ?_)
  go_wp2_with (go_at_call 14; refine (toTemplate_b (x00, x01) _ _ _ (Rd.mono H0.out hsssssd.bel) gc0).mono ?_; rintro e w5 ⟨us00, us01, rfl, frs0, hb5⟩)
  have hsssssds := hsssssd.step hb5
  have hz5 : w4.heap.size ≤ w5.heap.size := by simpa using hb5.size
  have Js0 := Lib.hid (Fresh.iv frs0)
  have zs00 := rd_cons rfl (Iv.rd Js0.out)
  obtain ⟨rfl, _⟩ := rd_i1 zs00.1
  obtain ⟨as01, cs01, rfl, _⟩ := rd_list zs00.2
  clear zs00
  clear frs0
  refine ⟨⟨hsssssds.cellAt 0 rfl 0 rfl, hsssssds.cellAt 0 rfl 1 rfl, hsssssds.cellAt 1 rfl 0 rfl, hsssssds.cellAt 1 rfl 1 rfl⟩, ?_⟩
  (repeat (first | (apply el_skip rfl (by rfl); try simp only [Act.put, List.setIfInBounds_toArray, List.set_cons_zero, List.set_cons_succ]) | (apply el_float rfl (by rfl); (· (intro w' hS; go_simp <;> with_reducible rfl)); (try simp only [Act.put, List.setIfInBounds_toArray, List.set_cons_zero, List.set_cons_succ]))))
  refine el_hard rfl (by rfl) (fun K hK => ?_)
  go_wp2_with (go_at_call 15; refine (toInstance_b (x10, x11) _ _ _ (Rd.mono H1.out hsssssds.bel) gc1).mono ?_; rintro e w6 ⟨us10, us11, rfl, frs1, hb6⟩)
  have Js0' := Lib.hid (Iv.mono Js0.out hb6)
  clear Js0
  have hsssssdss := hsssssds.step hb6
  have hz6 : w5.heap.size ≤ w6.heap.size := by simpa using hb6.size
  have Js1 := Lib.hid (Fresh.iv frs1)
  have zs10 := rd_cons rfl (Iv.rd Js1.out)
  obtain ⟨rfl, _⟩ := rd_i1 zs10.1
  obtain ⟨as11, cs11, rfl, _⟩ := rd_list zs10.2
  clear zs10
  clear frs1
  refine ⟨⟨hsssssdss.cellAt 0 rfl 0 rfl, hsssssdss.cellAt 0 rfl 1 rfl, hsssssdss.cellAt 1 rfl 0 rfl, hsssssdss.cellAt 1 rfl 1 rfl⟩, ?_⟩
  (repeat (first | (apply el_skip rfl (by rfl); try simp only [Act.put, List.setIfInBounds_toArray, List.set_cons_zero, List.set_cons_succ]) | (apply el_float rfl (by rfl); (· (intro w' hS; go_simp <;> with_reducible rfl)); (try simp only [Act.put, List.setIfInBounds_toArray, List.set_cons_zero, List.set_cons_succ]))))
  refine el_hard rfl (by rfl) (fun K hK => ?_)
  go_wp2_with (go_at_call 37; refine (toInt64SS_b x2 _ _ (Rd.mono H2.out hsssssdss.bel) gc2).mono ?_; rintro e w7 ⟨us20, rfl, frs2, hb7⟩)
  have Js0'' := Lib.hid (Iv.mono Js0'.out hb7)
  clear Js0'
  have Js1' := Lib.hid (Iv.mono Js1.out hb7)
  clear Js1
  have hsssssdsss := hsssssdss.step hb7
  have hz7 : w6.heap.size ≤ w7.heap.size := by simpa using hb7.size
  have Js2 := Lib.hid (Fresh.iv frs2)
  obtain ⟨as2, cs2, rfl, _⟩ := rd_list (Iv.rd Js2.out)
  clear frs2
  refine ⟨⟨hsssssdsss.cellAt 0 rfl 0 rfl, hsssssdsss.cellAt 0 rfl 1 rfl, hsssssdsss.cellAt 1 rfl 0 rfl, hsssssdsss.cellAt 1 rfl 1 rfl⟩, ?_⟩
  (repeat (first | (apply el_skip rfl (by rfl); try simp only [Act.put, List.setIfInBounds_toArray, List.set_cons_zero, List.set_cons_succ]) | (apply el_float rfl (by rfl); (· (intro w' hS; go_simp <;> with_reducible rfl)); (try simp only [Act.put, List.setIfInBounds_toArray, List.set_cons_zero, List.set_cons_succ]))))
  refine el_hard rfl (by rfl) (fun K hK => ?_)
  go_wp2_with (go_at_call 42; refine (toArcStepS_b x3 _ _ (Rd.mono H3.out hsssssdsss.bel) gc3).mono ?_; rintro e w8 ⟨us30, rfl, frs3, hb8⟩)
  have Js0''' := Lib.hid (Iv.mono Js0''.out hb8)
  clear Js0''
  have Js1'' := Lib.hid (Iv.mono Js1'.out hb8)
  clear Js1'
  have Js2' := Lib.hid (Iv.mono Js2.out hb8)
  clear Js2
  have hsssssdssss := hsssssdsss.step hb8
  have hz8 : w7.heap.size ≤ w8.heap.size := by simpa using hb8.size
  have Js3 := Lib.hid (Fresh.iv frs3)
  obtain ⟨as3, cs3, rfl, _⟩ := rd_list (Iv.rd Js3.out)
  clear frs3
  refine ⟨⟨hsssssdssss.cellAt 0 rfl 0 rfl, hsssssdssss.cellAt 0 rfl 1 rfl, hsssssdssss.cellAt 1 rfl 0 rfl, hsssssdssss.cellAt 1 rfl 1 rfl⟩, ?_⟩
  (repeat (first | (apply el_skip rfl (by rfl); try simp only [Act.put, List.setIfInBounds_toArray, List.set_cons_zero, List.set_cons_succ]) | (apply el_float rfl (by rfl); (· (intro w' hS; go_simp <;> with_reducible rfl)); (try simp only [Act.put, List.setIfInBounds_toArray, List.set_cons_zero, List.set_cons_succ]))))
  refine el_hard rfl (by rfl) (fun K hK => ?_)
  go_wp2_with (go_at_call 41; refine (CS.out _ _ _ _ _ _ _ (Iv.rd Js0'''.out) (Iv.rd Js1''.out) (Iv.rd Js2'.out) (Iv.rd Js3.out) (cost_lens gc2) (by unfold cost_ArcStepS at gc3; omega)).mono ?_; rintro e w9 ⟨uW0, rfl, frW, hb9⟩)
  have Js0'''' := Lib.hid (Iv.mono Js0'''.out hb9)
  clear Js0'''
  have Js1''' := Lib.hid (Iv.mono Js1''.out hb9)
  clear Js1''
  have Js2'' := Lib.hid (Iv.mono Js2'.out hb9)
  clear Js2'
  have Js3' := Lib.hid (Iv.mono Js3.out hb9)
  clear Js3
  have hsssssdsssss := hsssssdssss.step hb9
  have hz9 : w8.heap.size ≤ w9.heap.size := by simpa using hb9.size
  have JW := Lib.hid (Fresh.iv frW)
  obtain ⟨aW, cW, rfl, _⟩ := rd_list (Iv.rd JW.out)
  clear frW
  clear Js0''''
  clear Js1'''
  clear Js2''
  clear Js3'
  refine ⟨⟨hsssssdsssss.cellAt 0 rfl 0 rfl, hsssssdsssss.cellAt 0 rfl 1 rfl, hsssssdsssss.cellAt 1 rfl 0 rfl, hsssssdsssss.cellAt 1 rfl 1 rfl⟩, ?_⟩
  (repeat (first | (apply el_skip rfl (by rfl); try simp only [Act.put, List.setIfInBounds_toArray, List.set_cons_zero, List.set_cons_succ]) | (apply el_float rfl (by rfl); (· (intro w' hS; go_simp <;> with_reducible rfl)); (try simp only [Act.put, List.setIfInBounds_toArray, List.set_cons_zero, List.set_cons_succ]))))
  refine el_nil (NoPanic.normal ?_)
  clear qa00 qa01 qa10 qa11
  have qa00 := hsssssdsssss.cellAt 0 rfl 0 rfl
  have qa01 := hsssssdsssss.cellAt 0 rfl 1 rfl
  have qa10 := hsssssdsssss.cellAt 1 rfl 0 rfl
  have qa11 := hsssssdsssss.cellAt 1 rfl 1 rfl
  go_wp2_with fail
  refine (toTemplate_b (x00, x01) _ _ _ (Rd.mono H0.out hsssssdsssss.bel) gc0).mono ?_
  rintro e w10 ⟨ux00, ux01, rfl, frx0, hb10⟩
  have JW' := Lib.hid (Iv.mono JW.out hb10)
  clear JW
  have hsssssdssssss := hsssssdsssss.step hb10
  have hz10 : w9.heap.size ≤ w10.heap.size := by simpa using hb10.size
  have Jx0 := Lib.hid (Fresh.iv frx0)
  have zx00 := rd_cons rfl (Iv.rd Jx0.out)
  obtain ⟨rfl, _⟩ := rd_i1 zx00.1
  obtain ⟨ax01, cx01, rfl, _⟩ := rd_list zx00.2
  clear zx00
  clear frx0
  clear qa00 qa01 qa10 qa11
  have qa00 := hsssssdssssss.cellAt 0 rfl 0 rfl
  have qa01 := hsssssdssssss.cellAt 0 rfl 1 rfl
  have qa10 := hsssssdssssss.cellAt 1 rfl 0 rfl
  have qa11 := hsssssdssssss.cellAt 1 rfl 1 rfl
  have hsssssdssssssa := hsssssdssssss.alloc #[.int .i64 x00, .slice ax01 x01.length cx01] 36 rfl
  have JW'' := Lib.hid (Iv.mono JW'.out (belowA _ (.cells #[.int .i64 x00, .slice ax01 x01.length cx01] 36)))
  clear JW'
  have Jx0' := Lib.hid (Iv.mono Jx0.out (belowA _ (.cells #[.int .i64 x00, .slice ax01 x01.length cx01] 36)))
  clear Jx0
  clear qa00 qa01 qa10 qa11
  have qa00 := hsssssdssssssa.cellAt 0 rfl 0 rfl
  have qa01 := hsssssdssssssa.cellAt 0 rfl 1 rfl
  have qa10 := hsssssdssssssa.cellAt 1 rfl 0 rfl
  have qa11 := hsssssdssssssa.cellAt 1 rfl 1 rfl
  have qx00 := hsssssdssssssa.cellAt 2 rfl 0 rfl
  have qx01 := hsssssdssssssa.cellAt 2 rfl 1 rfl
  go_wp2_with fail
  refine (toInstance_b (x10, x11) _ _ _ (Rd.mono H1.out hsssssdssssssa.bel) gc1).mono ?_
  rintro e w11 ⟨ux10, ux11, rfl, frx1, hb11⟩
  have JW''' := Lib.hid (Iv.mono JW''.out hb11)
  clear JW''
  have Jx0'' := Lib.hid (Iv.mono Jx0'.out hb11)
  clear Jx0'
  have hsssssdssssssas := hsssssdssssssa.step hb11
  have hz11 : w10.heap.size + 1 ≤ w11.heap.size := by simpa using hb11.size
  have Jx1 := Lib.hid (Fresh.iv frx1)
  have zx10 := rd_cons rfl (Iv.rd Jx1.out)
  obtain ⟨rfl, _⟩ := rd_i1 zx10.1
  obtain ⟨ax11, cx11, rfl, _⟩ := rd_list zx10.2
  clear zx10
  clear frx1
  clear qa00 qa01 qa10 qa11 qx00 qx01
  have qa00 := hsssssdssssssas.cellAt 0 rfl 0 rfl
  have qa01 := hsssssdssssssas.cellAt 0 rfl 1 rfl
  have qa10 := hsssssdssssssas.cellAt 1 rfl 0 rfl
  have qa11 := hsssssdssssssas.cellAt 1 rfl 1 rfl
  have qx00 := hsssssdssssssas.cellAt 2 rfl 0 rfl
  have qx01 := hsssssdssssssas.cellAt 2 rfl 1 rfl
  have hsssssdssssssasa := hsssssdssssssas.alloc #[.int .i64 x10, .slice ax11 x11.length cx11] 40 rfl
  have JW'''' := Lib.hid (Iv.mono JW'''.out (belowA _ (.cells #[.int .i64 x10, .slice ax11 x11.length cx11] 40)))
  clear JW'''
  have Jx0''' := Lib.hid (Iv.mono Jx0''.out (belowA _ (.cells #[.int .i64 x10, .slice ax11 x11.length cx11] 40)))
  clear Jx0''
  have Jx1' := Lib.hid (Iv.mono Jx1.out (belowA _ (.cells #[.int .i64 x10, .slice ax11 x11.length cx11] 40)))
  clear Jx1
  clear qa00 qa01 qa10 qa11 qx00 qx01
  have qa00 := hsssssdssssssasa.cellAt 0 rfl 0 rfl
  have qa01 := hsssssdssssssasa.cellAt 0 rfl 1 rfl
  have qa10 := hsssssdssssssasa.cellAt 1 rfl 0 rfl
  have qa11 := hsssssdssssssasa.cellAt 1 rfl 1 rfl
  have qx00 := hsssssdssssssasa.cellAt 2 rfl 0 rfl
  have qx01 := hsssssdssssssasa.cellAt 2 rfl 1 rfl
  have qx10 := hsssssdssssssasa.cellAt 3 rfl 0 rfl
  have qx11 := hsssssdssssssasa.cellAt 3 rfl 1 rfl
  go_wp2_with fail
  refine (toInt64SS_b x2 _ _ (Rd.mono H2.out hsssssdssssssasa.bel) gc2).mono ?_
  rintro e w12 ⟨ux20, rfl, frx2, hb12⟩
  have JW''''' := Lib.hid (Iv.mono JW''''.out hb12)
  clear JW''''
  have Jx0'''' := Lib.hid (Iv.mono Jx0'''.out hb12)
  clear Jx0'''
  have Jx1'' := Lib.hid (Iv.mono Jx1'.out hb12)
  clear Jx1'
  have hsssssdssssssasas := hsssssdssssssasa.step hb12
  have hz12 : w11.heap.size + 1 ≤ w12.heap.size := by simpa using hb12.size
  have Jx2 := Lib.hid (Fresh.iv frx2)
  obtain ⟨ax2, cx2, rfl, _⟩ := rd_list (Iv.rd Jx2.out)
  clear frx2
  clear qa00 qa01 qa10 qa11 qx00 qx01 qx10 qx11
  have qa00 := hsssssdssssssasas.cellAt 0 rfl 0 rfl
  have qa01 := hsssssdssssssasas.cellAt 0 rfl 1 rfl
  have qa10 := hsssssdssssssasas.cellAt 1 rfl 0 rfl
  have qa11 := hsssssdssssssasas.cellAt 1 rfl 1 rfl
  have qx00 := hsssssdssssssasas.cellAt 2 rfl 0 rfl
  have qx01 := hsssssdssssssasas.cellAt 2 rfl 1 rfl
  have qx10 := hsssssdssssssasas.cellAt 3 rfl 0 rfl
  have qx11 := hsssssdssssssasas.cellAt 3 rfl 1 rfl
  go_wp2_with fail
  refine (toArcStepS_b x3 _ _ (Rd.mono H3.out hsssssdssssssasas.bel) gc3).mono ?_
  rintro e w13 ⟨ux30, rfl, frx3, hb13⟩
  have JW'''''' := Lib.hid (Iv.mono JW'''''.out hb13)
  clear JW'''''
  have Jx0''''' := Lib.hid (Iv.mono Jx0''''.out hb13)
  clear Jx0''''
  have Jx1''' := Lib.hid (Iv.mono Jx1''.out hb13)
  clear Jx1''
  have Jx2' := Lib.hid (Iv.mono Jx2.out hb13)
  clear Jx2
  have hsssssdssssssasass := hsssssdssssssasas.step hb13
  have hz13 : w12.heap.size ≤ w13.heap.size := by simpa using hb13.size
  have Jx3 := Lib.hid (Fresh.iv frx3)
  obtain ⟨ax3, cx3, rfl, _⟩ := rd_list (Iv.rd Jx3.out)
  clear frx3
  clear qa00 qa01 qa10 qa11 qx00 qx01 qx10 qx11
  have qa00 := hsssssdssssssasass.cellAt 0 rfl 0 rfl
  have qa01 := hsssssdssssssasass.cellAt 0 rfl 1 rfl
  have qa10 := hsssssdssssssasass.cellAt 1 rfl 0 rfl
  have qa11 := hsssssdssssssasass.cellAt 1 rfl 1 rfl
  have qx00 := hsssssdssssssasass.cellAt 2 rfl 0 rfl
  have qx01 := hsssssdssssssasass.cellAt 2 rfl 1 rfl
  have qx10 := hsssssdssssssasass.cellAt 3 rfl 0 rfl
  have qx11 := hsssssdssssssasass.cellAt 3 rfl 1 rfl
  go_wp2_with fail
  refine (CI.out _ _ _ _ _ _ _ (Iv.rd Jx0'''''.out) (Iv.rd Jx1'''.out) (Iv.rd Jx2'.out) (Iv.rd Jx3.out) (cost_lens gc2) (by unfold cost_ArcStepS at gc3; omega)).mono ?_
  rintro e w14 ⟨uG0, rfl, frG, hb14⟩
  have JW''''''' := Lib.hid (Iv.mono JW''''''.out hb14)
  clear JW''''''
  have Jx0'''''' := Lib.hid (Iv.mono Jx0'''''.out hb14)
  clear Jx0'''''
  have Jx1'''' := Lib.hid (Iv.mono Jx1'''.out hb14)
  clear Jx1'''
  have Jx2'' := Lib.hid (Iv.mono Jx2'.out hb14)
  clear Jx2'
  have Jx3' := Lib.hid (Iv.mono Jx3.out hb14)
  clear Jx3
  have hsssssdssssssasasss := hsssssdssssssasass.step hb14
  have hz14 : w13.heap.size ≤ w14.heap.size := by simpa using hb14.size
  have JG := Lib.hid (Fresh.iv frG)
  obtain ⟨aG, cG, rfl, _⟩ := rd_list (Iv.rd JG.out)
  clear frG
  clear qa00 qa01 qa10 qa11 qx00 qx01 qx10 qx11
  have qa00 := hsssssdssssssasasss.cellAt 0 rfl 0 rfl
  have qa01 := hsssssdssssssasasss.cellAt 0 rfl 1 rfl
  have qa10 := hsssssdssssssasasss.cellAt 1 rfl 0 rfl
  have qa11 := hsssssdssssssasasss.cellAt 1 rfl 1 rfl
  have qx00 := hsssssdssssssasasss.cellAt 2 rfl 0 rfl
  have qx01 := hsssssdssssssasasss.cellAt 2 rfl 1 rfl
  have qx10 := hsssssdssssssasasss.cellAt 3 rfl 0 rfl
  have qx11 := hsssssdssssssasasss.cellAt 3 rfl 1 rfl
  go_wp2_with fail
  refine (eqInt64SS_s r0 _ _ _ (Iv.rd JG.out) (Iv.rd JW'''''''.out)).mono ?_
  rintro e w15 ⟨rfl, hb15⟩
  have JW'''''''' := Lib.hid (Iv.mono JW'''''''.out hb15)
  clear JW'''''''
  have Jx0''''''' := Lib.hid (Iv.mono Jx0''''''.out hb15)
  clear Jx0''''''
  have Jx1''''' := Lib.hid (Iv.mono Jx1''''.out hb15)
  clear Jx1''''
  have Jx2''' := Lib.hid (Iv.mono Jx2''.out hb15)
  clear Jx2''
  have Jx3'' := Lib.hid (Iv.mono Jx3'.out hb15)
  clear Jx3'
  have JG' := Lib.hid (Iv.mono JG.out hb15)
  clear JG
  have hsssssdssssssasassss := hsssssdssssssasasss.step hb15
  have hz15 : w14.heap.size ≤ w15.heap.size := by simpa using hb15.size
  clear qa00 qa01 qa10 qa11 qx00 qx01 qx10 qx11
  have qa00 := hsssssdssssssasassss.cellAt 0 rfl 0 rfl
  have qa01 := hsssssdssssssasassss.cellAt 0 rfl 1 rfl
  have qa10 := hsssssdssssssasassss.cellAt 1 rfl 0 rfl
  have qa11 := hsssssdssssssasassss.cellAt 1 rfl 1 rfl
  have qx00 := hsssssdssssssasassss.cellAt 2 rfl 0 rfl
  have qx01 := hsssssdssssssasassss.cellAt 2 rfl 1 rfl
  have qx10 := hsssssdssssssasassss.cellAt 3 rfl 0 rfl
  have qx11 := hsssssdssssssasassss.cellAt 3 rfl 1 rfl
  have hcode : (code != code) = false := by simp
  have hidx : (idx != idx) = false := by simp
  go_wp2_with fail
  refine wp_region_noPanic (wp_region_el (fun w' => w'.cell? ⟨w.heap.size, 0, none⟩ = some (.int .i64 x00) ∧ w'.cell? ⟨w.heap.size, 1, none⟩ = some (.slice a01 x01.length c01) ∧ w'.cell? ⟨w.heap.size + 1, 0, none⟩ = some (.int .i64 x10) ∧ w'.cell? ⟨w.heap.size + 1, 1, none⟩ = some (.slice a11 x11.length c11) ∧ w'.cell? ⟨w10.heap.size, 0, none⟩ = some (.int .i64 x00) ∧ w'.cell? ⟨w10.heap.size, 1, none⟩ = some (.slice ax01 x01.length cx01) ∧ w'.cell? ⟨w11.heap.size, 0, none⟩ = some (.int .i64 x10) ∧ w'.cell? ⟨w11.heap.size, 1, none⟩ = some (.slice ax11 x11.length cx11)) [(0, 0), (1, 0), (2, 1), (3, 1), (4, 0)] (by kernel_rfl) (by kernel_rfl) (by kernel_rfl) rfl ?_ (fun _ _ _ _ _ h => h) ?_)
  · exact ⟨(hsssssdssssssasassss.drew).cellAt 0 rfl 0 rfl, (hsssssdssssssasassss.drew).cellAt 0 rfl 1 rfl, (hsssssdssssssasassss.drew).cellAt 1 rfl 0 rfl, (hsssssdssssssasassss.drew).cellAt 1 rfl 1 rfl, (hsssssdssssssasassss.drew).cellAt 2 rfl 0 rfl, (hsssssdssssssasassss.drew).cellAt 2 rfl 1 rfl, (hsssssdssssssasassss.drew).cellAt 3 rfl 0 rfl, (hsssssdssssssasassss.drew).cellAt 3 rfl 1 rfl⟩
  have JW''''''''' := Lib.hid (Iv.mono JW''''''''.out (belowD _))
  clear JW''''''''
  have Jx0'''''''' := Lib.hid (Iv.mono Jx0'''''''.out (belowD _))
  clear Jx0'''''''
  have Jx1'''''' := Lib.hid (Iv.mono Jx1'''''.out (belowD _))
  clear Jx1'''''
  have Jx2'''' := Lib.hid (Iv.mono Jx2'''.out (belowD _))
  clear Jx2'''
  have Jx3''' := Lib.hid (Iv.mono Jx3''.out (belowD _))
  clear Jx3''
  have JG'' := Lib.hid (Iv.mono JG'.out (belowD _))
  clear JG'
  have hsssssdssssssasassssd := hsssssdssssssasassss.drew
  (repeat (first | (apply el_skip rfl (by rfl); try simp only [Act.put, List.setIfInBounds_toArray, List.set_cons_zero, List.set_cons_succ]) | (apply el_float rfl (by rfl); (· (intro w' hS; go_simp <;> with_reducible rfl)); (try simp only [Act.put, List.setIfInBounds_toArray, List.set_cons_zero, List.set_cons_succ]))))
  refine el_hard rfl (by rfl) (fun K hK => ?_)
  go_wp2_with (go_at_call 14; refine (toTemplate_b (x00, x01) _ _ _ (Rd.mono H0.out hsssssdssssssasassssd.bel) gc0).mono ?_; rintro e w16 ⟨uy00, uy01, rfl, fry0, hb16⟩)
  have JW'''''''''' := Lib.hid (Iv.mono JW'''''''''.out hb16)
  clear JW'''''''''
  have Jx0''''''''' := Lib.hid (Iv.mono Jx0''''''''.out hb16)
  clear Jx0''''''''
  have Jx1''''''' := Lib.hid (Iv.mono Jx1''''''.out hb16)
  clear Jx1''''''
  have Jx2''''' := Lib.hid (Iv.mono Jx2''''.out hb16)
  clear Jx2''''
  have Jx3'''' := Lib.hid (Iv.mono Jx3'''.out hb16)
  clear Jx3'''
  have JG''' := Lib.hid (Iv.mono JG''.out hb16)
  clear JG''
  have hsssssdssssssasassssds := hsssssdssssssasassssd.step hb16
  have hz16 : w15.heap.size ≤ w16.heap.size := by simpa using hb16.size
  have Jy0 := Lib.hid (Fresh.iv fry0)
  have zy00 := rd_cons rfl (Iv.rd Jy0.out)
  obtain ⟨rfl, _⟩ := rd_i1 zy00.1
  obtain ⟨ay01, cy01, rfl, _⟩ := rd_list zy00.2
  clear zy00
  clear fry0
  refine ⟨⟨hsssssdssssssasassssds.cellAt 0 rfl 0 rfl, hsssssdssssssasassssds.cellAt 0 rfl 1 rfl, hsssssdssssssasassssds.cellAt 1 rfl 0 rfl, hsssssdssssssasassssds.cellAt 1 rfl 1 rfl, hsssssdssssssasassssds.cellAt 2 rfl 0 rfl, hsssssdssssssasassssds.cellAt 2 rfl 1 rfl, hsssssdssssssasassssds.cellAt 3 rfl 0 rfl, hsssssdssssssasassssds.cellAt 3 rfl 1 rfl⟩, ?_⟩
  (repeat (first | (apply el_skip rfl (by rfl); try simp only [Act.put, List.setIfInBounds_toArray, List.set_cons_zero, List.set_cons_succ]) | (apply el_float rfl (by rfl); (· (intro w' hS; go_simp <;> with_reducible rfl)); (try simp only [Act.put, List.setIfInBounds_toArray, List.set_cons_zero, List.set_cons_succ]))))
  refine el_hard rfl (by rfl) (fun K hK => ?_)
  go_wp2_with (go_at_call 19; refine (eqTemplate_s (x00, x01) _ _ _ _ _ (Iv.rd Jx0'''''''''.out) (Iv.rd Jy0.out)).mono ?_; rintro e w17 ⟨rfl, hb17⟩)
  clear Jy0
  have JW''''''''''' := Lib.hid (Iv.mono JW''''''''''.out hb17)
  clear JW''''''''''
  have Jx0'''''''''' := Lib.hid (Iv.mono Jx0'''''''''.out hb17)
  clear Jx0'''''''''
  have Jx1'''''''' := Lib.hid (Iv.mono Jx1'''''''.out hb17)
  clear Jx1'''''''
  have Jx2'''''' := Lib.hid (Iv.mono Jx2'''''.out hb17)
  clear Jx2'''''
  have Jx3''''' := Lib.hid (Iv.mono Jx3''''.out hb17)
  clear Jx3''''
  have JG'''' := Lib.hid (Iv.mono JG'''.out hb17)
  clear JG'''
  have hsssssdssssssasassssdss := hsssssdssssssasassssds.step hb17
  have hz17 : w16.heap.size ≤ w17.heap.size := by simpa using hb17.size
  refine ⟨⟨hsssssdssssssasassssdss.cellAt 0 rfl 0 rfl, hsssssdssssssasassssdss.cellAt 0 rfl 1 rfl, hsssssdssssssasassssdss.cellAt 1 rfl 0 rfl, hsssssdssssssasassssdss.cellAt 1 rfl 1 rfl, hsssssdssssssasassssdss.cellAt 2 rfl 0 rfl, hsssssdssssssasassssdss.cellAt 2 rfl 1 rfl, hsssssdssssssasassssdss.cellAt 3 rfl 0 rfl, hsssssdssssssasassssdss.cellAt 3 rfl 1 rfl⟩, ?_⟩
  (repeat (first | (apply el_skip rfl (by rfl); try simp only [Act.put, List.setIfInBounds_toArray, List.set_cons_zero, List.set_cons_succ]) | (apply el_float rfl (by rfl); (· (intro w' hS; go_simp <;> with_reducible rfl)); (try simp only [Act.put, List.setIfInBounds_toArray, List.set_cons_zero, List.set_cons_succ]))))
  refine el_nil (NoPanic.normal ?_)
  clear qa00 qa01 qa10 qa11 qx00 qx01 qx10 qx11
  have qa00 := hsssssdssssssasassssdss.cellAt 0 rfl 0 rfl
  have qa01 := hsssssdssssssasassssdss.cellAt 0 rfl 1 rfl
  have qa10 := hsssssdssssssasassssdss.cellAt 1 rfl 0 rfl
  have qa11 := hsssssdssssssasassssdss.cellAt 1 rfl 1 rfl
  have qx00 := hsssssdssssssasassssdss.cellAt 2 rfl 0 rfl
  have qx01 := hsssssdssssssasassssdss.cellAt 2 rfl 1 rfl
  have qx10 := hsssssdssssssasassssdss.cellAt 3 rfl 0 rfl
  have qx11 := hsssssdssssssasassssdss.cellAt 3 rfl 1 rfl
  go_wp2_with fail
  refine wp_region_noPanic (wp_region_el (fun w' => w'.cell? ⟨w.heap.size, 0, none⟩ = some (.int .i64 x00) ∧ w'.cell? ⟨w.heap.size, 1, none⟩ = some (.slice a01 x01.length c01) ∧ w'.cell? ⟨w.heap.size + 1, 0, none⟩ = some (.int .i64 x10) ∧ w'.cell? ⟨w.heap.size + 1, 1, none⟩ = some (.slice a11 x11.length c11) ∧ w'.cell? ⟨w10.heap.size, 0, none⟩ = some (.int .i64 x00) ∧ w'.cell? ⟨w10.heap.size, 1, none⟩ = some (.slice ax01 x01.length cx01) ∧ w'.cell? ⟨w11.heap.size, 0, none⟩ = some (.int .i64 x10) ∧ w'.cell? ⟨w11.heap.size, 1, none⟩ = some (.slice ax11 x11.length cx11)) [(0, 0), (1, 0), (2, 1), (3, 1), (4, 0)] (by kernel_rfl) (by kernel_rfl) (by kernel_rfl) rfl ?_ (fun _ _ _ _ _ h => h) ?_)
  · exact ⟨(hsssssdssssssasassssdss.drew).cellAt 0 rfl 0 rfl, (hsssssdssssssasassssdss.drew).cellAt 0 rfl 1 rfl, (hsssssdssssssasassssdss.drew).cellAt 1 rfl 0 rfl, (hsssssdssssssasassssdss.drew).cellAt 1 rfl 1 rfl, (hsssssdssssssasassssdss.drew).cellAt 2 rfl 0 rfl, (hsssssdssssssasassssdss.drew).cellAt 2 rfl 1 rfl, (hsssssdssssssasassssdss.drew).cellAt 3 rfl 0 rfl, (hsssssdssssssasassssdss.drew).cellAt 3 rfl 1 rfl⟩
  have JW'''''''''''' := Lib.hid (Iv.mono JW'''''''''''.out (belowD _))
  clear JW'''''''''''
  have Jx0''''''''''' := Lib.hid (Iv.mono Jx0''''''''''.out (belowD _))
  clear Jx0''''''''''
  have Jx1''''''''' := Lib.hid (Iv.mono Jx1''''''''.out (belowD _))
  clear Jx1''''''''
  have Jx2''''''' := Lib.hid (Iv.mono Jx2''''''.out (belowD _))
  clear Jx2''''''
  have Jx3'''''' := Lib.hid (Iv.mono Jx3'''''.out (belowD _))
  clear Jx3'''''
  have JG''''' := Lib.hid (Iv.mono JG''''.out (belowD _))
  clear JG''''
  have hsssssdssssssasassssdssd := hsssssdssssssasassssdss.drew
  (repeat (first | (apply el_skip rfl (by rfl); try simp only [Act.put, List.setIfInBounds_toArray, List.set_cons_zero, List.set_cons_succ]) | (apply el_float rfl (by rfl); (· (intro w' hS; go_simp <;> with_reducible rfl)); (try simp only [Act.put, List.setIfInBounds_toArray, List.set_cons_zero, List.set_cons_succ]))))
  refine el_hard rfl (by rfl) (fun K hK => ?_)
  go_wp2_with (go_at_call 15; refine (toInstance_b (x10, x11) _ _ _ (Rd.mono H1.out hsssssdssssssasassssdssd.bel) gc1).mono ?_; rintro e w18 ⟨uy10, uy11, rfl, fry1, hb18⟩)
  have JW''''''''''''' := Lib.hid (Iv.mono JW''''''''''''.out hb18)
  clear JW''''''''''''
  have Jx0'''''''''''' := Lib.hid (Iv.mono Jx0'''''''''''.out hb18)
  clear Jx0'''''''''''
  have Jx1'''''''''' := Lib.hid (Iv.mono Jx1'''''''''.out hb18)
  clear Jx1'''''''''
  have Jx2'''''''' := Lib.hid (Iv.mono Jx2'''''''.out hb18)
  clear Jx2'''''''
  have Jx3''''''' := Lib.hid (Iv.mono Jx3''''''.out hb18)
  clear Jx3''''''
  have JG'''''' := Lib.hid (Iv.mono JG'''''.out hb18)
  clear JG'''''
  have hsssssdssssssasassssdssds := hsssssdssssssasassssdssd.step hb18
  have hz18 : w17.heap.size ≤ w18.heap.size := by simpa using hb18.size
  have Jy1 := Lib.hid (Fresh.iv fry1)
  have zy10 := rd_cons rfl (Iv.rd Jy1.out)
  obtain ⟨rfl, _⟩ := rd_i1 zy10.1
  obtain ⟨ay11, cy11, rfl, _⟩ := rd_list zy10.2
  clear zy10
  clear fry1
  refine ⟨⟨hsssssdssssssasassssdssds.cellAt 0 rfl 0 rfl, hsssssdssssssasassssdssds.cellAt 0 rfl 1 rfl, hsssssdssssssasassssdssds.cellAt 1 rfl 0 rfl, hsssssdssssssasassssdssds.cellAt 1 rfl 1 rfl, hsssssdssssssasassssdssds.cellAt 2 rfl 0 rfl, hsssssdssssssasassssdssds.cellAt 2 rfl 1 rfl, hsssssdssssssasassssdssds.cellAt 3 rfl 0 rfl, hsssssdssssssasassssdssds.cellAt 3 rfl 1 rfl⟩, ?_⟩
  (repeat (first | (apply el_skip rfl (by rfl); try simp only [Act.put, List.setIfInBounds_toArray, List.set_cons_zero, List.set_cons_succ]) | (apply el_float rfl (by rfl); (· (intro w' hS; go_simp <;> with_reducible rfl)); (try simp only [Act.put, List.setIfInBounds_toArray, List.set_cons_zero, List.set_cons_succ]))))
  refine el_hard rfl (by rfl) (fun K hK => ?_)
  go_wp2_with (go_at_call 20; refine (eqInstance_s (x10, x11) _ _ _ _ _ (Iv.rd Jx1''''''''''.out) (Iv.rd Jy1.out)).mono ?_; rintro e w19 ⟨rfl, hb19⟩)
  clear Jy1
  have JW'''''''''''''' := Lib.hid (Iv.mono JW'''''''''''''.out hb19)
  clear JW'''''''''''''
  have Jx0''''''''''''' := Lib.hid (Iv.mono Jx0''''''''''''.out hb19)
  clear Jx0''''''''''''
  have Jx1''''''''''' := Lib.hid (Iv.mono Jx1''''''''''.out hb19)
  clear Jx1''''''''''
  have Jx2''''''''' := Lib.hid (Iv.mono Jx2''''''''.out hb19)
  clear Jx2''''''''
  have Jx3'''''''' := Lib.hid (Iv.mono Jx3'''''''.out hb19)
  clear Jx3'''''''
  have JG''''''' := Lib.hid (Iv.mono JG''''''.out hb19)
  clear JG''''''
  have hsssssdssssssasassssdssdss := hsssssdssssssasassssdssds.step hb19
  have hz19 : w18.heap.size ≤ w19.heap.size := by simpa using hb19.size
  refine ⟨⟨hsssssdssssssasassssdssdss.cellAt 0 rfl 0 rfl, hsssssdssssssasassssdssdss.cellAt 0 rfl 1 rfl, hsssssdssssssasassssdssdss.cellAt 1 rfl 0 rfl, hsssssdssssssasassssdssdss.cellAt 1 rfl 1 rfl, hsssssdssssssasassssdssdss.cellAt 2 rfl 0 rfl, hsssssdssssssasassssdssdss.cellAt 2 rfl 1 rfl, hsssssdssssssasassssdssdss.cellAt 3 rfl 0 rfl, hsssssdssssssasassssdssdss.cellAt 3 rfl 1 rfl⟩, ?_⟩
  (repeat (first | (apply el_skip rfl (by rfl); try simp only [Act.put, List.setIfInBounds_toArray, List.set_cons_zero, List.set_cons_succ]) | (apply el_float rfl (by rfl); (· (intro w' hS; go_simp <;> with_reducible rfl)); (try simp only [Act.put, List.setIfInBounds_toArray, List.set_cons_zero, List.set_cons_succ]))))
  refine el_nil (NoPanic.normal ?_)
  clear qa00 qa01 qa10 qa11 qx00 qx01 qx10 qx11
  have qa00 := hsssssdssssssasassssdssdss.cellAt 0 rfl 0 rfl
  have qa01 := hsssssdssssssasassssdssdss.cellAt 0 rfl 1 rfl
  have qa10 := hsssssdssssssasassssdssdss.cellAt 1 rfl 0 rfl
  have qa11 := hsssssdssssssasassssdssdss.cellAt 1 rfl 1 rfl
  have qx00 := hsssssdssssssasassssdssdss.cellAt 2 rfl 0 rfl
  have qx01 := hsssssdssssssasassssdssdss.cellAt 2 rfl 1 rfl
  have qx10 := hsssssdssssssasassssdssdss.cellAt 3 rfl 0 rfl
  have qx11 := hsssssdssssssasassssdssdss.cellAt 3 rfl 1 rfl
  go_wp2_with fail
  refine (toInt64SS_b x2 _ _ (Rd.mono H2.out hsssssdssssssasassssdssdss.bel) gc2).mono ?_
  rintro e w20 ⟨uy20, rfl, fry2, hb20⟩
  have JW''''''''''''''' := Lib.hid (Iv.mono JW''''''''''''''.out hb20)
  clear JW''''''''''''''
  have Jx0'''''''''''''' := Lib.hid (Iv.mono Jx0'''''''''''''.out hb20)
  clear Jx0'''''''''''''
  have Jx1'''''''''''' := Lib.hid (Iv.mono Jx1'''''''''''.out hb20)
  clear Jx1'''''''''''
  have Jx2'''''''''' := Lib.hid (Iv.mono Jx2'''''''''.out hb20)
  clear Jx2'''''''''
  have Jx3''''''''' := Lib.hid (Iv.mono Jx3''''''''.out hb20)
  clear Jx3''''''''
  have JG'''''''' := Lib.hid (Iv.mono JG'''''''.out hb20)
  clear JG'''''''
  have hsssssdssssssasassssdssdsss := hsssssdssssssasassssdssdss.step hb20
  have hz20 : w19.heap.size ≤ w20.heap.size := by simpa using hb20.size
  have Jy2 := Lib.hid (Fresh.iv fry2)
  obtain ⟨ay2, cy2, rfl, _⟩ := rd_list (Iv.rd Jy2.out)
  clear fry2
  clear qa00 qa01 qa10 qa11 qx00 qx01 qx10 qx11
  have qa00 := hsssssdssssssasassssdssdsss.cellAt 0 rfl 0 rfl
  have qa01 := hsssssdssssssasassssdssdsss.cellAt 0 rfl 1 rfl
  have qa10 := hsssssdssssssasassssdssdsss.cellAt 1 rfl 0 rfl
  have qa11 := hsssssdssssssasassssdssdsss.cellAt 1 rfl 1 rfl
  have qx00 := hsssssdssssssasassssdssdsss.cellAt 2 rfl 0 rfl
  have qx01 := hsssssdssssssasassssdssdsss.cellAt 2 rfl 1 rfl
  have qx10 := hsssssdssssssasassssdssdsss.cellAt 3 rfl 0 rfl
  have qx11 := hsssssdssssssasassssdssdsss.cellAt 3 rfl 1 rfl
  go_wp2_with fail
  refine (eqInt64SS_s x2 _ _ _ (Iv.rd Jx2''''''''''.out) (Iv.rd Jy2.out)).mono ?_
  rintro e w21 ⟨rfl, hb21⟩
  clear Jy2
  have JW'''''''''''''''' := Lib.hid (Iv.mono JW'''''''''''''''.out hb21)
  clear JW'''''''''''''''
  have Jx0''''''''''''''' := Lib.hid (Iv.mono Jx0''''''''''''''.out hb21)
  clear Jx0''''''''''''''
  have Jx1''''''''''''' := Lib.hid (Iv.mono Jx1''''''''''''.out hb21)
  clear Jx1''''''''''''
  have Jx2''''''''''' := Lib.hid (Iv.mono Jx2''''''''''.out hb21)
  clear Jx2''''''''''
  have Jx3'''''''''' := Lib.hid (Iv.mono Jx3'''''''''.out hb21)
  clear Jx3'''''''''
  have JG''''''''' := Lib.hid (Iv.mono JG''''''''.out hb21)
  clear JG''''''''
  have hsssssdssssssasassssdssdssss := hsssssdssssssasassssdssdsss.step hb21
  have hz21 : w20.heap.size ≤ w21.heap.size := by simpa using hb21.size
  clear qa00 qa01 qa10 qa11 qx00 qx01 qx10 qx11
  have qa00 := hsssssdssssssasassssdssdssss.cellAt 0 rfl 0 rfl
  have qa01 := hsssssdssssssasassssdssdssss.cellAt 0 rfl 1 rfl
  have qa10 := hsssssdssssssasassssdssdssss.cellAt 1 rfl 0 rfl
  have qa11 := hsssssdssssssasassssdssdssss.cellAt 1 rfl 1 rfl
  have qx00 := hsssssdssssssasassssdssdssss.cellAt 2 rfl 0 rfl
  have qx01 := hsssssdssssssasassssdssdssss.cellAt 2 rfl 1 rfl
  have qx10 := hsssssdssssssasassssdssdssss.cellAt 3 rfl 0 rfl
  have qx11 := hsssssdssssssasassssdssdssss.cellAt 3 rfl 1 rfl
  go_wp2_with fail
  refine (toArcStepS_b x3 _ _ (Rd.mono H3.out hsssssdssssssasassssdssdssss.bel) gc3).mono ?_
  rintro e w22 ⟨uy30, rfl, fry3, hb22⟩
  have JW''''''''''''''''' := Lib.hid (Iv.mono JW''''''''''''''''.out hb22)
  clear JW''''''''''''''''
  have Jx0'''''''''''''''' := Lib.hid (Iv.mono Jx0'''''''''''''''.out hb22)
  clear Jx0'''''''''''''''
  have Jx1'''''''''''''' := Lib.hid (Iv.mono Jx1'''''''''''''.out hb22)
  clear Jx1'''''''''''''
  have Jx2'''''''''''' := Lib.hid (Iv.mono Jx2'''''''''''.out hb22)
  clear Jx2'''''''''''
  have Jx3''''''''''' := Lib.hid (Iv.mono Jx3''''''''''.out hb22)
  clear Jx3''''''''''
  have JG'''''''''' := Lib.hid (Iv.mono JG'''''''''.out hb22)
  clear JG'''''''''
  have hsssssdssssssasassssdssdsssss := hsssssdssssssasassssdssdssss.step hb22
  have hz22 : w21.heap.size ≤ w22.heap.size := by simpa using hb22.size
  have Jy3 := Lib.hid (Fresh.iv fry3)
  obtain ⟨ay3, cy3, rfl, _⟩ := rd_list (Iv.rd Jy3.out)
  clear fry3
  clear qa00 qa01 qa10 qa11 qx00 qx01 qx10 qx11
  have qa00 := hsssssdssssssasassssdssdsssss.cellAt 0 rfl 0 rfl
  have qa01 := hsssssdssssssasassssdssdsssss.cellAt 0 rfl 1 rfl
  have qa10 := hsssssdssssssasassssdssdsssss.cellAt 1 rfl 0 rfl
  have qa11 := hsssssdssssssasassssdssdsssss.cellAt 1 rfl 1 rfl
  have qx00 := hsssssdssssssasassssdssdsssss.cellAt 2 rfl 0 rfl
  have qx01 := hsssssdssssssasassssdssdsssss.cellAt 2 rfl 1 rfl
  have qx10 := hsssssdssssssasassssdssdsssss.cellAt 3 rfl 0 rfl
  have qx11 := hsssssdssssssasassssdssdsssss.cellAt 3 rfl 1 rfl
  go_wp2_with fail
  refine (eqArcStepS_s x3 _ _ _ (Iv.rd Jx3'''''''''''.out) (Iv.rd Jy3.out)).mono ?_
  rintro e w23 ⟨rfl, hb23⟩
  clear Jy3
  have JW'''''''''''''''''' := Lib.hid (Iv.mono JW'''''''''''''''''.out hb23)
  clear JW'''''''''''''''''
  have Jx0''''''''''''''''' := Lib.hid (Iv.mono Jx0''''''''''''''''.out hb23)
  clear Jx0''''''''''''''''
  have Jx1''''''''''''''' := Lib.hid (Iv.mono Jx1''''''''''''''.out hb23)
  clear Jx1''''''''''''''
  have Jx2''''''''''''' := Lib.hid (Iv.mono Jx2''''''''''''.out hb23)
  clear Jx2''''''''''''
  have Jx3'''''''''''' := Lib.hid (Iv.mono Jx3'''''''''''.out hb23)
  clear Jx3'''''''''''
  have JG''''''''''' := Lib.hid (Iv.mono JG''''''''''.out hb23)
  clear JG''''''''''
  have hsssssdssssssasassssdssdssssss := hsssssdssssssasassssdssdsssss.step hb23
  have hz23 : w22.heap.size ≤ w23.heap.size := by simpa using hb23.size
  clear qa00 qa01 qa10 qa11 qx00 qx01 qx10 qx11
  have qa00 := hsssssdssssssasassssdssdssssss.cellAt 0 rfl 0 rfl
  have qa01 := hsssssdssssssasassssdssdssssss.cellAt 0 rfl 1 rfl
  have qa10 := hsssssdssssssasassssdssdssssss.cellAt 1 rfl 0 rfl
  have qa11 := hsssssdssssssasassssdssdssssss.cellAt 1 rfl 1 rfl
  have qx00 := hsssssdssssssasassssdssdssssss.cellAt 2 rfl 0 rfl
  have qx01 := hsssssdssssssasassssdssdssssss.cellAt 2 rfl 1 rfl
  have qx10 := hsssssdssssssasassssdssdssssss.cellAt 3 rfl 0 rfl
  have qx11 := hsssssdssssssasassssdssdssssss.cellAt 3 rfl 1 rfl
  have mcb0 := mcb_Template (x00, x01)
  obtain ⟨psx0, hox0, hnx0, hpx0⟩ := Jx0'''''''''''''''''.out
  have HOx0 := Lib.hid hox0
  clear hox0
  clear Jx0'''''''''''''''''
  go_wp2_with fail
  refine (markTemplate_g (x00, x01) _ _ psx0 1 _ HOx0.out hnx0 (by omega) (by omega)).mono ?_
  rintro e w24 ⟨yx0, mx0, rfl, l0x0, l1x0, hyx0, hhx0, hbutx0⟩
  have HYx0 := Lib.hid hyx0
  have HHx0 := Lib.hid hhx0
  clear hyx0 hhx0 HOx0
  have hqx0 : ∀ k, k ∈ psx0 → w9.heap.size ≤ k ∧ k < w10.heap.size := fun k hk => by have := hpx0 k hk; simpa using this
  have JW''''''''''''''''''' := Lib.hid (Iv.but JW''''''''''''''''''.out hbutx0 (fun k hk => by have := hqx0 k hk; simp; omega))
  clear JW''''''''''''''''''
  have Jx1'''''''''''''''' := Lib.hid (Iv.but Jx1'''''''''''''''.out hbutx0 (fun k hk => by have := hqx0 k hk; simp; omega))
  clear Jx1'''''''''''''''
  have Jx2'''''''''''''' := Lib.hid (Iv.but Jx2'''''''''''''.out hbutx0 (fun k hk => by have := hqx0 k hk; simp; omega))
  clear Jx2'''''''''''''
  have Jx3''''''''''''' := Lib.hid (Iv.but Jx3''''''''''''.out hbutx0 (fun k hk => by have := hqx0 k hk; simp; omega))
  clear Jx3''''''''''''
  have JG'''''''''''' := Lib.hid (Iv.but JG'''''''''''.out hbutx0 (fun k hk => by have := hqx0 k hk; simp; omega))
  clear JG'''''''''''
  have hsssssdssssssasassssdssdssssssm := hsssssdssssssasassssdssdssssss.butIv hbutx0 (fun k hk => by have := hqx0 k hk; omega) (fun x hx hp => by
    have := hqx0 _ hp
    simp only [List.mem_append, List.mem_cons, List.mem_nil_iff, or_false, List.not_mem_nil, false_or, or_assoc] at hx
    rcases hx with rfl | rfl | rfl | rfl <;> (simp only at this; omega))
  have hz24 : w23.heap.size ≤ w24.heap.size := by simpa using hbutx0.size
  clear qa00 qa01 qa10 qa11 qx00 qx01 qx10 qx11
  have qa00 := hsssssdssssssasassssdssdssssssm.cellAt 0 rfl 0 rfl
  have qa01 := hsssssdssssssasassssdssdssssssm.cellAt 0 rfl 1 rfl
  have qa10 := hsssssdssssssasassssdssdssssssm.cellAt 1 rfl 0 rfl
  have qa11 := hsssssdssssssasassssdssdssssssm.cellAt 1 rfl 1 rfl
  have qx00 := hsssssdssssssasassssdssdssssssm.cellAt 2 rfl 0 rfl
  have qx01 := hsssssdssssssasassssdssdssssssm.cellAt 2 rfl 1 rfl
  have qx10 := hsssssdssssssasassssdssdssssssm.cellAt 3 rfl 0 rfl
  have qx11 := hsssssdssssssasassssdssdssssssm.cellAt 3 rfl 1 rfl
  have mcb1 := mcb_Instance (x10, x11)
  obtain ⟨psx1, hox1, hnx1, hpx1⟩ := Jx1''''''''''''''''.out
  have HOx1 := Lib.hid hox1
  clear hox1
  clear Jx1''''''''''''''''
  go_wp2_with fail
  refine (markInstance_g (x10, x11) _ _ psx1 mx0 _ HOx1.out hnx1 (by omega) (by omega)).mono ?_
  rintro e w25 ⟨yx1, mx1, rfl, l0x1, l1x1, hyx1, hhx1, hbutx1⟩
  have HYx1 := Lib.hid hyx1
  have HHx1 := Lib.hid hhx1
  clear hyx1 hhx1 HOx1
  have hqx1 : ∀ k, k ∈ psx1 → w10.heap.size + 1 ≤ k ∧ k < w11.heap.size := fun k hk => by have := hpx1 k hk; simpa using this
  have JW'''''''''''''''''''' := Lib.hid (Iv.but JW'''''''''''''''''''.out hbutx1 (fun k hk => by have := hqx1 k hk; simp; omega))
  clear JW'''''''''''''''''''
  have Jx2''''''''''''''' := Lib.hid (Iv.but Jx2''''''''''''''.out hbutx1 (fun k hk => by have := hqx1 k hk; simp; omega))
  clear Jx2''''''''''''''
  have Jx3'''''''''''''' := Lib.hid (Iv.but Jx3'''''''''''''.out hbutx1 (fun k hk => by have := hqx1 k hk; simp; omega))
  clear Jx3'''''''''''''
  have JG''''''''''''' := Lib.hid (Iv.but JG''''''''''''.out hbutx1 (fun k hk => by have := hqx1 k hk; simp; omega))
  clear JG''''''''''''
  have hsssssdssssssasassssdssdssssssmm := hsssssdssssssasassssdssdssssssm.butIv hbutx1 (fun k hk => by have := hqx1 k hk; omega) (fun x hx hp => by
    have := hqx1 _ hp
    simp only [List.mem_append, List.mem_cons, List.mem_nil_iff, or_false, List.not_mem_nil, false_or, or_assoc] at hx
    rcases hx with rfl | rfl | rfl | rfl <;> (simp only at this; omega))
  have hz25 : w24.heap.size ≤ w25.heap.size := by simpa using hbutx1.size
  clear qa00 qa01 qa10 qa11 qx00 qx01 qx10 qx11
  have qa00 := hsssssdssssssasassssdssdssssssmm.cellAt 0 rfl 0 rfl
  have qa01 := hsssssdssssssasassssdssdssssssmm.cellAt 0 rfl 1 rfl
  have qa10 := hsssssdssssssasassssdssdssssssmm.cellAt 1 rfl 0 rfl
  have qa11 := hsssssdssssssasassssdssdssssssmm.cellAt 1 rfl 1 rfl
  have qx00 := hsssssdssssssasassssdssdssssssmm.cellAt 2 rfl 0 rfl
  have qx01 := hsssssdssssssasassssdssdssssssmm.cellAt 2 rfl 1 rfl
  have qx10 := hsssssdssssssasassssdssdssssssmm.cellAt 3 rfl 0 rfl
  have qx11 := hsssssdssssssasassssdssdssssssmm.cellAt 3 rfl 1 rfl
  have mcb2 := mcb_Int64SS x2
  obtain ⟨psx2, hox2, hnx2, hpx2⟩ := Jx2'''''''''''''''.out
  have HOx2 := Lib.hid hox2
  clear hox2
  clear Jx2'''''''''''''''
  go_wp2_with fail
  refine (markInt64SS_g x2 _ psx2 mx1 _ HOx2.out hnx2 (by omega) (by omega)).mono ?_
  rintro e w26 ⟨yx2, mx2, rfl, l0x2, l1x2, hyx2, hhx2, hbutx2⟩
  have HYx2 := Lib.hid hyx2
  have HHx2 := Lib.hid hhx2
  clear hyx2 hhx2 HOx2
  have hqx2 : ∀ k, k ∈ psx2 → w11.heap.size + 1 ≤ k ∧ k < w12.heap.size := fun k hk => by have := hpx2 k hk; simpa using this
  have JW''''''''''''''''''''' := Lib.hid (Iv.but JW''''''''''''''''''''.out hbutx2 (fun k hk => by have := hqx2 k hk; simp; omega))
  clear JW''''''''''''''''''''
  have Jx3''''''''''''''' := Lib.hid (Iv.but Jx3''''''''''''''.out hbutx2 (fun k hk => by have := hqx2 k hk; simp; omega))
  clear Jx3''''''''''''''
  have JG'''''''''''''' := Lib.hid (Iv.but JG'''''''''''''.out hbutx2 (fun k hk => by have := hqx2 k hk; simp; omega))
  clear JG'''''''''''''
  have hsssssdssssssasassssdssdssssssmmm := hsssssdssssssasassssdssdssssssmm.butIv hbutx2 (fun k hk => by have := hqx2 k hk; omega) (fun x hx hp => by
    have := hqx2 _ hp
    simp only [List.mem_append, List.mem_cons, List.mem_nil_iff, or_false, List.not_mem_nil, false_or, or_assoc] at hx
    rcases hx with rfl | rfl | rfl | rfl <;> (simp only at this; omega))
  have hz26 : w25.heap.size ≤ w26.heap.size := by simpa using hbutx2.size
  clear qa00 qa01 qa10 qa11 qx00 qx01 qx10 qx11
  have qa00 := hsssssdssssssasassssdssdssssssmmm.cellAt 0 rfl 0 rfl
  have qa01 := hsssssdssssssasassssdssdssssssmmm.cellAt 0 rfl 1 rfl
  have qa10 := hsssssdssssssasassssdssdssssssmmm.cellAt 1 rfl 0 rfl
  have qa11 := hsssssdssssssasassssdssdssssssmmm.cellAt 1 rfl 1 rfl
  have qx00 := hsssssdssssssasassssdssdssssssmmm.cellAt 2 rfl 0 rfl
  have qx01 := hsssssdssssssasassssdssdssssssmmm.cellAt 2 rfl 1 rfl
  have qx10 := hsssssdssssssasassssdssdssssssmmm.cellAt 3 rfl 0 rfl
  have qx11 := hsssssdssssssasassssdssdssssssmmm.cellAt 3 rfl 1 rfl
  have mcb3 := mcb_ArcStepS x3
  obtain ⟨psx3, hox3, hnx3, hpx3⟩ := Jx3'''''''''''''''.out
  have HOx3 := Lib.hid hox3
  clear hox3
  clear Jx3'''''''''''''''
  go_wp2_with fail
  refine (markArcStepS_g x3 _ psx3 mx2 _ HOx3.out hnx3 (by omega) (by omega)).mono ?_
  rintro e w27 ⟨yx3, mx3, rfl, l0x3, l1x3, hyx3, hhx3, hbutx3⟩
  have HYx3 := Lib.hid hyx3
  have HHx3 := Lib.hid hhx3
  clear hyx3 hhx3 HOx3
  have hqx3 : ∀ k, k ∈ psx3 → w12.heap.size ≤ k ∧ k < w13.heap.size := fun k hk => by have := hpx3 k hk; simpa using this
  have JW'''''''''''''''''''''' := Lib.hid (Iv.but JW'''''''''''''''''''''.out hbutx3 (fun k hk => by have := hqx3 k hk; simp; omega))
  clear JW'''''''''''''''''''''
  have JG''''''''''''''' := Lib.hid (Iv.but JG''''''''''''''.out hbutx3 (fun k hk => by have := hqx3 k hk; simp; omega))
  clear JG''''''''''''''
  have hsssssdssssssasassssdssdssssssmmmm := hsssssdssssssasassssdssdssssssmmm.butIv hbutx3 (fun k hk => by have := hqx3 k hk; omega) (fun x hx hp => by
    have := hqx3 _ hp
    simp only [List.mem_append, List.mem_cons, List.mem_nil_iff, or_false, List.not_mem_nil, false_or, or_assoc] at hx
    rcases hx with rfl | rfl | rfl | rfl <;> (simp only at this; omega))
  have hz27 : w26.heap.size ≤ w27.heap.size := by simpa using hbutx3.size
  clear qa00 qa01 qa10 qa11 qx00 qx01 qx10 qx11
  have qa00 := hsssssdssssssasassssdssdssssssmmmm.cellAt 0 rfl 0 rfl
  have qa01 := hsssssdssssssasassssdssdssssssmmmm.cellAt 0 rfl 1 rfl
  have qa10 := hsssssdssssssasassssdssdssssssmmmm.cellAt 1 rfl 0 rfl
  have qa11 := hsssssdssssssasassssdssdssssssmmmm.cellAt 1 rfl 1 rfl
  have qx00 := hsssssdssssssasassssdssdssssssmmmm.cellAt 2 rfl 0 rfl
  have qx01 := hsssssdssssssasassssdssdssssssmmmm.cellAt 2 rfl 1 rfl
  have qx10 := hsssssdssssssasassssdssdssssssmmmm.cellAt 3 rfl 0 rfl
  have qx11 := hsssssdssssssasassssdssdssssssmmmm.cellAt 3 rfl 1 rfl
  go_wp2_with fail
  refine (eqInt64SS_s r0 _ _ _ (Iv.rd JG'''''''''''''''.out) (Iv.rd JW''''''''''''''''''''''.out)).mono ?_
  rintro e w28 ⟨rfl, hb28⟩
  have JW''''''''''''''''''''''' := Lib.hid (Iv.mono JW''''''''''''''''''''''.out hb28)
  clear JW''''''''''''''''''''''
  have JG'''''''''''''''' := Lib.hid (Iv.mono JG'''''''''''''''.out hb28)
  clear JG'''''''''''''''
  have hsssssdssssssasassssdssdssssssmmmms := hsssssdssssssasassssdssdssssssmmmm.step hb28
  have hz28 : w27.heap.size ≤ w28.heap.size := by simpa using hb28.size
  clear qa00 qa01 qa10 qa11 qx00 qx01 qx10 qx11
  have qa00 := hsssssdssssssasassssdssdssssssmmmms.cellAt 0 rfl 0 rfl
  have qa01 := hsssssdssssssasassssdssdssssssmmmms.cellAt 0 rfl 1 rfl
  have qa10 := hsssssdssssssasassssdssdssssssmmmms.cellAt 1 rfl 0 rfl
  have qa11 := hsssssdssssssasassssdssdssssssmmmms.cellAt 1 rfl 1 rfl
  have qx00 := hsssssdssssssasassssdssdssssssmmmms.cellAt 2 rfl 0 rfl
  have qx01 := hsssssdssssssasassssdssdssssssmmmms.cellAt 2 rfl 1 rfl
  have qx10 := hsssssdssssssasassssdssdssssssmmmms.cellAt 3 rfl 0 rfl
  have qx11 := hsssssdssssssasassssdssdssssssmmmms.cellAt 3 rfl 1 rfl
  obtain ⟨psG, hoG, hnG, hpG⟩ := JG''''''''''''''''.out
  have HOG := Lib.hid hoG
  clear hoG
  clear JG''''''''''''''''
  go_wp2_with fail
  refine (markInt64SS_g r0 _ psG 1 _ HOG.out hnG (by omega) (by omega)).mono ?_
  rintro e w29 ⟨yG, mG, rfl, l0G, l1G, hyG, hhG, hbutG⟩
  have HYG := Lib.hid hyG
  have HHG := Lib.hid hhG
  clear hyG hhG HOG
  have hqG : ∀ k, k ∈ psG → w13.heap.size ≤ k ∧ k < w14.heap.size := fun k hk => by have := hpG k hk; simpa using this
  have JW'''''''''''''''''''''''' := Lib.hid (Iv.but JW'''''''''''''''''''''''.out hbutG (fun k hk => by have := hqG k hk; simp; omega))
  clear JW'''''''''''''''''''''''
  have hsssssdssssssasassssdssdssssssmmmmsm := hsssssdssssssasassssdssdssssssmmmms.butIv hbutG (fun k hk => by have := hqG k hk; omega) (fun x hx hp => by
    have := hqG _ hp
    simp only [List.mem_append, List.mem_cons, List.mem_nil_iff, or_false, List.not_mem_nil, false_or, or_assoc] at hx
    rcases hx with rfl | rfl | rfl | rfl <;> (simp only at this; omega))
  have hz29 : w28.heap.size ≤ w29.heap.size := by simpa using hbutG.size
  clear qa00 qa01 qa10 qa11 qx00 qx01 qx10 qx11
  have qa00 := hsssssdssssssasassssdssdssssssmmmmsm.cellAt 0 rfl 0 rfl
  have qa01 := hsssssdssssssasassssdssdssssssmmmmsm.cellAt 0 rfl 1 rfl
  have qa10 := hsssssdssssssasassssdssdssssssmmmmsm.cellAt 1 rfl 0 rfl
  have qa11 := hsssssdssssssasassssdssdssssssmmmmsm.cellAt 1 rfl 1 rfl
  have qx00 := hsssssdssssssasassssdssdssssssmmmmsm.cellAt 2 rfl 0 rfl
  have qx01 := hsssssdssssssasassssdssdssssssmmmmsm.cellAt 2 rfl 1 rfl
  have qx10 := hsssssdssssssasassssdssdssssssmmmmsm.cellAt 3 rfl 0 rfl
  have qx11 := hsssssdssssssasassssdssdssssssmmmmsm.cellAt 3 rfl 1 rfl
  have HYr30 := Lib.hid (Own.rd HYG.out)
  go_wp2_with fail
  refine (heldInt64SS_g yG _ 1 mG _ HYr30.out HHG.out (by omega) (by omega) (by omega)).mono ?_
  rintro e w30 ⟨rfl, hb30⟩
  have HYG' := Lib.hid (Own.mono HYG.out hb30)
  clear HYG HYr30
  have HYG := HYG'
  clear HYG'
  have JW''''''''''''''''''''''''' := Lib.hid (Iv.mono JW''''''''''''''''''''''''.out hb30)
  clear JW''''''''''''''''''''''''
  have hsssssdssssssasassssdssdssssssmmmmsms := hsssssdssssssasassssdssdssssssmmmmsm.step hb30
  have hz30 : w29.heap.size ≤ w30.heap.size := by simpa using hb30.size
  clear qa00 qa01 qa10 qa11 qx00 qx01 qx10 qx11
  have qa00 := hsssssdssssssasassssdssdssssssmmmmsms.cellAt 0 rfl 0 rfl
  have qa01 := hsssssdssssssasassssdssdssssssmmmmsms.cellAt 0 rfl 1 rfl
  have qa10 := hsssssdssssssasassssdssdssssssmmmmsms.cellAt 1 rfl 0 rfl
  have qa11 := hsssssdssssssasassssdssdssssssmmmmsms.cellAt 1 rfl 1 rfl
  have qx00 := hsssssdssssssasassssdssdssssssmmmmsms.cellAt 2 rfl 0 rfl
  have qx01 := hsssssdssssssasassssdssdssssssmmmmsms.cellAt 2 rfl 1 rfl
  have qx10 := hsssssdssssssasassssdssdssssssmmmmsms.cellAt 3 rfl 0 rfl
  have qx11 := hsssssdssssssasassssdssdssssssmmmmsms.cellAt 3 rfl 1 rfl
  have hmm : (mG != mG) = false := by simp
  have hm0 : ¬ mG < 0 := by omega
  go_wp2_with fail
  refine wp_region_noPanic (wp_region_el (fun w' => w'.cell? ⟨w.heap.size, 0, none⟩ = some (.int .i64 x00) ∧ w'.cell? ⟨w.heap.size, 1, none⟩ = some (.slice a01 x01.length c01) ∧ w'.cell? ⟨w.heap.size + 1, 0, none⟩ = some (.int .i64 x10) ∧ w'.cell? ⟨w.heap.size + 1, 1, none⟩ = some (.slice a11 x11.length c11) ∧ w'.cell? ⟨w10.heap.size, 0, none⟩ = some (.int .i64 x00) ∧ w'.cell? ⟨w10.heap.size, 1, none⟩ = some (.slice ax01 x01.length cx01) ∧ w'.cell? ⟨w11.heap.size, 0, none⟩ = some (.int .i64 x10) ∧ w'.cell? ⟨w11.heap.size, 1, none⟩ = some (.slice ax11 x11.length cx11)) [(0, 0), (2, 0), (4, 0), (6, 0), (1, 1), (3, 1), (5, 1), (7, 1), (8, 1), (9, 0), (10, 0), (11, 0), (12, 0), (13, 0), (14, 0), (15, 0)] (by kernel_rfl) (by kernel_rfl) (by kernel_rfl) rfl ?_ (fun _ _ _ _ _ h => h) ?_)
  · exact ⟨(hsssssdssssssasassssdssdssssssmmmmsms.drew).cellAt 0 rfl 0 rfl, (hsssssdssssssasassssdssdssssssmmmmsms.drew).cellAt 0 rfl 1 rfl, (hsssssdssssssasassssdssdssssssmmmmsms.drew).cellAt 1 rfl 0 rfl, (hsssssdssssssasassssdssdssssssmmmmsms.drew).cellAt 1 rfl 1 rfl, (hsssssdssssssasassssdssdssssssmmmmsms.drew).cellAt 2 rfl 0 rfl, (hsssssdssssssasassssdssdssssssmmmmsms.drew).cellAt 2 rfl 1 rfl, (hsssssdssssssasassssdssdssssssmmmmsms.drew).cellAt 3 rfl 0 rfl, (hsssssdssssssasassssdssdssssssmmmmsms.drew).cellAt 3 rfl 1 rfl⟩
  have JW'''''''''''''''''''''''''' := Lib.hid (Iv.mono JW'''''''''''''''''''''''''.out (belowD _))
  clear JW'''''''''''''''''''''''''
  have hsssssdssssssasassssdssdssssssmmmmsmsd := hsssssdssssssasassssdssdssssssmmmmsms.drew
  (repeat (first | (apply el_skip rfl (by rfl); try simp only [Act.put, List.setIfInBounds_toArray, List.set_cons_zero, List.set_cons_succ]) | (apply el_float rfl (by rfl); (· (intro w' hS; go_simp <;> with_reducible rfl)); (try simp only [Act.put, List.setIfInBounds_toArray, List.set_cons_zero, List.set_cons_succ]))))
  have HYG' := Lib.hid (Own.mono HYG.out (belowD _))
  clear HYG
  have HYG := HYG'
  clear HYG'
  refine el_hard rfl (by rfl) (fun K hK => ?_)
  go_wp2_with (go_at_call 14; refine (toTemplate_b (x00, x01) _ _ _ (Rd.mono H0.out hsssssdssssssasassssdssdssssssmmmmsmsd.bel) gc0).mono ?_; rintro e w31 ⟨ut00, ut01, rfl, frt0, hb31⟩)
  have JW''''''''''''''''''''''''''' := Lib.hid (Iv.mono JW''''''''''''''''''''''''''.out hb31)
  clear JW''''''''''''''''''''''''''
  have hsssssdssssssasassssdssdssssssmmmmsmsds := hsssssdssssssasassssdssdssssssmmmmsmsd.step hb31
  have hz31 : w30.heap.size ≤ w31.heap.size := by simpa using hb31.size
  have Jt0 := Lib.hid (Fresh.iv frt0)
  have zt00 := rd_cons rfl (Iv.rd Jt0.out)
  obtain ⟨rfl, _⟩ := rd_i1 zt00.1
  obtain ⟨at01, ct01, rfl, _⟩ := rd_list zt00.2
  clear zt00
  clear frt0
  refine ⟨⟨hsssssdssssssasassssdssdssssssmmmmsmsds.cellAt 0 rfl 0 rfl, hsssssdssssssasassssdssdssssssmmmmsmsds.cellAt 0 rfl 1 rfl, hsssssdssssssasassssdssdssssssmmmmsmsds.cellAt 1 rfl 0 rfl, hsssssdssssssasassssdssdssssssmmmmsmsds.cellAt 1 rfl 1 rfl, hsssssdssssssasassssdssdssssssmmmmsmsds.cellAt 2 rfl 0 rfl, hsssssdssssssasassssdssdssssssmmmmsmsds.cellAt 2 rfl 1 rfl, hsssssdssssssasassssdssdssssssmmmmsmsds.cellAt 3 rfl 0 rfl, hsssssdssssssasassssdssdssssssmmmmsmsds.cellAt 3 rfl 1 rfl⟩, ?_⟩
  (repeat (first | (apply el_skip rfl (by rfl); try simp only [Act.put, List.setIfInBounds_toArray, List.set_cons_zero, List.set_cons_succ]) | (apply el_float rfl (by rfl); (· (intro w' hS; go_simp <;> with_reducible rfl)); (try simp only [Act.put, List.setIfInBounds_toArray, List.set_cons_zero, List.set_cons_succ]))))
  have HYG' := Lib.hid (Own.mono HYG.out hb31)
  clear HYG
  have HYG := HYG'
  clear HYG'
  refine el_hard rfl (by rfl) (fun K hK => ?_)
  go_wp2_with (go_at_call 15; refine (toInstance_b (x10, x11) _ _ _ (Rd.mono H1.out hsssssdssssssasassssdssdssssssmmmmsmsds.bel) gc1).mono ?_; rintro e w32 ⟨ut10, ut11, rfl, frt1, hb32⟩)
  have JW'''''''''''''''''''''''''''' := Lib.hid (Iv.mono JW'''''''''''''''''''''''''''.out hb32)
  clear JW'''''''''''''''''''''''''''
  have Jt0' := Lib.hid (Iv.mono Jt0.out hb32)
  clear Jt0
  have hsssssdssssssasassssdssdssssssmmmmsmsdss := hsssssdssssssasassssdssdssssssmmmmsmsds.step hb32
  have hz32 : w31.heap.size ≤ w32.heap.size := by simpa using hb32.size
  have Jt1 := Lib.hid (Fresh.iv frt1)
  have zt10 := rd_cons rfl (Iv.rd Jt1.out)
  obtain ⟨rfl, _⟩ := rd_i1 zt10.1
  obtain ⟨at11, ct11, rfl, _⟩ := rd_list zt10.2
  clear zt10
  clear frt1
  refine ⟨⟨hsssssdssssssasassssdssdssssssmmmmsmsdss.cellAt 0 rfl 0 rfl, hsssssdssssssasassssdssdssssssmmmmsmsdss.cellAt 0 rfl 1 rfl, hsssssdssssssasassssdssdssssssmmmmsmsdss.cellAt 1 rfl 0 rfl, hsssssdssssssasassssdssdssssssmmmmsmsdss.cellAt 1 rfl 1 rfl, hsssssdssssssasassssdssdssssssmmmmsmsdss.cellAt 2 rfl 0 rfl, hsssssdssssssasassssdssdssssssmmmmsmsdss.cellAt 2 rfl 1 rfl, hsssssdssssssasassssdssdssssssmmmmsmsdss.cellAt 3 rfl 0 rfl, hsssssdssssssasassssdssdssssssmmmmsmsdss.cellAt 3 rfl 1 rfl⟩, ?_⟩
  (repeat (first | (apply el_skip rfl (by rfl); try simp only [Act.put, List.setIfInBounds_toArray, List.set_cons_zero, List.set_cons_succ]) | (apply el_float rfl (by rfl); (· (intro w' hS; go_simp <;> with_reducible rfl)); (try simp only [Act.put, List.setIfInBounds_toArray, List.set_cons_zero, List.set_cons_succ]))))
  have HYG' := Lib.hid (Own.mono HYG.out hb32)
  clear HYG
  have HYG := HYG'
  clear HYG'
  refine el_hard rfl (by rfl) (fun K hK => ?_)
  go_wp2_with (go_at_call 37; refine (toInt64SS_b x2 _ _ (Rd.mono H2.out hsssssdssssssasassssdssdssssssmmmmsmsdss.bel) gc2).mono ?_; rintro e w33 ⟨ut20, rfl, frt2, hb33⟩)
  have JW''''''''''''''''''''''''''''' := Lib.hid (Iv.mono JW''''''''''''''''''''''''''''.out hb33)
  clear JW''''''''''''''''''''''''''''
  have Jt0'' := Lib.hid (Iv.mono Jt0'.out hb33)
  clear Jt0'
  have Jt1' := Lib.hid (Iv.mono Jt1.out hb33)
  clear Jt1
  have hsssssdssssssasassssdssdssssssmmmmsmsdsss := hsssssdssssssasassssdssdssssssmmmmsmsdss.step hb33
  have hz33 : w32.heap.size ≤ w33.heap.size := by simpa using hb33.size
  have Jt2 := Lib.hid (Fresh.iv frt2)
  obtain ⟨at2, ct2, rfl, _⟩ := rd_list (Iv.rd Jt2.out)
  clear frt2
  refine ⟨⟨hsssssdssssssasassssdssdssssssmmmmsmsdsss.cellAt 0 rfl 0 rfl, hsssssdssssssasassssdssdssssssmmmmsmsdsss.cellAt 0 rfl 1 rfl, hsssssdssssssasassssdssdssssssmmmmsmsdsss.cellAt 1 rfl 0 rfl, hsssssdssssssasassssdssdssssssmmmmsmsdsss.cellAt 1 rfl 1 rfl, hsssssdssssssasassssdssdssssssmmmmsmsdsss.cellAt 2 rfl 0 rfl, hsssssdssssssasassssdssdssssssmmmmsmsdsss.cellAt 2 rfl 1 rfl, hsssssdssssssasassssdssdssssssmmmmsmsdsss.cellAt 3 rfl 0 rfl, hsssssdssssssasassssdssdssssssmmmmsmsdsss.cellAt 3 rfl 1 rfl⟩, ?_⟩
  (repeat (first | (apply el_skip rfl (by rfl); try simp only [Act.put, List.setIfInBounds_toArray, List.set_cons_zero, List.set_cons_succ]) | (apply el_float rfl (by rfl); (· (intro w' hS; go_simp <;> with_reducible rfl)); (try simp only [Act.put, List.setIfInBounds_toArray, List.set_cons_zero, List.set_cons_succ]))))
  have HYG' := Lib.hid (Own.mono HYG.out hb33)
  clear HYG
  have HYG := HYG'
  clear HYG'
  refine el_hard rfl (by rfl) (fun K hK => ?_)
  go_wp2_with (go_at_call 42; refine (toArcStepS_b x3 _ _ (Rd.mono H3.out hsssssdssssssasassssdssdssssssmmmmsmsdsss.bel) gc3).mono ?_; rintro e w34 ⟨ut30, rfl, frt3, hb34⟩)
  have JW'''''''''''''''''''''''''''''' := Lib.hid (Iv.mono JW'''''''''''''''''''''''''''''.out hb34)
  clear JW'''''''''''''''''''''''''''''
  have Jt0''' := Lib.hid (Iv.mono Jt0''.out hb34)
  clear Jt0''
  have Jt1'' := Lib.hid (Iv.mono Jt1'.out hb34)
  clear Jt1'
  have Jt2' := Lib.hid (Iv.mono Jt2.out hb34)
  clear Jt2
  have hsssssdssssssasassssdssdssssssmmmmsmsdssss := hsssssdssssssasassssdssdssssssmmmmsmsdsss.step hb34
  have hz34 : w33.heap.size ≤ w34.heap.size := by simpa using hb34.size
  have Jt3 := Lib.hid (Fresh.iv frt3)
  obtain ⟨at3, ct3, rfl, _⟩ := rd_list (Iv.rd Jt3.out)
  clear frt3
  refine ⟨⟨hsssssdssssssasassssdssdssssssmmmmsmsdssss.cellAt 0 rfl 0 rfl, hsssssdssssssasassssdssdssssssmmmmsmsdssss.cellAt 0 rfl 1 rfl, hsssssdssssssasassssdssdssssssmmmmsmsdssss.cellAt 1 rfl 0 rfl, hsssssdssssssasassssdssdssssssmmmmsmsdssss.cellAt 1 rfl 1 rfl, hsssssdssssssasassssdssdssssssmmmmsmsdssss.cellAt 2 rfl 0 rfl, hsssssdssssssasassssdssdssssssmmmmsmsdssss.cellAt 2 rfl 1 rfl, hsssssdssssssasassssdssdssssssmmmmsmsdssss.cellAt 3 rfl 0 rfl, hsssssdssssssasassssdssdssssssmmmmsmsdssss.cellAt 3 rfl 1 rfl⟩, ?_⟩
  (repeat (first | (apply el_skip rfl (by rfl); try simp only [Act.put, List.setIfInBounds_toArray, List.set_cons_zero, List.set_cons_succ]) | (apply el_float rfl (by rfl); (· (intro w' hS; go_simp <;> with_reducible rfl)); (try simp only [Act.put, List.setIfInBounds_toArray, List.set_cons_zero, List.set_cons_succ]))))
  have HYG' := Lib.hid (Own.mono HYG.out hb34)
  clear HYG
  have HYG := HYG'
  clear HYG'
  refine el_hard rfl (by rfl) (fun K hK => ?_)
  go_wp2_with (go_at_call 43; refine (CI.out _ _ _ _ _ _ _ (Iv.rd Jt0'''.out) (Iv.rd Jt1''.out) (Iv.rd Jt2'.out) (Iv.rd Jt3.out) (cost_lens gc2) (by unfold cost_ArcStepS at gc3; omega)).mono ?_; rintro e w35 ⟨uK0, rfl, frK, hb35⟩)
  have JW''''''''''''''''''''''''''''''' := Lib.hid (Iv.mono JW''''''''''''''''''''''''''''''.out hb35)
  clear JW''''''''''''''''''''''''''''''
  have Jt0'''' := Lib.hid (Iv.mono Jt0'''.out hb35)
  clear Jt0'''
  have Jt1''' := Lib.hid (Iv.mono Jt1''.out hb35)
  clear Jt1''
  have Jt2'' := Lib.hid (Iv.mono Jt2'.out hb35)
  clear Jt2'
  have Jt3' := Lib.hid (Iv.mono Jt3.out hb35)
  clear Jt3
  have hsssssdssssssasassssdssdssssssmmmmsmsdsssss := hsssssdssssssasassssdssdssssssmmmmsmsdssss.step hb35
  have hz35 : w34.heap.size ≤ w35.heap.size := by simpa using hb35.size
  have JK := Lib.hid (Fresh.iv frK)
  obtain ⟨aK, cK, rfl, _⟩ := rd_list (Iv.rd JK.out)
  clear frK
  have HYG' := Lib.hid (Own.mono HYG.out hb35)
  clear HYG
  have HYG := HYG'
  clear HYG'
  clear Jt0''''
  clear Jt1'''
  clear Jt2''
  clear Jt3'
  refine ⟨⟨hsssssdssssssasassssdssdssssssmmmmsmsdsssss.cellAt 0 rfl 0 rfl, hsssssdssssssasassssdssdssssssmmmmsmsdsssss.cellAt 0 rfl 1 rfl, hsssssdssssssasassssdssdssssssmmmmsmsdsssss.cellAt 1 rfl 0 rfl, hsssssdssssssasassssdssdssssssmmmmsmsdsssss.cellAt 1 rfl 1 rfl, hsssssdssssssasassssdssdssssssmmmmsmsdsssss.cellAt 2 rfl 0 rfl, hsssssdssssssasassssdssdssssssmmmmsmsdsssss.cellAt 2 rfl 1 rfl, hsssssdssssssasassssdssdssssssmmmmsmsdsssss.cellAt 3 rfl 0 rfl, hsssssdssssssasassssdssdssssssmmmmsmsdsssss.cellAt 3 rfl 1 rfl⟩, ?_⟩
  (repeat (first | (apply el_skip rfl (by rfl); try simp only [Act.put, List.setIfInBounds_toArray, List.set_cons_zero, List.set_cons_succ]) | (apply el_float rfl (by rfl); (· (intro w' hS; go_simp <;> with_reducible rfl)); (try simp only [Act.put, List.setIfInBounds_toArray, List.set_cons_zero, List.set_cons_succ]))))
  refine el_nil (NoPanic.normal ?_)
  clear qa00 qa01 qa10 qa11 qx00 qx01 qx10 qx11
  have qa00 := hsssssdssssssasassssdssdssssssmmmmsmsdsssss.cellAt 0 rfl 0 rfl
  have qa01 := hsssssdssssssasassssdssdssssssmmmmsmsdsssss.cellAt 0 rfl 1 rfl
  have qa10 := hsssssdssssssasassssdssdssssssmmmmsmsdsssss.cellAt 1 rfl 0 rfl
  have qa11 := hsssssdssssssasassssdssdssssssmmmmsmsdsssss.cellAt 1 rfl 1 rfl
  have qx00 := hsssssdssssssasassssdssdssssssmmmmsmsdsssss.cellAt 2 rfl 0 rfl
  have qx01 := hsssssdssssssasassssdssdssssssmmmmsmsdsssss.cellAt 2 rfl 1 rfl
  have qx10 := hsssssdssssssasassssdssdssssssmmmmsmsdsssss.cellAt 3 rfl 0 rfl
  have qx11 := hsssssdssssssasassssdssdssssssmmmmsmsdsssss.cellAt 3 rfl 1 rfl
  go_wp2_with fail
  refine (eqInt64SS_s r0 _ _ _ (Iv.rd JK.out) (Iv.rd JW'''''''''''''''''''''''''''''''.out)).mono ?_
  rintro e w36 ⟨rfl, hb36⟩
  have JW'''''''''''''''''''''''''''''''' := Lib.hid (Iv.mono JW'''''''''''''''''''''''''''''''.out hb36)
  clear JW'''''''''''''''''''''''''''''''
  have JK' := Lib.hid (Iv.mono JK.out hb36)
  clear JK
  have hsssssdssssssasassssdssdssssssmmmmsmsdssssss := hsssssdssssssasassssdssdssssssmmmmsmsdsssss.step hb36
  have hz36 : w35.heap.size ≤ w36.heap.size := by simpa using hb36.size
  clear qa00 qa01 qa10 qa11 qx00 qx01 qx10 qx11
  have qa00 := hsssssdssssssasassssdssdssssssmmmmsmsdssssss.cellAt 0 rfl 0 rfl
  have qa01 := hsssssdssssssasassssdssdssssssmmmmsmsdssssss.cellAt 0 rfl 1 rfl
  have qa10 := hsssssdssssssasassssdssdssssssmmmmsmsdssssss.cellAt 1 rfl 0 rfl
  have qa11 := hsssssdssssssasassssdssdssssssmmmmsmsdssssss.cellAt 1 rfl 1 rfl
  have qx00 := hsssssdssssssasassssdssdssssssmmmmsmsdssssss.cellAt 2 rfl 0 rfl
  have qx01 := hsssssdssssssasassssdssdssssssmmmmsmsdssssss.cellAt 2 rfl 1 rfl
  have qx10 := hsssssdssssssasassssdssdssssssmmmmsmsdssssss.cellAt 3 rfl 0 rfl
  have qx11 := hsssssdssssssasassssdssdssssssmmmmsmsdssssss.cellAt 3 rfl 1 rfl
  have HYG' := Lib.hid (Own.mono HYG.out hb36)
  clear HYG
  have HYG := HYG'
  clear HYG'
  have HYr37 := Lib.hid (Own.rd HYG.out)
  go_wp2_with fail
  refine (heldInt64SS_g yG _ 1 mG _ HYr37.out HHG.out (by omega) (by omega) (by omega)).mono ?_
  rintro e w37 ⟨rfl, hb37⟩
  have HYG' := Lib.hid (Own.mono HYG.out hb37)
  clear HYG HYr37
  have HYG := HYG'
  clear HYG'
  have JW''''''''''''''''''''''''''''''''' := Lib.hid (Iv.mono JW''''''''''''''''''''''''''''''''.out hb37)
  clear JW''''''''''''''''''''''''''''''''
  have JK'' := Lib.hid (Iv.mono JK'.out hb37)
  clear JK'
  have hsssssdssssssasassssdssdssssssmmmmsmsdsssssss := hsssssdssssssasassssdssdssssssmmmmsmsdssssss.step hb37
  have hz37 : w36.heap.size ≤ w37.heap.size := by simpa using hb37.size
  clear qa00 qa01 qa10 qa11 qx00 qx01 qx10 qx11
  have qa00 := hsssssdssssssasassssdssdssssssmmmmsmsdsssssss.cellAt 0 rfl 0 rfl
  have qa01 := hsssssdssssssasassssdssdssssssmmmmsmsdsssssss.cellAt 0 rfl 1 rfl
  have qa10 := hsssssdssssssasassssdssdssssssmmmmsmsdsssssss.cellAt 1 rfl 0 rfl
  have qa11 := hsssssdssssssasassssdssdssssssmmmmsmsdsssssss.cellAt 1 rfl 1 rfl
  have qx00 := hsssssdssssssasassssdssdssssssmmmmsmsdsssssss.cellAt 2 rfl 0 rfl
  have qx01 := hsssssdssssssasassssdssdssssssmmmmsmsdsssssss.cellAt 2 rfl 1 rfl
  have qx10 := hsssssdssssssasassssdssdssssssmmmmsmsdsssssss.cellAt 3 rfl 0 rfl
  have qx11 := hsssssdssssssasassssdssdssssssmmmmsmsdsssssss.cellAt 3 rfl 1 rfl
  go_wp2_with fail
  go_ret
  exact ⟨rfl, hsssssdssssssasassssdssdssssssmmmmsmsdsssssss.bel⟩

end Go.Proofs.YtjkjfjpajmjglaaGreat
