/-
  THE LAW FnExactMakeArcs, WALKED. (Printed by wip/genlawm.py.)
-/
import Derived.Test.YtjkjfjpajmjglaaGreatKinds
import Derived.Test.YtjkjfjpajmjglaaGreatMarkT
import Derived.Test.YtjkjfjpajmjglaaGreatMarkS
import Derived.Test.YtjkjfjpajmjglaaGreatMakeArcsS
namespace Go.Proofs.YtjkjfjpajmjglaaGreat
open Go.RowKit Go.Shelf
open Rep (Rd Own sz)
set_option linter.unusedSimpArgs false
set_option linter.unusedVariables false

theorem cost_lens {l : List (List Int)} (h : cost_Int64SS l ≤ 1048576) : ∀ d, d ∈ l → d.length ≤ 1048576 := fun d hd => by
  obtain ⟨j, hj, rfl⟩ := List.getElem_of_mem hd
  have := cL_mem List.length l j hj
  unfold cost_Int64SS at h
  omega
theorem makeArcsF_small (t : Tmpl) (x : Inst) (ds : List (List Int)) : mc_Int64SS (makeArcsF t x ds).1.1 ≤ 1000000 ∧ mc_ArcStepS (makeArcsF t x ds).1.2 ≤ 1000000 := by
  have h := makeArcsF_le t x ds
  have h2 := mcb_ArcStepS (makeArcsF t x ds).1.2
  unfold cost_ArcStepS at h2
  unfold mc_Int64SS
  omega

set_option maxRecDepth 100000 in
set_option maxHeartbeats 8000000 in
theorem FnExactMakeArcs_c (x0 : Tmpl) (v00 v01 : Value) (x1 : Inst) (v10 v11 : Value) (x2 : List (List Int)) (v20 : Value) (w : World) (h0 : Rd w [v00, v01] x0) (h1 : Rd w [v10, v11] x1) (h2 : Rd w [v20] x2) :
    Calls Tryz.prog 8 #[.agg #[v00, v01], .agg #[v10, v11], v20] w fun e w' => e = .returned (.bool true) ∧ Below w.heap.size w w' := by
  obtain ⟨hsm, hsm2⟩ : mc_Int64SS (makeArcsF x0 x1 x2).1.1 ≤ 1000000 ∧ mc_ArcStepS (makeArcsF x0 x1 x2).1.2 ≤ 1000000 := makeArcsF_small x0 x1 x2
  have cS := fun a00 a01 a10 a11 a20 W h0 h1 h2 z => sMakeArcs_c x0 a00 a01 x1 a10 a11 x2 a20 W h0 h1 h2 z
  have cI := fun a00 a01 a10 a11 a20 W h0 h1 h2 z => MakeArcs_c x0 a00 a01 x1 a10 a11 x2 a20 W h0 h1 h2 z
  generalize makeArcsF x0 x1 x2 = R at cS cI hsm hsm2
  obtain ⟨⟨r0, r1⟩, code⟩ := R
  have CS := Lib.hid cS
  have CI := Lib.hid cI
  clear cS cI
  obtain ⟨x00, x01⟩ := x0
  have z00 := rd_cons rfl h0
  obtain ⟨rfl, _⟩ := rd_i1 z00.1
  obtain ⟨a01, c01, rfl, _⟩ := rd_list z00.2
  clear z00
  have H0 := Lib.hid h0
  clear h0
  obtain ⟨x10, x11⟩ := x1
  have z10 := rd_cons rfl h1
  obtain ⟨rfl, _⟩ := rd_i1 z10.1
  obtain ⟨a11, c11, rfl, _⟩ := rd_list z10.2
  clear z10
  have H1 := Lib.hid h1
  clear h1
  obtain ⟨a2, c2, rfl, _⟩ := rd_list h2
  have H2 := Lib.hid h2
  clear h2
  have hs := ((St.start w).alloc #[.int .i64 x00, .slice a01 x01.length c01] 24 rfl).alloc #[.int .i64 x10, .slice a11 x11.length c11] 27 (n := w.heap.size + 1) (by simp)
  go_enter Tryz.func8, Tryz.ntmps8
  go_wp2_with fail
  refine (szTemplate_b (x00, x01) _ _ (1048576) _ (Rd.mono H0.out hs.bel) (by omega) (by omega)).mono ?_
  rintro e w1 ⟨rfl, hb1⟩
  have hss := hs.step hb1
  have hz1 : w.heap.size + 2 ≤ w1.heap.size := by simpa using hb1.size
  rcases less_cases (1048576) (cost_Template (x00, x01)) with ⟨e1, g0⟩ | ⟨e1, g0⟩
  · rw [e1]
    clear e1
    go_wp2_with fail
    go_ret
    exact ⟨rfl, hss.bel⟩
  rw [e1]
  clear e1
  have qa00 := hss.cellAt 0 rfl 0 rfl
  have qa01 := hss.cellAt 0 rfl 1 rfl
  have qa10 := hss.cellAt 1 rfl 0 rfl
  have qa11 := hss.cellAt 1 rfl 1 rfl
  go_wp2_with fail
  refine (szInstance_b (x10, x11) _ _ (1048576 - (cost_Template (x00, x01))) _ (Rd.mono H1.out hss.bel) (by omega) (by omega)).mono ?_
  rintro e w2 ⟨rfl, hb2⟩
  have hsss := hss.step hb2
  have hz2 : w1.heap.size ≤ w2.heap.size := by simpa using hb2.size
  rcases less_cases (1048576 - (cost_Template (x00, x01))) (cost_Instance (x10, x11)) with ⟨e1, g1⟩ | ⟨e1, g1⟩
  · rw [e1]
    clear e1
    go_wp2_with fail
    go_ret
    exact ⟨rfl, hsss.bel⟩
  rw [e1]
  clear e1
  clear qa00 qa01 qa10 qa11
  have qa00 := hsss.cellAt 0 rfl 0 rfl
  have qa01 := hsss.cellAt 0 rfl 1 rfl
  have qa10 := hsss.cellAt 1 rfl 0 rfl
  have qa11 := hsss.cellAt 1 rfl 1 rfl
  go_wp2_with fail
  refine (szInt64SS_b x2 _ (1048576 - (cost_Template (x00, x01)) - (cost_Instance (x10, x11))) _ (Rd.mono H2.out hsss.bel) (by omega) (by omega)).mono ?_
  rintro e w3 ⟨rfl, hb3⟩
  have hssss := hsss.step hb3
  have hz3 : w2.heap.size ≤ w3.heap.size := by simpa using hb3.size
  rcases less_cases (1048576 - (cost_Template (x00, x01)) - (cost_Instance (x10, x11))) (cost_Int64SS x2) with ⟨e1, g2⟩ | ⟨e1, g2⟩
  · rw [e1]
    clear e1
    go_wp2_with fail
    go_ret
    exact ⟨rfl, hssss.bel⟩
  rw [e1]
  clear e1
  clear qa00 qa01 qa10 qa11
  have qa00 := hssss.cellAt 0 rfl 0 rfl
  have qa01 := hssss.cellAt 0 rfl 1 rfl
  have qa10 := hssss.cellAt 1 rfl 0 rfl
  have qa11 := hssss.cellAt 1 rfl 1 rfl
  have gc0 : cost_Template (x00, x01) ≤ 1048576 := by omega
  have gc1 : cost_Instance (x10, x11) ≤ 1048576 := by omega
  have gc2 : cost_Int64SS x2 ≤ 1048576 := by omega
  go_wp2_with fail
  refine wp_region_noPanic (wp_region_el (fun w' => w'.cell? ⟨w.heap.size, 0, none⟩ = some (.int .i64 x00) ∧ w'.cell? ⟨w.heap.size, 1, none⟩ = some (.slice a01 x01.length c01) ∧ w'.cell? ⟨w.heap.size + 1, 0, none⟩ = some (.int .i64 x10) ∧ w'.cell? ⟨w.heap.size + 1, 1, none⟩ = some (.slice a11 x11.length c11)) [(0, 0), (2, 0), (4, 0), (1, 1), (3, 1), (5, 1), (6, 1), (7, 0), (8, 0), (9, 0), (10, 0), (11, 0), (12, 0), (13, 0)] (by kernel_rfl) (by kernel_rfl) (by kernel_rfl) rfl ?_ (fun _ _ _ _ _ h => h) ?_)
  · exact ⟨(hssss.drew).cellAt 0 rfl 0 rfl, (hssss.drew).cellAt 0 rfl 1 rfl, (hssss.drew).cellAt 1 rfl 0 rfl, (hssss.drew).cellAt 1 rfl 1 rfl⟩
  have hssssd := hssss.drew
  (repeat (first | (apply el_skip rfl (by rfl); try simp only [Act.put, List.setIfInBounds_toArray, List.set_cons_zero, List.set_cons_succ]) | (apply el_float rfl (by rfl); (· (intro w' hS; go_simp <;> with_reducible rfl)); (try simp only [Act.put, List.setIfInBounds_toArray, List.set_cons_zero, List.set_cons_succ]))))
  refine el_hard rfl (by rfl) (fun K hK => ?_)
  go_wp2_with (go_at_call 14; refine (toTemplate_b (x00, x01) _ _ _ (Rd.mono H0.out hssssd.bel) gc0).mono ?_; rintro e w4 ⟨us00, us01, rfl, frs0, hb4⟩)
  have hssssds := hssssd.step hb4
  have hz4 : w3.heap.size ≤ w4.heap.size := by simpa using hb4.size
  have Js0 := Lib.hid (Fresh.iv frs0)
  have zs00 := rd_cons rfl (Iv.rd Js0.out)
  obtain ⟨rfl, _⟩ := rd_i1 zs00.1
  obtain ⟨as01, cs01, rfl, _⟩ := rd_list zs00.2
  clear zs00
  clear frs0
  refine ⟨⟨hssssds.cellAt 0 rfl 0 rfl, hssssds.cellAt 0 rfl 1 rfl, hssssds.cellAt 1 rfl 0 rfl, hssssds.cellAt 1 rfl 1 rfl⟩, ?_⟩
  (repeat (first | (apply el_skip rfl (by rfl); try simp only [Act.put, List.setIfInBounds_toArray, List.set_cons_zero, List.set_cons_succ]) | (apply el_float rfl (by rfl); (· (intro w' hS; go_simp <;> with_reducible rfl)); (try simp only [Act.put, List.setIfInBounds_toArray, List.set_cons_zero, List.set_cons_succ]))))
  refine el_hard rfl (by rfl) (fun K hK => ?_)
  go_wp2_with (go_at_call 15; refine (toInstance_b (x10, x11) _ _ _ (Rd.mono H1.out hssssds.bel) gc1).mono ?_; rintro e w5 ⟨us10, us11, rfl, frs1, hb5⟩)
  have Js0' := Lib.hid (Iv.mono Js0.out hb5)
  clear Js0
  have hssssdss := hssssds.step hb5
  have hz5 : w4.heap.size ≤ w5.heap.size := by simpa using hb5.size
  have Js1 := Lib.hid (Fresh.iv frs1)
  have zs10 := rd_cons rfl (Iv.rd Js1.out)
  obtain ⟨rfl, _⟩ := rd_i1 zs10.1
  obtain ⟨as11, cs11, rfl, _⟩ := rd_list zs10.2
  clear zs10
  clear frs1
  refine ⟨⟨hssssdss.cellAt 0 rfl 0 rfl, hssssdss.cellAt 0 rfl 1 rfl, hssssdss.cellAt 1 rfl 0 rfl, hssssdss.cellAt 1 rfl 1 rfl⟩, ?_⟩
  (repeat (first | (apply el_skip rfl (by rfl); try simp only [Act.put, List.setIfInBounds_toArray, List.set_cons_zero, List.set_cons_succ]) | (apply el_float rfl (by rfl); (· (intro w' hS; go_simp <;> with_reducible rfl)); (try simp only [Act.put, List.setIfInBounds_toArray, List.set_cons_zero, List.set_cons_succ]))))
  refine el_hard rfl (by rfl) (fun K hK => ?_)
  go_wp2_with (go_at_call 37; refine (toInt64SS_b x2 _ _ (Rd.mono H2.out hssssdss.bel) gc2).mono ?_; rintro e w6 ⟨us20, rfl, frs2, hb6⟩)
  have Js0'' := Lib.hid (Iv.mono Js0'.out hb6)
  clear Js0'
  have Js1' := Lib.hid (Iv.mono Js1.out hb6)
  clear Js1
  have hssssdsss := hssssdss.step hb6
  have hz6 : w5.heap.size ≤ w6.heap.size := by simpa using hb6.size
  have Js2 := Lib.hid (Fresh.iv frs2)
  obtain ⟨as2, cs2, rfl, _⟩ := rd_list (Iv.rd Js2.out)
  clear frs2
  refine ⟨⟨hssssdsss.cellAt 0 rfl 0 rfl, hssssdsss.cellAt 0 rfl 1 rfl, hssssdsss.cellAt 1 rfl 0 rfl, hssssdsss.cellAt 1 rfl 1 rfl⟩, ?_⟩
  (repeat (first | (apply el_skip rfl (by rfl); try simp only [Act.put, List.setIfInBounds_toArray, List.set_cons_zero, List.set_cons_succ]) | (apply el_float rfl (by rfl); (· (intro w' hS; go_simp <;> with_reducible rfl)); (try simp only [Act.put, List.setIfInBounds_toArray, List.set_cons_zero, List.set_cons_succ]))))
  refine el_hard rfl (by rfl) (fun K hK => ?_)
  go_wp2_with (go_at_call 48; refine (CS.out _ _ _ _ _ _ (Iv.rd Js0''.out) (Iv.rd Js1'.out) (Iv.rd Js2.out) (cost_lens gc2)).mono ?_; rintro e w7 ⟨uW0, uW1, rfl, frW, hb7⟩)
  have Js0''' := Lib.hid (Iv.mono Js0''.out hb7)
  clear Js0''
  have Js1'' := Lib.hid (Iv.mono Js1'.out hb7)
  clear Js1'
  have Js2' := Lib.hid (Iv.mono Js2.out hb7)
  clear Js2
  have hssssdssss := hssssdsss.step hb7
  have hz7 : w6.heap.size ≤ w7.heap.size := by simpa using hb7.size
  have JW := Lib.hid (Fresh.iv frW)
  have zW0 := rd_cons rfl (Iv.rd JW.out)
  obtain ⟨aW0, cW0, rfl, _⟩ := rd_list zW0.1
  obtain ⟨aW1, cW1, rfl, _⟩ := rd_list zW0.2
  clear zW0
  clear frW
  clear Js0'''
  clear Js1''
  clear Js2'
  refine ⟨⟨hssssdssss.cellAt 0 rfl 0 rfl, hssssdssss.cellAt 0 rfl 1 rfl, hssssdssss.cellAt 1 rfl 0 rfl, hssssdssss.cellAt 1 rfl 1 rfl⟩, ?_⟩
  (repeat (first | (apply el_skip rfl (by rfl); try simp only [Act.put, List.setIfInBounds_toArray, List.set_cons_zero, List.set_cons_succ]) | (apply el_float rfl (by rfl); (· (intro w' hS; go_simp <;> with_reducible rfl)); (try simp only [Act.put, List.setIfInBounds_toArray, List.set_cons_zero, List.set_cons_succ]))))
  refine el_nil (NoPanic.normal ?_)
  clear qa00 qa01 qa10 qa11
  have qa00 := hssssdssss.cellAt 0 rfl 0 rfl
  have qa01 := hssssdssss.cellAt 0 rfl 1 rfl
  have qa10 := hssssdssss.cellAt 1 rfl 0 rfl
  have qa11 := hssssdssss.cellAt 1 rfl 1 rfl
  go_wp2_with fail
  refine (toTemplate_b (x00, x01) _ _ _ (Rd.mono H0.out hssssdssss.bel) gc0).mono ?_
  rintro e w8 ⟨ux00, ux01, rfl, frx0, hb8⟩
  have JW' := Lib.hid (Iv.mono JW.out hb8)
  clear JW
  have hssssdsssss := hssssdssss.step hb8
  have hz8 : w7.heap.size ≤ w8.heap.size := by simpa using hb8.size
  have Jx0 := Lib.hid (Fresh.iv frx0)
  have zx00 := rd_cons rfl (Iv.rd Jx0.out)
  obtain ⟨rfl, _⟩ := rd_i1 zx00.1
  obtain ⟨ax01, cx01, rfl, _⟩ := rd_list zx00.2
  clear zx00
  clear frx0
  clear qa00 qa01 qa10 qa11
  have qa00 := hssssdsssss.cellAt 0 rfl 0 rfl
  have qa01 := hssssdsssss.cellAt 0 rfl 1 rfl
  have qa10 := hssssdsssss.cellAt 1 rfl 0 rfl
  have qa11 := hssssdsssss.cellAt 1 rfl 1 rfl
  have hssssdsssssa := hssssdsssss.alloc #[.int .i64 x00, .slice ax01 x01.length cx01] 36 rfl
  have JW'' := Lib.hid (Iv.mono JW'.out (belowA _ (.cells #[.int .i64 x00, .slice ax01 x01.length cx01] 36)))
  clear JW'
  have Jx0' := Lib.hid (Iv.mono Jx0.out (belowA _ (.cells #[.int .i64 x00, .slice ax01 x01.length cx01] 36)))
  clear Jx0
  clear qa00 qa01 qa10 qa11
  have qa00 := hssssdsssssa.cellAt 0 rfl 0 rfl
  have qa01 := hssssdsssssa.cellAt 0 rfl 1 rfl
  have qa10 := hssssdsssssa.cellAt 1 rfl 0 rfl
  have qa11 := hssssdsssssa.cellAt 1 rfl 1 rfl
  have qx00 := hssssdsssssa.cellAt 2 rfl 0 rfl
  have qx01 := hssssdsssssa.cellAt 2 rfl 1 rfl
  go_wp2_with fail
  refine (toInstance_b (x10, x11) _ _ _ (Rd.mono H1.out hssssdsssssa.bel) gc1).mono ?_
  rintro e w9 ⟨ux10, ux11, rfl, frx1, hb9⟩
  have JW''' := Lib.hid (Iv.mono JW''.out hb9)
  clear JW''
  have Jx0'' := Lib.hid (Iv.mono Jx0'.out hb9)
  clear Jx0'
  have hssssdsssssas := hssssdsssssa.step hb9
  have hz9 : w8.heap.size + 1 ≤ w9.heap.size := by simpa using hb9.size
  have Jx1 := Lib.hid (Fresh.iv frx1)
  have zx10 := rd_cons rfl (Iv.rd Jx1.out)
  obtain ⟨rfl, _⟩ := rd_i1 zx10.1
  obtain ⟨ax11, cx11, rfl, _⟩ := rd_list zx10.2
  clear zx10
  clear frx1
  clear qa00 qa01 qa10 qa11 qx00 qx01
  have qa00 := hssssdsssssas.cellAt 0 rfl 0 rfl
  have qa01 := hssssdsssssas.cellAt 0 rfl 1 rfl
  have qa10 := hssssdsssssas.cellAt 1 rfl 0 rfl
  have qa11 := hssssdsssssas.cellAt 1 rfl 1 rfl
  have qx00 := hssssdsssssas.cellAt 2 rfl 0 rfl
  have qx01 := hssssdsssssas.cellAt 2 rfl 1 rfl
  have hssssdsssssasa := hssssdsssssas.alloc #[.int .i64 x10, .slice ax11 x11.length cx11] 40 rfl
  have JW'''' := Lib.hid (Iv.mono JW'''.out (belowA _ (.cells #[.int .i64 x10, .slice ax11 x11.length cx11] 40)))
  clear JW'''
  have Jx0''' := Lib.hid (Iv.mono Jx0''.out (belowA _ (.cells #[.int .i64 x10, .slice ax11 x11.length cx11] 40)))
  clear Jx0''
  have Jx1' := Lib.hid (Iv.mono Jx1.out (belowA _ (.cells #[.int .i64 x10, .slice ax11 x11.length cx11] 40)))
  clear Jx1
  clear qa00 qa01 qa10 qa11 qx00 qx01
  have qa00 := hssssdsssssasa.cellAt 0 rfl 0 rfl
  have qa01 := hssssdsssssasa.cellAt 0 rfl 1 rfl
  have qa10 := hssssdsssssasa.cellAt 1 rfl 0 rfl
  have qa11 := hssssdsssssasa.cellAt 1 rfl 1 rfl
  have qx00 := hssssdsssssasa.cellAt 2 rfl 0 rfl
  have qx01 := hssssdsssssasa.cellAt 2 rfl 1 rfl
  have qx10 := hssssdsssssasa.cellAt 3 rfl 0 rfl
  have qx11 := hssssdsssssasa.cellAt 3 rfl 1 rfl
  go_wp2_with fail
  refine (toInt64SS_b x2 _ _ (Rd.mono H2.out hssssdsssssasa.bel) gc2).mono ?_
  rintro e w10 ⟨ux20, rfl, frx2, hb10⟩
  have JW''''' := Lib.hid (Iv.mono JW''''.out hb10)
  clear JW''''
  have Jx0'''' := Lib.hid (Iv.mono Jx0'''.out hb10)
  clear Jx0'''
  have Jx1'' := Lib.hid (Iv.mono Jx1'.out hb10)
  clear Jx1'
  have hssssdsssssasas := hssssdsssssasa.step hb10
  have hz10 : w9.heap.size + 1 ≤ w10.heap.size := by simpa using hb10.size
  have Jx2 := Lib.hid (Fresh.iv frx2)
  obtain ⟨ax2, cx2, rfl, _⟩ := rd_list (Iv.rd Jx2.out)
  clear frx2
  clear qa00 qa01 qa10 qa11 qx00 qx01 qx10 qx11
  have qa00 := hssssdsssssasas.cellAt 0 rfl 0 rfl
  have qa01 := hssssdsssssasas.cellAt 0 rfl 1 rfl
  have qa10 := hssssdsssssasas.cellAt 1 rfl 0 rfl
  have qa11 := hssssdsssssasas.cellAt 1 rfl 1 rfl
  have qx00 := hssssdsssssasas.cellAt 2 rfl 0 rfl
  have qx01 := hssssdsssssasas.cellAt 2 rfl 1 rfl
  have qx10 := hssssdsssssasas.cellAt 3 rfl 0 rfl
  have qx11 := hssssdsssssasas.cellAt 3 rfl 1 rfl
  go_wp2_with fail
  refine (CI.out _ _ _ _ _ _ (Iv.rd Jx0''''.out) (Iv.rd Jx1''.out) (Iv.rd Jx2.out) (cost_lens gc2)).mono ?_
  rintro e w11 ⟨uG0, uG1, rfl, frG, hb11⟩
  have JW'''''' := Lib.hid (Iv.mono JW'''''.out hb11)
  clear JW'''''
  have Jx0''''' := Lib.hid (Iv.mono Jx0''''.out hb11)
  clear Jx0''''
  have Jx1''' := Lib.hid (Iv.mono Jx1''.out hb11)
  clear Jx1''
  have Jx2' := Lib.hid (Iv.mono Jx2.out hb11)
  clear Jx2
  have hssssdsssssasass := hssssdsssssasas.step hb11
  have hz11 : w10.heap.size ≤ w11.heap.size := by simpa using hb11.size
  have JG := Lib.hid (Fresh.iv frG)
  have zG0 := rd_cons rfl (Iv.rd JG.out)
  obtain ⟨aG0, cG0, rfl, _⟩ := rd_list zG0.1
  obtain ⟨aG1, cG1, rfl, _⟩ := rd_list zG0.2
  clear zG0
  clear frG
  clear qa00 qa01 qa10 qa11 qx00 qx01 qx10 qx11
  have qa00 := hssssdsssssasass.cellAt 0 rfl 0 rfl
  have qa01 := hssssdsssssasass.cellAt 0 rfl 1 rfl
  have qa10 := hssssdsssssasass.cellAt 1 rfl 0 rfl
  have qa11 := hssssdsssssasass.cellAt 1 rfl 1 rfl
  have qx00 := hssssdsssssasass.cellAt 2 rfl 0 rfl
  have qx01 := hssssdsssssasass.cellAt 2 rfl 1 rfl
  have qx10 := hssssdsssssasass.cellAt 3 rfl 0 rfl
  have qx11 := hssssdsssssasass.cellAt 3 rfl 1 rfl
  go_wp2_with fail
  refine (eqInt64SS_s r0 _ _ _ (rd_cons rfl (Iv.rd JG.out)).1 (rd_cons rfl (Iv.rd JW''''''.out)).1).mono ?_
  rintro e w12 ⟨rfl, hb12⟩
  have JW''''''' := Lib.hid (Iv.mono JW''''''.out hb12)
  clear JW''''''
  have Jx0'''''' := Lib.hid (Iv.mono Jx0'''''.out hb12)
  clear Jx0'''''
  have Jx1'''' := Lib.hid (Iv.mono Jx1'''.out hb12)
  clear Jx1'''
  have Jx2'' := Lib.hid (Iv.mono Jx2'.out hb12)
  clear Jx2'
  have JG' := Lib.hid (Iv.mono JG.out hb12)
  clear JG
  have hssssdsssssasasss := hssssdsssssasass.step hb12
  have hz12 : w11.heap.size ≤ w12.heap.size := by simpa using hb12.size
  clear qa00 qa01 qa10 qa11 qx00 qx01 qx10 qx11
  have qa00 := hssssdsssssasasss.cellAt 0 rfl 0 rfl
  have qa01 := hssssdsssssasasss.cellAt 0 rfl 1 rfl
  have qa10 := hssssdsssssasasss.cellAt 1 rfl 0 rfl
  have qa11 := hssssdsssssasasss.cellAt 1 rfl 1 rfl
  have qx00 := hssssdsssssasasss.cellAt 2 rfl 0 rfl
  have qx01 := hssssdsssssasasss.cellAt 2 rfl 1 rfl
  have qx10 := hssssdsssssasasss.cellAt 3 rfl 0 rfl
  have qx11 := hssssdsssssasasss.cellAt 3 rfl 1 rfl
  go_wp2_with fail
  refine (eqArcStepS_s r1 _ _ _ (rd_cons rfl (Iv.rd JG'.out)).2 (rd_cons rfl (Iv.rd JW'''''''.out)).2).mono ?_
  rintro e w13 ⟨rfl, hb13⟩
  have JW'''''''' := Lib.hid (Iv.mono JW'''''''.out hb13)
  clear JW'''''''
  have Jx0''''''' := Lib.hid (Iv.mono Jx0''''''.out hb13)
  clear Jx0''''''
  have Jx1''''' := Lib.hid (Iv.mono Jx1''''.out hb13)
  clear Jx1''''
  have Jx2''' := Lib.hid (Iv.mono Jx2''.out hb13)
  clear Jx2''
  have JG'' := Lib.hid (Iv.mono JG'.out hb13)
  clear JG'
  have hssssdsssssasassss := hssssdsssssasasss.step hb13
  have hz13 : w12.heap.size ≤ w13.heap.size := by simpa using hb13.size
  clear qa00 qa01 qa10 qa11 qx00 qx01 qx10 qx11
  have qa00 := hssssdsssssasassss.cellAt 0 rfl 0 rfl
  have qa01 := hssssdsssssasassss.cellAt 0 rfl 1 rfl
  have qa10 := hssssdsssssasassss.cellAt 1 rfl 0 rfl
  have qa11 := hssssdsssssasassss.cellAt 1 rfl 1 rfl
  have qx00 := hssssdsssssasassss.cellAt 2 rfl 0 rfl
  have qx01 := hssssdsssssasassss.cellAt 2 rfl 1 rfl
  have qx10 := hssssdsssssasassss.cellAt 3 rfl 0 rfl
  have qx11 := hssssdsssssasassss.cellAt 3 rfl 1 rfl
  have hcode : (code != code) = false := by simp
  go_wp2_with fail
  refine wp_region_noPanic (wp_region_el (fun w' => w'.cell? ⟨w.heap.size, 0, none⟩ = some (.int .i64 x00) ∧ w'.cell? ⟨w.heap.size, 1, none⟩ = some (.slice a01 x01.length c01) ∧ w'.cell? ⟨w.heap.size + 1, 0, none⟩ = some (.int .i64 x10) ∧ w'.cell? ⟨w.heap.size + 1, 1, none⟩ = some (.slice a11 x11.length c11) ∧ w'.cell? ⟨w8.heap.size, 0, none⟩ = some (.int .i64 x00) ∧ w'.cell? ⟨w8.heap.size, 1, none⟩ = some (.slice ax01 x01.length cx01) ∧ w'.cell? ⟨w9.heap.size, 0, none⟩ = some (.int .i64 x10) ∧ w'.cell? ⟨w9.heap.size, 1, none⟩ = some (.slice ax11 x11.length cx11)) [(0, 0), (1, 0), (2, 1), (3, 1), (4, 0)] (by kernel_rfl) (by kernel_rfl) (by kernel_rfl) rfl ?_ (fun _ _ _ _ _ h => h) ?_)
  · exact ⟨(hssssdsssssasassss.drew).cellAt 0 rfl 0 rfl, (hssssdsssssasassss.drew).cellAt 0 rfl 1 rfl, (hssssdsssssasassss.drew).cellAt 1 rfl 0 rfl, (hssssdsssssasassss.drew).cellAt 1 rfl 1 rfl, (hssssdsssssasassss.drew).cellAt 2 rfl 0 rfl, (hssssdsssssasassss.drew).cellAt 2 rfl 1 rfl, (hssssdsssssasassss.drew).cellAt 3 rfl 0 rfl, (hssssdsssssasassss.drew).cellAt 3 rfl 1 rfl⟩
  have JW''''''''' := Lib.hid (Iv.mono JW''''''''.out (belowD _))
  clear JW''''''''
  have Jx0'''''''' := Lib.hid (Iv.mono Jx0'''''''.out (belowD _))
  clear Jx0'''''''
  have Jx1'''''' := Lib.hid (Iv.mono Jx1'''''.out (belowD _))
  clear Jx1'''''
  have Jx2'''' := Lib.hid (Iv.mono Jx2'''.out (belowD _))
  clear Jx2'''
  have JG''' := Lib.hid (Iv.mono JG''.out (belowD _))
  clear JG''
  have hssssdsssssasassssd := hssssdsssssasassss.drew
  (repeat (first | (apply el_skip rfl (by rfl); try simp only [Act.put, List.setIfInBounds_toArray, List.set_cons_zero, List.set_cons_succ]) | (apply el_float rfl (by rfl); (· (intro w' hS; go_simp <;> with_reducible rfl)); (try simp only [Act.put, List.setIfInBounds_toArray, List.set_cons_zero, List.set_cons_succ]))))
  refine el_hard rfl (by rfl) (fun K hK => ?_)
  go_wp2_with (go_at_call 14; refine (toTemplate_b (x00, x01) _ _ _ (Rd.mono H0.out hssssdsssssasassssd.bel) gc0).mono ?_; rintro e w14 ⟨uy00, uy01, rfl, fry0, hb14⟩)
  have JW'''''''''' := Lib.hid (Iv.mono JW'''''''''.out hb14)
  clear JW'''''''''
  have Jx0''''''''' := Lib.hid (Iv.mono Jx0''''''''.out hb14)
  clear Jx0''''''''
  have Jx1''''''' := Lib.hid (Iv.mono Jx1''''''.out hb14)
  clear Jx1''''''
  have Jx2''''' := Lib.hid (Iv.mono Jx2''''.out hb14)
  clear Jx2''''
  have JG'''' := Lib.hid (Iv.mono JG'''.out hb14)
  clear JG'''
  have hssssdsssssasassssds := hssssdsssssasassssd.step hb14
  have hz14 : w13.heap.size ≤ w14.heap.size := by simpa using hb14.size
  have Jy0 := Lib.hid (Fresh.iv fry0)
  have zy00 := rd_cons rfl (Iv.rd Jy0.out)
  obtain ⟨rfl, _⟩ := rd_i1 zy00.1
  obtain ⟨ay01, cy01, rfl, _⟩ := rd_list zy00.2
  clear zy00
  clear fry0
  refine ⟨⟨hssssdsssssasassssds.cellAt 0 rfl 0 rfl, hssssdsssssasassssds.cellAt 0 rfl 1 rfl, hssssdsssssasassssds.cellAt 1 rfl 0 rfl, hssssdsssssasassssds.cellAt 1 rfl 1 rfl, hssssdsssssasassssds.cellAt 2 rfl 0 rfl, hssssdsssssasassssds.cellAt 2 rfl 1 rfl, hssssdsssssasassssds.cellAt 3 rfl 0 rfl, hssssdsssssasassssds.cellAt 3 rfl 1 rfl⟩, ?_⟩
  (repeat (first | (apply el_skip rfl (by rfl); try simp only [Act.put, List.setIfInBounds_toArray, List.set_cons_zero, List.set_cons_succ]) | (apply el_float rfl (by rfl); (· (intro w' hS; go_simp <;> with_reducible rfl)); (try simp only [Act.put, List.setIfInBounds_toArray, List.set_cons_zero, List.set_cons_succ]))))
  refine el_hard rfl (by rfl) (fun K hK => ?_)
  go_wp2_with (go_at_call 19; refine (eqTemplate_s (x00, x01) _ _ _ _ _ (Iv.rd Jx0'''''''''.out) (Iv.rd Jy0.out)).mono ?_; rintro e w15 ⟨rfl, hb15⟩)
  clear Jy0
  have JW''''''''''' := Lib.hid (Iv.mono JW''''''''''.out hb15)
  clear JW''''''''''
  have Jx0'''''''''' := Lib.hid (Iv.mono Jx0'''''''''.out hb15)
  clear Jx0'''''''''
  have Jx1'''''''' := Lib.hid (Iv.mono Jx1'''''''.out hb15)
  clear Jx1'''''''
  have Jx2'''''' := Lib.hid (Iv.mono Jx2'''''.out hb15)
  clear Jx2'''''
  have JG''''' := Lib.hid (Iv.mono JG''''.out hb15)
  clear JG''''
  have hssssdsssssasassssdss := hssssdsssssasassssds.step hb15
  have hz15 : w14.heap.size ≤ w15.heap.size := by simpa using hb15.size
  refine ⟨⟨hssssdsssssasassssdss.cellAt 0 rfl 0 rfl, hssssdsssssasassssdss.cellAt 0 rfl 1 rfl, hssssdsssssasassssdss.cellAt 1 rfl 0 rfl, hssssdsssssasassssdss.cellAt 1 rfl 1 rfl, hssssdsssssasassssdss.cellAt 2 rfl 0 rfl, hssssdsssssasassssdss.cellAt 2 rfl 1 rfl, hssssdsssssasassssdss.cellAt 3 rfl 0 rfl, hssssdsssssasassssdss.cellAt 3 rfl 1 rfl⟩, ?_⟩
  (repeat (first | (apply el_skip rfl (by rfl); try simp only [Act.put, List.setIfInBounds_toArray, List.set_cons_zero, List.set_cons_succ]) | (apply el_float rfl (by rfl); (· (intro w' hS; go_simp <;> with_reducible rfl)); (try simp only [Act.put, List.setIfInBounds_toArray, List.set_cons_zero, List.set_cons_succ]))))
  refine el_nil (NoPanic.normal ?_)
  clear qa00 qa01 qa10 qa11 qx00 qx01 qx10 qx11
  have qa00 := hssssdsssssasassssdss.cellAt 0 rfl 0 rfl
  have qa01 := hssssdsssssasassssdss.cellAt 0 rfl 1 rfl
  have qa10 := hssssdsssssasassssdss.cellAt 1 rfl 0 rfl
  have qa11 := hssssdsssssasassssdss.cellAt 1 rfl 1 rfl
  have qx00 := hssssdsssssasassssdss.cellAt 2 rfl 0 rfl
  have qx01 := hssssdsssssasassssdss.cellAt 2 rfl 1 rfl
  have qx10 := hssssdsssssasassssdss.cellAt 3 rfl 0 rfl
  have qx11 := hssssdsssssasassssdss.cellAt 3 rfl 1 rfl
  go_wp2_with fail
  refine wp_region_noPanic (wp_region_el (fun w' => w'.cell? ⟨w.heap.size, 0, none⟩ = some (.int .i64 x00) ∧ w'.cell? ⟨w.heap.size, 1, none⟩ = some (.slice a01 x01.length c01) ∧ w'.cell? ⟨w.heap.size + 1, 0, none⟩ = some (.int .i64 x10) ∧ w'.cell? ⟨w.heap.size + 1, 1, none⟩ = some (.slice a11 x11.length c11) ∧ w'.cell? ⟨w8.heap.size, 0, none⟩ = some (.int .i64 x00) ∧ w'.cell? ⟨w8.heap.size, 1, none⟩ = some (.slice ax01 x01.length cx01) ∧ w'.cell? ⟨w9.heap.size, 0, none⟩ = some (.int .i64 x10) ∧ w'.cell? ⟨w9.heap.size, 1, none⟩ = some (.slice ax11 x11.length cx11)) [(0, 0), (1, 0), (2, 1), (3, 1), (4, 0)] (by kernel_rfl) (by kernel_rfl) (by kernel_rfl) rfl ?_ (fun _ _ _ _ _ h => h) ?_)
  · exact ⟨(hssssdsssssasassssdss.drew).cellAt 0 rfl 0 rfl, (hssssdsssssasassssdss.drew).cellAt 0 rfl 1 rfl, (hssssdsssssasassssdss.drew).cellAt 1 rfl 0 rfl, (hssssdsssssasassssdss.drew).cellAt 1 rfl 1 rfl, (hssssdsssssasassssdss.drew).cellAt 2 rfl 0 rfl, (hssssdsssssasassssdss.drew).cellAt 2 rfl 1 rfl, (hssssdsssssasassssdss.drew).cellAt 3 rfl 0 rfl, (hssssdsssssasassssdss.drew).cellAt 3 rfl 1 rfl⟩
  have JW'''''''''''' := Lib.hid (Iv.mono JW'''''''''''.out (belowD _))
  clear JW'''''''''''
  have Jx0''''''''''' := Lib.hid (Iv.mono Jx0''''''''''.out (belowD _))
  clear Jx0''''''''''
  have Jx1''''''''' := Lib.hid (Iv.mono Jx1''''''''.out (belowD _))
  clear Jx1''''''''
  have Jx2''''''' := Lib.hid (Iv.mono Jx2''''''.out (belowD _))
  clear Jx2''''''
  have JG'''''' := Lib.hid (Iv.mono JG'''''.out (belowD _))
  clear JG'''''
  have hssssdsssssasassssdssd := hssssdsssssasassssdss.drew
  (repeat (first | (apply el_skip rfl (by rfl); try simp only [Act.put, List.setIfInBounds_toArray, List.set_cons_zero, List.set_cons_succ]) | (apply el_float rfl (by rfl); (· (intro w' hS; go_simp <;> with_reducible rfl)); (try simp only [Act.put, List.setIfInBounds_toArray, List.set_cons_zero, List.set_cons_succ]))))
  refine el_hard rfl (by rfl) (fun K hK => ?_)
  go_wp2_with (go_at_call 15; refine (toInstance_b (x10, x11) _ _ _ (Rd.mono H1.out hssssdsssssasassssdssd.bel) gc1).mono ?_; rintro e w16 ⟨uy10, uy11, rfl, fry1, hb16⟩)
  have JW''''''''''''' := Lib.hid (Iv.mono JW''''''''''''.out hb16)
  clear JW''''''''''''
  have Jx0'''''''''''' := Lib.hid (Iv.mono Jx0'''''''''''.out hb16)
  clear Jx0'''''''''''
  have Jx1'''''''''' := Lib.hid (Iv.mono Jx1'''''''''.out hb16)
  clear Jx1'''''''''
  have Jx2'''''''' := Lib.hid (Iv.mono Jx2'''''''.out hb16)
  clear Jx2'''''''
  have JG''''''' := Lib.hid (Iv.mono JG''''''.out hb16)
  clear JG''''''
  have hssssdsssssasassssdssds := hssssdsssssasassssdssd.step hb16
  have hz16 : w15.heap.size ≤ w16.heap.size := by simpa using hb16.size
  have Jy1 := Lib.hid (Fresh.iv fry1)
  have zy10 := rd_cons rfl (Iv.rd Jy1.out)
  obtain ⟨rfl, _⟩ := rd_i1 zy10.1
  obtain ⟨ay11, cy11, rfl, _⟩ := rd_list zy10.2
  clear zy10
  clear fry1
  refine ⟨⟨hssssdsssssasassssdssds.cellAt 0 rfl 0 rfl, hssssdsssssasassssdssds.cellAt 0 rfl 1 rfl, hssssdsssssasassssdssds.cellAt 1 rfl 0 rfl, hssssdsssssasassssdssds.cellAt 1 rfl 1 rfl, hssssdsssssasassssdssds.cellAt 2 rfl 0 rfl, hssssdsssssasassssdssds.cellAt 2 rfl 1 rfl, hssssdsssssasassssdssds.cellAt 3 rfl 0 rfl, hssssdsssssasassssdssds.cellAt 3 rfl 1 rfl⟩, ?_⟩
  (repeat (first | (apply el_skip rfl (by rfl); try simp only [Act.put, List.setIfInBounds_toArray, List.set_cons_zero, List.set_cons_succ]) | (apply el_float rfl (by rfl); (· (intro w' hS; go_simp <;> with_reducible rfl)); (try simp only [Act.put, List.setIfInBounds_toArray, List.set_cons_zero, List.set_cons_succ]))))
  refine el_hard rfl (by rfl) (fun K hK => ?_)
  go_wp2_with (go_at_call 20; refine (eqInstance_s (x10, x11) _ _ _ _ _ (Iv.rd Jx1''''''''''.out) (Iv.rd Jy1.out)).mono ?_; rintro e w17 ⟨rfl, hb17⟩)
  clear Jy1
  have JW'''''''''''''' := Lib.hid (Iv.mono JW'''''''''''''.out hb17)
  clear JW'''''''''''''
  have Jx0''''''''''''' := Lib.hid (Iv.mono Jx0''''''''''''.out hb17)
  clear Jx0''''''''''''
  have Jx1''''''''''' := Lib.hid (Iv.mono Jx1''''''''''.out hb17)
  clear Jx1''''''''''
  have Jx2''''''''' := Lib.hid (Iv.mono Jx2''''''''.out hb17)
  clear Jx2''''''''
  have JG'''''''' := Lib.hid (Iv.mono JG'''''''.out hb17)
  clear JG'''''''
  have hssssdsssssasassssdssdss := hssssdsssssasassssdssds.step hb17
  have hz17 : w16.heap.size ≤ w17.heap.size := by simpa using hb17.size
  refine ⟨⟨hssssdsssssasassssdssdss.cellAt 0 rfl 0 rfl, hssssdsssssasassssdssdss.cellAt 0 rfl 1 rfl, hssssdsssssasassssdssdss.cellAt 1 rfl 0 rfl, hssssdsssssasassssdssdss.cellAt 1 rfl 1 rfl, hssssdsssssasassssdssdss.cellAt 2 rfl 0 rfl, hssssdsssssasassssdssdss.cellAt 2 rfl 1 rfl, hssssdsssssasassssdssdss.cellAt 3 rfl 0 rfl, hssssdsssssasassssdssdss.cellAt 3 rfl 1 rfl⟩, ?_⟩
  (repeat (first | (apply el_skip rfl (by rfl); try simp only [Act.put, List.setIfInBounds_toArray, List.set_cons_zero, List.set_cons_succ]) | (apply el_float rfl (by rfl); (· (intro w' hS; go_simp <;> with_reducible rfl)); (try simp only [Act.put, List.setIfInBounds_toArray, List.set_cons_zero, List.set_cons_succ]))))
  refine el_nil (NoPanic.normal ?_)
  clear qa00 qa01 qa10 qa11 qx00 qx01 qx10 qx11
  have qa00 := hssssdsssssasassssdssdss.cellAt 0 rfl 0 rfl
  have qa01 := hssssdsssssasassssdssdss.cellAt 0 rfl 1 rfl
  have qa10 := hssssdsssssasassssdssdss.cellAt 1 rfl 0 rfl
  have qa11 := hssssdsssssasassssdssdss.cellAt 1 rfl 1 rfl
  have qx00 := hssssdsssssasassssdssdss.cellAt 2 rfl 0 rfl
  have qx01 := hssssdsssssasassssdssdss.cellAt 2 rfl 1 rfl
  have qx10 := hssssdsssssasassssdssdss.cellAt 3 rfl 0 rfl
  have qx11 := hssssdsssssasassssdssdss.cellAt 3 rfl 1 rfl
  go_wp2_with fail
  refine (toInt64SS_b x2 _ _ (Rd.mono H2.out hssssdsssssasassssdssdss.bel) gc2).mono ?_
  rintro e w18 ⟨uy20, rfl, fry2, hb18⟩
  have JW''''''''''''''' := Lib.hid (Iv.mono JW''''''''''''''.out hb18)
  clear JW''''''''''''''
  have Jx0'''''''''''''' := Lib.hid (Iv.mono Jx0'''''''''''''.out hb18)
  clear Jx0'''''''''''''
  have Jx1'''''''''''' := Lib.hid (Iv.mono Jx1'''''''''''.out hb18)
  clear Jx1'''''''''''
  have Jx2'''''''''' := Lib.hid (Iv.mono Jx2'''''''''.out hb18)
  clear Jx2'''''''''
  have JG''''''''' := Lib.hid (Iv.mono JG''''''''.out hb18)
  clear JG''''''''
  have hssssdsssssasassssdssdsss := hssssdsssssasassssdssdss.step hb18
  have hz18 : w17.heap.size ≤ w18.heap.size := by simpa using hb18.size
  have Jy2 := Lib.hid (Fresh.iv fry2)
  obtain ⟨ay2, cy2, rfl, _⟩ := rd_list (Iv.rd Jy2.out)
  clear fry2
  clear qa00 qa01 qa10 qa11 qx00 qx01 qx10 qx11
  have qa00 := hssssdsssssasassssdssdsss.cellAt 0 rfl 0 rfl
  have qa01 := hssssdsssssasassssdssdsss.cellAt 0 rfl 1 rfl
  have qa10 := hssssdsssssasassssdssdsss.cellAt 1 rfl 0 rfl
  have qa11 := hssssdsssssasassssdssdsss.cellAt 1 rfl 1 rfl
  have qx00 := hssssdsssssasassssdssdsss.cellAt 2 rfl 0 rfl
  have qx01 := hssssdsssssasassssdssdsss.cellAt 2 rfl 1 rfl
  have qx10 := hssssdsssssasassssdssdsss.cellAt 3 rfl 0 rfl
  have qx11 := hssssdsssssasassssdssdsss.cellAt 3 rfl 1 rfl
  go_wp2_with fail
  refine (eqInt64SS_s x2 _ _ _ (Iv.rd Jx2''''''''''.out) (Iv.rd Jy2.out)).mono ?_
  rintro e w19 ⟨rfl, hb19⟩
  clear Jy2
  have JW'''''''''''''''' := Lib.hid (Iv.mono JW'''''''''''''''.out hb19)
  clear JW'''''''''''''''
  have Jx0''''''''''''''' := Lib.hid (Iv.mono Jx0''''''''''''''.out hb19)
  clear Jx0''''''''''''''
  have Jx1''''''''''''' := Lib.hid (Iv.mono Jx1''''''''''''.out hb19)
  clear Jx1''''''''''''
  have Jx2''''''''''' := Lib.hid (Iv.mono Jx2''''''''''.out hb19)
  clear Jx2''''''''''
  have JG'''''''''' := Lib.hid (Iv.mono JG'''''''''.out hb19)
  clear JG'''''''''
  have hssssdsssssasassssdssdssss := hssssdsssssasassssdssdsss.step hb19
  have hz19 : w18.heap.size ≤ w19.heap.size := by simpa using hb19.size
  clear qa00 qa01 qa10 qa11 qx00 qx01 qx10 qx11
  have qa00 := hssssdsssssasassssdssdssss.cellAt 0 rfl 0 rfl
  have qa01 := hssssdsssssasassssdssdssss.cellAt 0 rfl 1 rfl
  have qa10 := hssssdsssssasassssdssdssss.cellAt 1 rfl 0 rfl
  have qa11 := hssssdsssssasassssdssdssss.cellAt 1 rfl 1 rfl
  have qx00 := hssssdsssssasassssdssdssss.cellAt 2 rfl 0 rfl
  have qx01 := hssssdsssssasassssdssdssss.cellAt 2 rfl 1 rfl
  have qx10 := hssssdsssssasassssdssdssss.cellAt 3 rfl 0 rfl
  have qx11 := hssssdsssssasassssdssdssss.cellAt 3 rfl 1 rfl
  have mcb0 := mcb_Template (x00, x01)
  obtain ⟨psx0, hox0, hnx0, hpx0⟩ := Jx0'''''''''''''''.out
  have HOx0 := Lib.hid hox0
  clear hox0
  clear Jx0'''''''''''''''
  go_wp2_with fail
  refine (markTemplate_g (x00, x01) _ _ psx0 1 _ HOx0.out hnx0 (by omega) (by omega)).mono ?_
  rintro e w20 ⟨yx0, mx0, rfl, l0x0, l1x0, hyx0, hhx0, hbutx0⟩
  have HYx0 := Lib.hid hyx0
  have HHx0 := Lib.hid hhx0
  clear hyx0 hhx0 HOx0
  have hqx0 : ∀ k, k ∈ psx0 → w7.heap.size ≤ k ∧ k < w8.heap.size := fun k hk => by have := hpx0 k hk; simpa using this
  have JW''''''''''''''''' := Lib.hid (Iv.but JW''''''''''''''''.out hbutx0 (fun k hk => by have := hqx0 k hk; simp; omega))
  clear JW''''''''''''''''
  have Jx1'''''''''''''' := Lib.hid (Iv.but Jx1'''''''''''''.out hbutx0 (fun k hk => by have := hqx0 k hk; simp; omega))
  clear Jx1'''''''''''''
  have Jx2'''''''''''' := Lib.hid (Iv.but Jx2'''''''''''.out hbutx0 (fun k hk => by have := hqx0 k hk; simp; omega))
  clear Jx2'''''''''''
  have JG''''''''''' := Lib.hid (Iv.but JG''''''''''.out hbutx0 (fun k hk => by have := hqx0 k hk; simp; omega))
  clear JG''''''''''
  have hssssdsssssasassssdssdssssm := hssssdsssssasassssdssdssss.butIv hbutx0 (fun k hk => by have := hqx0 k hk; omega) (fun x hx hp => by
    have := hqx0 _ hp
    simp only [List.mem_append, List.mem_cons, List.mem_nil_iff, or_false, List.not_mem_nil, false_or, or_assoc] at hx
    rcases hx with rfl | rfl | rfl | rfl <;> (simp only at this; omega))
  have hz20 : w19.heap.size ≤ w20.heap.size := by simpa using hbutx0.size
  clear qa00 qa01 qa10 qa11 qx00 qx01 qx10 qx11
  have qa00 := hssssdsssssasassssdssdssssm.cellAt 0 rfl 0 rfl
  have qa01 := hssssdsssssasassssdssdssssm.cellAt 0 rfl 1 rfl
  have qa10 := hssssdsssssasassssdssdssssm.cellAt 1 rfl 0 rfl
  have qa11 := hssssdsssssasassssdssdssssm.cellAt 1 rfl 1 rfl
  have qx00 := hssssdsssssasassssdssdssssm.cellAt 2 rfl 0 rfl
  have qx01 := hssssdsssssasassssdssdssssm.cellAt 2 rfl 1 rfl
  have qx10 := hssssdsssssasassssdssdssssm.cellAt 3 rfl 0 rfl
  have qx11 := hssssdsssssasassssdssdssssm.cellAt 3 rfl 1 rfl
  have mcb1 := mcb_Instance (x10, x11)
  obtain ⟨psx1, hox1, hnx1, hpx1⟩ := Jx1''''''''''''''.out
  have HOx1 := Lib.hid hox1
  clear hox1
  clear Jx1''''''''''''''
  go_wp2_with fail
  refine (markInstance_g (x10, x11) _ _ psx1 mx0 _ HOx1.out hnx1 (by omega) (by omega)).mono ?_
  rintro e w21 ⟨yx1, mx1, rfl, l0x1, l1x1, hyx1, hhx1, hbutx1⟩
  have HYx1 := Lib.hid hyx1
  have HHx1 := Lib.hid hhx1
  clear hyx1 hhx1 HOx1
  have hqx1 : ∀ k, k ∈ psx1 → w8.heap.size + 1 ≤ k ∧ k < w9.heap.size := fun k hk => by have := hpx1 k hk; simpa using this
  have JW'''''''''''''''''' := Lib.hid (Iv.but JW'''''''''''''''''.out hbutx1 (fun k hk => by have := hqx1 k hk; simp; omega))
  clear JW'''''''''''''''''
  have Jx2''''''''''''' := Lib.hid (Iv.but Jx2''''''''''''.out hbutx1 (fun k hk => by have := hqx1 k hk; simp; omega))
  clear Jx2''''''''''''
  have JG'''''''''''' := Lib.hid (Iv.but JG'''''''''''.out hbutx1 (fun k hk => by have := hqx1 k hk; simp; omega))
  clear JG'''''''''''
  have hssssdsssssasassssdssdssssmm := hssssdsssssasassssdssdssssm.butIv hbutx1 (fun k hk => by have := hqx1 k hk; omega) (fun x hx hp => by
    have := hqx1 _ hp
    simp only [List.mem_append, List.mem_cons, List.mem_nil_iff, or_false, List.not_mem_nil, false_or, or_assoc] at hx
    rcases hx with rfl | rfl | rfl | rfl <;> (simp only at this; omega))
  have hz21 : w20.heap.size ≤ w21.heap.size := by simpa using hbutx1.size
  clear qa00 qa01 qa10 qa11 qx00 qx01 qx10 qx11
  have qa00 := hssssdsssssasassssdssdssssmm.cellAt 0 rfl 0 rfl
  have qa01 := hssssdsssssasassssdssdssssmm.cellAt 0 rfl 1 rfl
  have qa10 := hssssdsssssasassssdssdssssmm.cellAt 1 rfl 0 rfl
  have qa11 := hssssdsssssasassssdssdssssmm.cellAt 1 rfl 1 rfl
  have qx00 := hssssdsssssasassssdssdssssmm.cellAt 2 rfl 0 rfl
  have qx01 := hssssdsssssasassssdssdssssmm.cellAt 2 rfl 1 rfl
  have qx10 := hssssdsssssasassssdssdssssmm.cellAt 3 rfl 0 rfl
  have qx11 := hssssdsssssasassssdssdssssmm.cellAt 3 rfl 1 rfl
  have mcb2 := mcb_Int64SS x2
  obtain ⟨psx2, hox2, hnx2, hpx2⟩ := Jx2'''''''''''''.out
  have HOx2 := Lib.hid hox2
  clear hox2
  clear Jx2'''''''''''''
  go_wp2_with fail
  refine (markInt64SS_g x2 _ psx2 mx1 _ HOx2.out hnx2 (by omega) (by omega)).mono ?_
  rintro e w22 ⟨yx2, mx2, rfl, l0x2, l1x2, hyx2, hhx2, hbutx2⟩
  have HYx2 := Lib.hid hyx2
  have HHx2 := Lib.hid hhx2
  clear hyx2 hhx2 HOx2
  have hqx2 : ∀ k, k ∈ psx2 → w9.heap.size + 1 ≤ k ∧ k < w10.heap.size := fun k hk => by have := hpx2 k hk; simpa using this
  have JW''''''''''''''''''' := Lib.hid (Iv.but JW''''''''''''''''''.out hbutx2 (fun k hk => by have := hqx2 k hk; simp; omega))
  clear JW''''''''''''''''''
  have JG''''''''''''' := Lib.hid (Iv.but JG''''''''''''.out hbutx2 (fun k hk => by have := hqx2 k hk; simp; omega))
  clear JG''''''''''''
  have hssssdsssssasassssdssdssssmmm := hssssdsssssasassssdssdssssmm.butIv hbutx2 (fun k hk => by have := hqx2 k hk; omega) (fun x hx hp => by
    have := hqx2 _ hp
    simp only [List.mem_append, List.mem_cons, List.mem_nil_iff, or_false, List.not_mem_nil, false_or, or_assoc] at hx
    rcases hx with rfl | rfl | rfl | rfl <;> (simp only at this; omega))
  have hz22 : w21.heap.size ≤ w22.heap.size := by simpa using hbutx2.size
  clear qa00 qa01 qa10 qa11 qx00 qx01 qx10 qx11
  have qa00 := hssssdsssssasassssdssdssssmmm.cellAt 0 rfl 0 rfl
  have qa01 := hssssdsssssasassssdssdssssmmm.cellAt 0 rfl 1 rfl
  have qa10 := hssssdsssssasassssdssdssssmmm.cellAt 1 rfl 0 rfl
  have qa11 := hssssdsssssasassssdssdssssmmm.cellAt 1 rfl 1 rfl
  have qx00 := hssssdsssssasassssdssdssssmmm.cellAt 2 rfl 0 rfl
  have qx01 := hssssdsssssasassssdssdssssmmm.cellAt 2 rfl 1 rfl
  have qx10 := hssssdsssssasassssdssdssssmmm.cellAt 3 rfl 0 rfl
  have qx11 := hssssdsssssasassssdssdssssmmm.cellAt 3 rfl 1 rfl
  go_wp2_with fail
  refine (eqInt64SS_s r0 _ _ _ (rd_cons rfl (Iv.rd JG'''''''''''''.out)).1 (rd_cons rfl (Iv.rd JW'''''''''''''''''''.out)).1).mono ?_
  rintro e w23 ⟨rfl, hb23⟩
  have JW'''''''''''''''''''' := Lib.hid (Iv.mono JW'''''''''''''''''''.out hb23)
  clear JW'''''''''''''''''''
  have JG'''''''''''''' := Lib.hid (Iv.mono JG'''''''''''''.out hb23)
  clear JG'''''''''''''
  have hssssdsssssasassssdssdssssmmms := hssssdsssssasassssdssdssssmmm.step hb23
  have hz23 : w22.heap.size ≤ w23.heap.size := by simpa using hb23.size
  clear qa00 qa01 qa10 qa11 qx00 qx01 qx10 qx11
  have qa00 := hssssdsssssasassssdssdssssmmms.cellAt 0 rfl 0 rfl
  have qa01 := hssssdsssssasassssdssdssssmmms.cellAt 0 rfl 1 rfl
  have qa10 := hssssdsssssasassssdssdssssmmms.cellAt 1 rfl 0 rfl
  have qa11 := hssssdsssssasassssdssdssssmmms.cellAt 1 rfl 1 rfl
  have qx00 := hssssdsssssasassssdssdssssmmms.cellAt 2 rfl 0 rfl
  have qx01 := hssssdsssssasassssdssdssssmmms.cellAt 2 rfl 1 rfl
  have qx10 := hssssdsssssasassssdssdssssmmms.cellAt 3 rfl 0 rfl
  have qx11 := hssssdsssssasassssdssdssssmmms.cellAt 3 rfl 1 rfl
  go_wp2_with fail
  refine (eqArcStepS_s r1 _ _ _ (rd_cons rfl (Iv.rd JG''''''''''''''.out)).2 (rd_cons rfl (Iv.rd JW''''''''''''''''''''.out)).2).mono ?_
  rintro e w24 ⟨rfl, hb24⟩
  have JW''''''''''''''''''''' := Lib.hid (Iv.mono JW''''''''''''''''''''.out hb24)
  clear JW''''''''''''''''''''
  have JG''''''''''''''' := Lib.hid (Iv.mono JG''''''''''''''.out hb24)
  clear JG''''''''''''''
  have hssssdsssssasassssdssdssssmmmss := hssssdsssssasassssdssdssssmmms.step hb24
  have hz24 : w23.heap.size ≤ w24.heap.size := by simpa using hb24.size
  clear qa00 qa01 qa10 qa11 qx00 qx01 qx10 qx11
  have qa00 := hssssdsssssasassssdssdssssmmmss.cellAt 0 rfl 0 rfl
  have qa01 := hssssdsssssasassssdssdssssmmmss.cellAt 0 rfl 1 rfl
  have qa10 := hssssdsssssasassssdssdssssmmmss.cellAt 1 rfl 0 rfl
  have qa11 := hssssdsssssasassssdssdssssmmmss.cellAt 1 rfl 1 rfl
  have qx00 := hssssdsssssasassssdssdssssmmmss.cellAt 2 rfl 0 rfl
  have qx01 := hssssdsssssasassssdssdssssmmmss.cellAt 2 rfl 1 rfl
  have qx10 := hssssdsssssasassssdssdssssmmmss.cellAt 3 rfl 0 rfl
  have qx11 := hssssdsssssasassssdssdssssmmmss.cellAt 3 rfl 1 rfl
  obtain ⟨psG, hoG, hnG, hpG⟩ := JG'''''''''''''''.out
  obtain ⟨pG0, pG1, hpe, ho0, ho1⟩ := own_cons rfl hoG
  rw [hpe] at hnG hpG
  have HO0 := Lib.hid ho0
  have HO1 := Lib.hid ho1
  clear hoG ho0 ho1 hpe
  have hnG2 := List.nodup_append.1 hnG
  clear JG'''''''''''''''
  go_wp2_with fail
  refine (markInt64SS_g r0 _ pG0 1 _ HO0.out hnG2.1 (by omega) (by omega)).mono ?_
  rintro e w25 ⟨yG, mG, rfl, l0G0, l1G0, hyG0, hhG0, hbutG0⟩
  have HYG := Lib.hid hyG0
  have HHG := Lib.hid hhG0
  clear hyG0 hhG0 HO0
  have hqG0 : ∀ k, k ∈ pG0 → w10.heap.size ≤ k ∧ k < w11.heap.size := fun k hk => by have := hpG k (List.mem_append.2 (.inl hk)); simpa using this
  have HO1' := Lib.hid (Own.but HO1.out hbutG0 (fun z hz hz1 => hnG2.2.2 z hz1 z hz rfl))
  clear HO1
  have HO1 := HO1'
  clear HO1'
  have JW'''''''''''''''''''''' := Lib.hid (Iv.but JW'''''''''''''''''''''.out hbutG0 (fun k hk => by have := hqG0 k hk; simp; omega))
  clear JW'''''''''''''''''''''
  have hssssdsssssasassssdssdssssmmmssm := hssssdsssssasassssdssdssssmmmss.butIv hbutG0 (fun k hk => by have := hqG0 k hk; omega) (fun x hx hp => by
    have := hqG0 _ hp
    simp only [List.mem_append, List.mem_cons, List.mem_nil_iff, or_false, List.not_mem_nil, false_or, or_assoc] at hx
    rcases hx with rfl | rfl | rfl | rfl <;> (simp only at this; omega))
  have hz25 : w24.heap.size ≤ w25.heap.size := by simpa using hbutG0.size
  clear qa00 qa01 qa10 qa11 qx00 qx01 qx10 qx11
  have qa00 := hssssdsssssasassssdssdssssmmmssm.cellAt 0 rfl 0 rfl
  have qa01 := hssssdsssssasassssdssdssssmmmssm.cellAt 0 rfl 1 rfl
  have qa10 := hssssdsssssasassssdssdssssmmmssm.cellAt 1 rfl 0 rfl
  have qa11 := hssssdsssssasassssdssdssssmmmssm.cellAt 1 rfl 1 rfl
  have qx00 := hssssdsssssasassssdssdssssmmmssm.cellAt 2 rfl 0 rfl
  have qx01 := hssssdsssssasassssdssdssssmmmssm.cellAt 2 rfl 1 rfl
  have qx10 := hssssdsssssasassssdssdssssmmmssm.cellAt 3 rfl 0 rfl
  have qx11 := hssssdsssssasassssdssdssssmmmssm.cellAt 3 rfl 1 rfl
  go_wp2_with fail
  refine (markArcStepS_g r1 _ pG1 mG _ HO1.out hnG2.2.1 (by omega) (by omega)).mono ?_
  rintro e w26 ⟨yG1, mG1, rfl, l0G1, l1G1, hyG1, hhG1, hbutG1⟩
  have HYG1 := Lib.hid hyG1
  have HHG1 := Lib.hid hhG1
  clear hyG1 hhG1 HO1
  have hqG1 : ∀ k, k ∈ pG1 → w10.heap.size ≤ k ∧ k < w11.heap.size := fun k hk => by have := hpG k (List.mem_append.2 (.inr hk)); simpa using this
  have HYG' := Lib.hid (Own.but HYG.out hbutG1 (fun z hz hz1 => hnG2.2.2 z hz z hz1 rfl))
  clear HYG
  have HYG := HYG'
  clear HYG'
  have JW''''''''''''''''''''''' := Lib.hid (Iv.but JW''''''''''''''''''''''.out hbutG1 (fun k hk => by have := hqG1 k hk; simp; omega))
  clear JW''''''''''''''''''''''
  have hssssdsssssasassssdssdssssmmmssmm := hssssdsssssasassssdssdssssmmmssm.butIv hbutG1 (fun k hk => by have := hqG1 k hk; omega) (fun x hx hp => by
    have := hqG1 _ hp
    simp only [List.mem_append, List.mem_cons, List.mem_nil_iff, or_false, List.not_mem_nil, false_or, or_assoc] at hx
    rcases hx with rfl | rfl | rfl | rfl <;> (simp only at this; omega))
  have hz26 : w25.heap.size ≤ w26.heap.size := by simpa using hbutG1.size
  clear qa00 qa01 qa10 qa11 qx00 qx01 qx10 qx11
  have qa00 := hssssdsssssasassssdssdssssmmmssmm.cellAt 0 rfl 0 rfl
  have qa01 := hssssdsssssasassssdssdssssmmmssmm.cellAt 0 rfl 1 rfl
  have qa10 := hssssdsssssasassssdssdssssmmmssmm.cellAt 1 rfl 0 rfl
  have qa11 := hssssdsssssasassssdssdssssmmmssmm.cellAt 1 rfl 1 rfl
  have qx00 := hssssdsssssasassssdssdssssmmmssmm.cellAt 2 rfl 0 rfl
  have qx01 := hssssdsssssasassssdssdssssmmmssmm.cellAt 2 rfl 1 rfl
  have qx10 := hssssdsssssasassssdssdssssmmmssmm.cellAt 3 rfl 0 rfl
  have qx11 := hssssdsssssasassssdssdssssmmmssmm.cellAt 3 rfl 1 rfl
  have HYr27 := Lib.hid (Own.rd HYG.out)
  go_wp2_with fail
  refine (heldInt64SS_g yG _ 1 mG _ HYr27.out HHG.out (by omega) (by omega) (by omega)).mono ?_
  rintro e w27 ⟨rfl, hb27⟩
  clear HYr27
  have HYG' := Lib.hid (Own.mono HYG.out hb27)
  clear HYG
  have HYG := HYG'
  clear HYG'
  have HYG' := Lib.hid (Own.mono HYG1.out hb27)
  clear HYG1
  have HYG1 := HYG'
  clear HYG'
  have JW'''''''''''''''''''''''' := Lib.hid (Iv.mono JW'''''''''''''''''''''''.out hb27)
  clear JW'''''''''''''''''''''''
  have hssssdsssssasassssdssdssssmmmssmms := hssssdsssssasassssdssdssssmmmssmm.step hb27
  have hz27 : w26.heap.size ≤ w27.heap.size := by simpa using hb27.size
  clear qa00 qa01 qa10 qa11 qx00 qx01 qx10 qx11
  have qa00 := hssssdsssssasassssdssdssssmmmssmms.cellAt 0 rfl 0 rfl
  have qa01 := hssssdsssssasassssdssdssssmmmssmms.cellAt 0 rfl 1 rfl
  have qa10 := hssssdsssssasassssdssdssssmmmssmms.cellAt 1 rfl 0 rfl
  have qa11 := hssssdsssssasassssdssdssssmmmssmms.cellAt 1 rfl 1 rfl
  have qx00 := hssssdsssssasassssdssdssssmmmssmms.cellAt 2 rfl 0 rfl
  have qx01 := hssssdsssssasassssdssdssssmmmssmms.cellAt 2 rfl 1 rfl
  have qx10 := hssssdsssssasassssdssdssssmmmssmms.cellAt 3 rfl 0 rfl
  have qx11 := hssssdsssssasassssdssdssssmmmssmms.cellAt 3 rfl 1 rfl
  have hm027 : ¬ mG < 0 := by omega
  have HYr28 := Lib.hid (Own.rd HYG1.out)
  go_wp2_with fail
  refine (heldArcStepS_g yG1 _ mG mG1 _ HYr28.out HHG1.out (by omega) (by omega) (by omega)).mono ?_
  rintro e w28 ⟨rfl, hb28⟩
  clear HYr28
  have HYG' := Lib.hid (Own.mono HYG.out hb28)
  clear HYG
  have HYG := HYG'
  clear HYG'
  have HYG' := Lib.hid (Own.mono HYG1.out hb28)
  clear HYG1
  have HYG1 := HYG'
  clear HYG'
  have JW''''''''''''''''''''''''' := Lib.hid (Iv.mono JW''''''''''''''''''''''''.out hb28)
  clear JW''''''''''''''''''''''''
  have hssssdsssssasassssdssdssssmmmssmmss := hssssdsssssasassssdssdssssmmmssmms.step hb28
  have hz28 : w27.heap.size ≤ w28.heap.size := by simpa using hb28.size
  clear qa00 qa01 qa10 qa11 qx00 qx01 qx10 qx11
  have qa00 := hssssdsssssasassssdssdssssmmmssmmss.cellAt 0 rfl 0 rfl
  have qa01 := hssssdsssssasassssdssdssssmmmssmmss.cellAt 0 rfl 1 rfl
  have qa10 := hssssdsssssasassssdssdssssmmmssmmss.cellAt 1 rfl 0 rfl
  have qa11 := hssssdsssssasassssdssdssssmmmssmmss.cellAt 1 rfl 1 rfl
  have qx00 := hssssdsssssasassssdssdssssmmmssmmss.cellAt 2 rfl 0 rfl
  have qx01 := hssssdsssssasassssdssdssssmmmssmmss.cellAt 2 rfl 1 rfl
  have qx10 := hssssdsssssasassssdssdssssmmmssmmss.cellAt 3 rfl 0 rfl
  have qx11 := hssssdsssssasassssdssdssssmmmssmmss.cellAt 3 rfl 1 rfl
  have hm028 : ¬ mG1 < 0 := by omega
  have hmm : (mG1 != mG1) = false := by simp
  go_wp2_with fail
  refine wp_region_noPanic (wp_region_el (fun w' => w'.cell? ⟨w.heap.size, 0, none⟩ = some (.int .i64 x00) ∧ w'.cell? ⟨w.heap.size, 1, none⟩ = some (.slice a01 x01.length c01) ∧ w'.cell? ⟨w.heap.size + 1, 0, none⟩ = some (.int .i64 x10) ∧ w'.cell? ⟨w.heap.size + 1, 1, none⟩ = some (.slice a11 x11.length c11) ∧ w'.cell? ⟨w8.heap.size, 0, none⟩ = some (.int .i64 x00) ∧ w'.cell? ⟨w8.heap.size, 1, none⟩ = some (.slice ax01 x01.length cx01) ∧ w'.cell? ⟨w9.heap.size, 0, none⟩ = some (.int .i64 x10) ∧ w'.cell? ⟨w9.heap.size, 1, none⟩ = some (.slice ax11 x11.length cx11)) [(0, 0), (2, 0), (4, 0), (1, 1), (3, 1), (5, 1), (6, 1), (7, 0), (8, 0), (9, 0), (10, 0), (11, 0), (12, 0), (13, 0)] (by kernel_rfl) (by kernel_rfl) (by kernel_rfl) rfl ?_ (fun _ _ _ _ _ h => h) ?_)
  · exact ⟨(hssssdsssssasassssdssdssssmmmssmmss.drew).cellAt 0 rfl 0 rfl, (hssssdsssssasassssdssdssssmmmssmmss.drew).cellAt 0 rfl 1 rfl, (hssssdsssssasassssdssdssssmmmssmmss.drew).cellAt 1 rfl 0 rfl, (hssssdsssssasassssdssdssssmmmssmmss.drew).cellAt 1 rfl 1 rfl, (hssssdsssssasassssdssdssssmmmssmmss.drew).cellAt 2 rfl 0 rfl, (hssssdsssssasassssdssdssssmmmssmmss.drew).cellAt 2 rfl 1 rfl, (hssssdsssssasassssdssdssssmmmssmmss.drew).cellAt 3 rfl 0 rfl, (hssssdsssssasassssdssdssssmmmssmmss.drew).cellAt 3 rfl 1 rfl⟩
  have JW'''''''''''''''''''''''''' := Lib.hid (Iv.mono JW'''''''''''''''''''''''''.out (belowD _))
  clear JW'''''''''''''''''''''''''
  have hssssdsssssasassssdssdssssmmmssmmssd := hssssdsssssasassssdssdssssmmmssmmss.drew
  (repeat (first | (apply el_skip rfl (by rfl); try simp only [Act.put, List.setIfInBounds_toArray, List.set_cons_zero, List.set_cons_succ]) | (apply el_float rfl (by rfl); (· (intro w' hS; go_simp <;> with_reducible rfl)); (try simp only [Act.put, List.setIfInBounds_toArray, List.set_cons_zero, List.set_cons_succ]))))
  have HYG' := Lib.hid (Own.mono HYG.out (belowD _))
  clear HYG
  have HYG := HYG'
  clear HYG'
  have HYG' := Lib.hid (Own.mono HYG1.out (belowD _))
  clear HYG1
  have HYG1 := HYG'
  clear HYG'
  refine el_hard rfl (by rfl) (fun K hK => ?_)
  go_wp2_with (go_at_call 14; refine (toTemplate_b (x00, x01) _ _ _ (Rd.mono H0.out hssssdsssssasassssdssdssssmmmssmmssd.bel) gc0).mono ?_; rintro e w29 ⟨ut00, ut01, rfl, frt0, hb29⟩)
  have JW''''''''''''''''''''''''''' := Lib.hid (Iv.mono JW''''''''''''''''''''''''''.out hb29)
  clear JW''''''''''''''''''''''''''
  have hssssdsssssasassssdssdssssmmmssmmssds := hssssdsssssasassssdssdssssmmmssmmssd.step hb29
  have hz29 : w28.heap.size ≤ w29.heap.size := by simpa using hb29.size
  have Jt0 := Lib.hid (Fresh.iv frt0)
  have zt00 := rd_cons rfl (Iv.rd Jt0.out)
  obtain ⟨rfl, _⟩ := rd_i1 zt00.1
  obtain ⟨at01, ct01, rfl, _⟩ := rd_list zt00.2
  clear zt00
  clear frt0
  refine ⟨⟨hssssdsssssasassssdssdssssmmmssmmssds.cellAt 0 rfl 0 rfl, hssssdsssssasassssdssdssssmmmssmmssds.cellAt 0 rfl 1 rfl, hssssdsssssasassssdssdssssmmmssmmssds.cellAt 1 rfl 0 rfl, hssssdsssssasassssdssdssssmmmssmmssds.cellAt 1 rfl 1 rfl, hssssdsssssasassssdssdssssmmmssmmssds.cellAt 2 rfl 0 rfl, hssssdsssssasassssdssdssssmmmssmmssds.cellAt 2 rfl 1 rfl, hssssdsssssasassssdssdssssmmmssmmssds.cellAt 3 rfl 0 rfl, hssssdsssssasassssdssdssssmmmssmmssds.cellAt 3 rfl 1 rfl⟩, ?_⟩
  (repeat (first | (apply el_skip rfl (by rfl); try simp only [Act.put, List.setIfInBounds_toArray, List.set_cons_zero, List.set_cons_succ]) | (apply el_float rfl (by rfl); (· (intro w' hS; go_simp <;> with_reducible rfl)); (try simp only [Act.put, List.setIfInBounds_toArray, List.set_cons_zero, List.set_cons_succ]))))
  have HYG' := Lib.hid (Own.mono HYG.out hb29)
  clear HYG
  have HYG := HYG'
  clear HYG'
  have HYG' := Lib.hid (Own.mono HYG1.out hb29)
  clear HYG1
  have HYG1 := HYG'
  clear HYG'
  refine el_hard rfl (by rfl) (fun K hK => ?_)
  go_wp2_with (go_at_call 15; refine (toInstance_b (x10, x11) _ _ _ (Rd.mono H1.out hssssdsssssasassssdssdssssmmmssmmssds.bel) gc1).mono ?_; rintro e w30 ⟨ut10, ut11, rfl, frt1, hb30⟩)
  have JW'''''''''''''''''''''''''''' := Lib.hid (Iv.mono JW'''''''''''''''''''''''''''.out hb30)
  clear JW'''''''''''''''''''''''''''
  have Jt0' := Lib.hid (Iv.mono Jt0.out hb30)
  clear Jt0
  have hssssdsssssasassssdssdssssmmmssmmssdss := hssssdsssssasassssdssdssssmmmssmmssds.step hb30
  have hz30 : w29.heap.size ≤ w30.heap.size := by simpa using hb30.size
  have Jt1 := Lib.hid (Fresh.iv frt1)
  have zt10 := rd_cons rfl (Iv.rd Jt1.out)
  obtain ⟨rfl, _⟩ := rd_i1 zt10.1
  obtain ⟨at11, ct11, rfl, _⟩ := rd_list zt10.2
  clear zt10
  clear frt1
  refine ⟨⟨hssssdsssssasassssdssdssssmmmssmmssdss.cellAt 0 rfl 0 rfl, hssssdsssssasassssdssdssssmmmssmmssdss.cellAt 0 rfl 1 rfl, hssssdsssssasassssdssdssssmmmssmmssdss.cellAt 1 rfl 0 rfl, hssssdsssssasassssdssdssssmmmssmmssdss.cellAt 1 rfl 1 rfl, hssssdsssssasassssdssdssssmmmssmmssdss.cellAt 2 rfl 0 rfl, hssssdsssssasassssdssdssssmmmssmmssdss.cellAt 2 rfl 1 rfl, hssssdsssssasassssdssdssssmmmssmmssdss.cellAt 3 rfl 0 rfl, hssssdsssssasassssdssdssssmmmssmmssdss.cellAt 3 rfl 1 rfl⟩, ?_⟩
  (repeat (first | (apply el_skip rfl (by rfl); try simp only [Act.put, List.setIfInBounds_toArray, List.set_cons_zero, List.set_cons_succ]) | (apply el_float rfl (by rfl); (· (intro w' hS; go_simp <;> with_reducible rfl)); (try simp only [Act.put, List.setIfInBounds_toArray, List.set_cons_zero, List.set_cons_succ]))))
  have HYG' := Lib.hid (Own.mono HYG.out hb30)
  clear HYG
  have HYG := HYG'
  clear HYG'
  have HYG' := Lib.hid (Own.mono HYG1.out hb30)
  clear HYG1
  have HYG1 := HYG'
  clear HYG'
  refine el_hard rfl (by rfl) (fun K hK => ?_)
  go_wp2_with (go_at_call 37; refine (toInt64SS_b x2 _ _ (Rd.mono H2.out hssssdsssssasassssdssdssssmmmssmmssdss.bel) gc2).mono ?_; rintro e w31 ⟨ut20, rfl, frt2, hb31⟩)
  have JW''''''''''''''''''''''''''''' := Lib.hid (Iv.mono JW''''''''''''''''''''''''''''.out hb31)
  clear JW''''''''''''''''''''''''''''
  have Jt0'' := Lib.hid (Iv.mono Jt0'.out hb31)
  clear Jt0'
  have Jt1' := Lib.hid (Iv.mono Jt1.out hb31)
  clear Jt1
  have hssssdsssssasassssdssdssssmmmssmmssdsss := hssssdsssssasassssdssdssssmmmssmmssdss.step hb31
  have hz31 : w30.heap.size ≤ w31.heap.size := by simpa using hb31.size
  have Jt2 := Lib.hid (Fresh.iv frt2)
  obtain ⟨at2, ct2, rfl, _⟩ := rd_list (Iv.rd Jt2.out)
  clear frt2
  refine ⟨⟨hssssdsssssasassssdssdssssmmmssmmssdsss.cellAt 0 rfl 0 rfl, hssssdsssssasassssdssdssssmmmssmmssdsss.cellAt 0 rfl 1 rfl, hssssdsssssasassssdssdssssmmmssmmssdsss.cellAt 1 rfl 0 rfl, hssssdsssssasassssdssdssssmmmssmmssdsss.cellAt 1 rfl 1 rfl, hssssdsssssasassssdssdssssmmmssmmssdsss.cellAt 2 rfl 0 rfl, hssssdsssssasassssdssdssssmmmssmmssdsss.cellAt 2 rfl 1 rfl, hssssdsssssasassssdssdssssmmmssmmssdsss.cellAt 3 rfl 0 rfl, hssssdsssssasassssdssdssssmmmssmmssdsss.cellAt 3 rfl 1 rfl⟩, ?_⟩
  (repeat (first | (apply el_skip rfl (by rfl); try simp only [Act.put, List.setIfInBounds_toArray, List.set_cons_zero, List.set_cons_succ]) | (apply el_float rfl (by rfl); (· (intro w' hS; go_simp <;> with_reducible rfl)); (try simp only [Act.put, List.setIfInBounds_toArray, List.set_cons_zero, List.set_cons_succ]))))
  have HYG' := Lib.hid (Own.mono HYG.out hb31)
  clear HYG
  have HYG := HYG'
  clear HYG'
  have HYG' := Lib.hid (Own.mono HYG1.out hb31)
  clear HYG1
  have HYG1 := HYG'
  clear HYG'
  refine el_hard rfl (by rfl) (fun K hK => ?_)
  go_wp2_with (go_at_call 49; refine (CI.out _ _ _ _ _ _ (Iv.rd Jt0''.out) (Iv.rd Jt1'.out) (Iv.rd Jt2.out) (cost_lens gc2)).mono ?_; rintro e w32 ⟨uK0, uK1, rfl, frK, hb32⟩)
  have JW'''''''''''''''''''''''''''''' := Lib.hid (Iv.mono JW'''''''''''''''''''''''''''''.out hb32)
  clear JW'''''''''''''''''''''''''''''
  have Jt0''' := Lib.hid (Iv.mono Jt0''.out hb32)
  clear Jt0''
  have Jt1'' := Lib.hid (Iv.mono Jt1'.out hb32)
  clear Jt1'
  have Jt2' := Lib.hid (Iv.mono Jt2.out hb32)
  clear Jt2
  have hssssdsssssasassssdssdssssmmmssmmssdssss := hssssdsssssasassssdssdssssmmmssmmssdsss.step hb32
  have hz32 : w31.heap.size ≤ w32.heap.size := by simpa using hb32.size
  have JK := Lib.hid (Fresh.iv frK)
  have zK0 := rd_cons rfl (Iv.rd JK.out)
  obtain ⟨aK0, cK0, rfl, _⟩ := rd_list zK0.1
  obtain ⟨aK1, cK1, rfl, _⟩ := rd_list zK0.2
  clear zK0
  clear frK
  have HYG' := Lib.hid (Own.mono HYG.out hb32)
  clear HYG
  have HYG := HYG'
  clear HYG'
  have HYG' := Lib.hid (Own.mono HYG1.out hb32)
  clear HYG1
  have HYG1 := HYG'
  clear HYG'
  clear Jt0'''
  clear Jt1''
  clear Jt2'
  refine ⟨⟨hssssdsssssasassssdssdssssmmmssmmssdssss.cellAt 0 rfl 0 rfl, hssssdsssssasassssdssdssssmmmssmmssdssss.cellAt 0 rfl 1 rfl, hssssdsssssasassssdssdssssmmmssmmssdssss.cellAt 1 rfl 0 rfl, hssssdsssssasassssdssdssssmmmssmmssdssss.cellAt 1 rfl 1 rfl, hssssdsssssasassssdssdssssmmmssmmssdssss.cellAt 2 rfl 0 rfl, hssssdsssssasassssdssdssssmmmssmmssdssss.cellAt 2 rfl 1 rfl, hssssdsssssasassssdssdssssmmmssmmssdssss.cellAt 3 rfl 0 rfl, hssssdsssssasassssdssdssssmmmssmmssdssss.cellAt 3 rfl 1 rfl⟩, ?_⟩
  (repeat (first | (apply el_skip rfl (by rfl); try simp only [Act.put, List.setIfInBounds_toArray, List.set_cons_zero, List.set_cons_succ]) | (apply el_float rfl (by rfl); (· (intro w' hS; go_simp <;> with_reducible rfl)); (try simp only [Act.put, List.setIfInBounds_toArray, List.set_cons_zero, List.set_cons_succ]))))
  refine el_nil (NoPanic.normal ?_)
  clear qa00 qa01 qa10 qa11 qx00 qx01 qx10 qx11
  have qa00 := hssssdsssssasassssdssdssssmmmssmmssdssss.cellAt 0 rfl 0 rfl
  have qa01 := hssssdsssssasassssdssdssssmmmssmmssdssss.cellAt 0 rfl 1 rfl
  have qa10 := hssssdsssssasassssdssdssssmmmssmmssdssss.cellAt 1 rfl 0 rfl
  have qa11 := hssssdsssssasassssdssdssssmmmssmmssdssss.cellAt 1 rfl 1 rfl
  have qx00 := hssssdsssssasassssdssdssssmmmssmmssdssss.cellAt 2 rfl 0 rfl
  have qx01 := hssssdsssssasassssdssdssssmmmssmmssdssss.cellAt 2 rfl 1 rfl
  have qx10 := hssssdsssssasassssdssdssssmmmssmmssdssss.cellAt 3 rfl 0 rfl
  have qx11 := hssssdsssssasassssdssdssssmmmssmmssdssss.cellAt 3 rfl 1 rfl
  go_wp2_with fail
  refine (eqInt64SS_s r0 _ _ _ (rd_cons rfl (Iv.rd JK.out)).1 (rd_cons rfl (Iv.rd JW''''''''''''''''''''''''''''''.out)).1).mono ?_
  rintro e w33 ⟨rfl, hb33⟩
  have JW''''''''''''''''''''''''''''''' := Lib.hid (Iv.mono JW''''''''''''''''''''''''''''''.out hb33)
  clear JW''''''''''''''''''''''''''''''
  have JK' := Lib.hid (Iv.mono JK.out hb33)
  clear JK
  have hssssdsssssasassssdssdssssmmmssmmssdsssss := hssssdsssssasassssdssdssssmmmssmmssdssss.step hb33
  have hz33 : w32.heap.size ≤ w33.heap.size := by simpa using hb33.size
  clear qa00 qa01 qa10 qa11 qx00 qx01 qx10 qx11
  have qa00 := hssssdsssssasassssdssdssssmmmssmmssdsssss.cellAt 0 rfl 0 rfl
  have qa01 := hssssdsssssasassssdssdssssmmmssmmssdsssss.cellAt 0 rfl 1 rfl
  have qa10 := hssssdsssssasassssdssdssssmmmssmmssdsssss.cellAt 1 rfl 0 rfl
  have qa11 := hssssdsssssasassssdssdssssmmmssmmssdsssss.cellAt 1 rfl 1 rfl
  have qx00 := hssssdsssssasassssdssdssssmmmssmmssdsssss.cellAt 2 rfl 0 rfl
  have qx01 := hssssdsssssasassssdssdssssmmmssmmssdsssss.cellAt 2 rfl 1 rfl
  have qx10 := hssssdsssssasassssdssdssssmmmssmmssdsssss.cellAt 3 rfl 0 rfl
  have qx11 := hssssdsssssasassssdssdssssmmmssmmssdsssss.cellAt 3 rfl 1 rfl
  have HYG' := Lib.hid (Own.mono HYG.out hb33)
  clear HYG
  have HYG := HYG'
  clear HYG'
  have HYG' := Lib.hid (Own.mono HYG1.out hb33)
  clear HYG1
  have HYG1 := HYG'
  clear HYG'
  go_wp2_with fail
  refine (eqArcStepS_s r1 _ _ _ (rd_cons rfl (Iv.rd JK'.out)).2 (rd_cons rfl (Iv.rd JW'''''''''''''''''''''''''''''''.out)).2).mono ?_
  rintro e w34 ⟨rfl, hb34⟩
  have JW'''''''''''''''''''''''''''''''' := Lib.hid (Iv.mono JW'''''''''''''''''''''''''''''''.out hb34)
  clear JW'''''''''''''''''''''''''''''''
  have JK'' := Lib.hid (Iv.mono JK'.out hb34)
  clear JK'
  have hssssdsssssasassssdssdssssmmmssmmssdssssss := hssssdsssssasassssdssdssssmmmssmmssdsssss.step hb34
  have hz34 : w33.heap.size ≤ w34.heap.size := by simpa using hb34.size
  clear qa00 qa01 qa10 qa11 qx00 qx01 qx10 qx11
  have qa00 := hssssdsssssasassssdssdssssmmmssmmssdssssss.cellAt 0 rfl 0 rfl
  have qa01 := hssssdsssssasassssdssdssssmmmssmmssdssssss.cellAt 0 rfl 1 rfl
  have qa10 := hssssdsssssasassssdssdssssmmmssmmssdssssss.cellAt 1 rfl 0 rfl
  have qa11 := hssssdsssssasassssdssdssssmmmssmmssdssssss.cellAt 1 rfl 1 rfl
  have qx00 := hssssdsssssasassssdssdssssmmmssmmssdssssss.cellAt 2 rfl 0 rfl
  have qx01 := hssssdsssssasassssdssdssssmmmssmmssdssssss.cellAt 2 rfl 1 rfl
  have qx10 := hssssdsssssasassssdssdssssmmmssmmssdssssss.cellAt 3 rfl 0 rfl
  have qx11 := hssssdsssssasassssdssdssssmmmssmmssdssssss.cellAt 3 rfl 1 rfl
  have HYG' := Lib.hid (Own.mono HYG.out hb34)
  clear HYG
  have HYG := HYG'
  clear HYG'
  have HYG' := Lib.hid (Own.mono HYG1.out hb34)
  clear HYG1
  have HYG1 := HYG'
  clear HYG'
  have HYr35 := Lib.hid (Own.rd HYG.out)
  go_wp2_with fail
  refine (heldInt64SS_g yG _ 1 mG _ HYr35.out HHG.out (by omega) (by omega) (by omega)).mono ?_
  rintro e w35 ⟨rfl, hb35⟩
  clear HYr35
  have HYG' := Lib.hid (Own.mono HYG.out hb35)
  clear HYG
  have HYG := HYG'
  clear HYG'
  have HYG' := Lib.hid (Own.mono HYG1.out hb35)
  clear HYG1
  have HYG1 := HYG'
  clear HYG'
  have JW''''''''''''''''''''''''''''''''' := Lib.hid (Iv.mono JW''''''''''''''''''''''''''''''''.out hb35)
  clear JW''''''''''''''''''''''''''''''''
  have JK''' := Lib.hid (Iv.mono JK''.out hb35)
  clear JK''
  have hssssdsssssasassssdssdssssmmmssmmssdsssssss := hssssdsssssasassssdssdssssmmmssmmssdssssss.step hb35
  have hz35 : w34.heap.size ≤ w35.heap.size := by simpa using hb35.size
  clear qa00 qa01 qa10 qa11 qx00 qx01 qx10 qx11
  have qa00 := hssssdsssssasassssdssdssssmmmssmmssdsssssss.cellAt 0 rfl 0 rfl
  have qa01 := hssssdsssssasassssdssdssssmmmssmmssdsssssss.cellAt 0 rfl 1 rfl
  have qa10 := hssssdsssssasassssdssdssssmmmssmmssdsssssss.cellAt 1 rfl 0 rfl
  have qa11 := hssssdsssssasassssdssdssssmmmssmmssdsssssss.cellAt 1 rfl 1 rfl
  have qx00 := hssssdsssssasassssdssdssssmmmssmmssdsssssss.cellAt 2 rfl 0 rfl
  have qx01 := hssssdsssssasassssdssdssssmmmssmmssdsssssss.cellAt 2 rfl 1 rfl
  have qx10 := hssssdsssssasassssdssdssssmmmssmmssdsssssss.cellAt 3 rfl 0 rfl
  have qx11 := hssssdsssssasassssdssdssssmmmssmmssdsssssss.cellAt 3 rfl 1 rfl
  have hm035 : ¬ mG < 0 := by omega
  have HYr36 := Lib.hid (Own.rd HYG1.out)
  go_wp2_with fail
  refine (heldArcStepS_g yG1 _ mG mG1 _ HYr36.out HHG1.out (by omega) (by omega) (by omega)).mono ?_
  rintro e w36 ⟨rfl, hb36⟩
  clear HYr36
  have HYG' := Lib.hid (Own.mono HYG.out hb36)
  clear HYG
  have HYG := HYG'
  clear HYG'
  have HYG' := Lib.hid (Own.mono HYG1.out hb36)
  clear HYG1
  have HYG1 := HYG'
  clear HYG'
  have JW'''''''''''''''''''''''''''''''''' := Lib.hid (Iv.mono JW'''''''''''''''''''''''''''''''''.out hb36)
  clear JW'''''''''''''''''''''''''''''''''
  have JK'''' := Lib.hid (Iv.mono JK'''.out hb36)
  clear JK'''
  have hssssdsssssasassssdssdssssmmmssmmssdssssssss := hssssdsssssasassssdssdssssmmmssmmssdsssssss.step hb36
  have hz36 : w35.heap.size ≤ w36.heap.size := by simpa using hb36.size
  clear qa00 qa01 qa10 qa11 qx00 qx01 qx10 qx11
  have qa00 := hssssdsssssasassssdssdssssmmmssmmssdssssssss.cellAt 0 rfl 0 rfl
  have qa01 := hssssdsssssasassssdssdssssmmmssmmssdssssssss.cellAt 0 rfl 1 rfl
  have qa10 := hssssdsssssasassssdssdssssmmmssmmssdssssssss.cellAt 1 rfl 0 rfl
  have qa11 := hssssdsssssasassssdssdssssmmmssmmssdssssssss.cellAt 1 rfl 1 rfl
  have qx00 := hssssdsssssasassssdssdssssmmmssmmssdssssssss.cellAt 2 rfl 0 rfl
  have qx01 := hssssdsssssasassssdssdssssmmmssmmssdssssssss.cellAt 2 rfl 1 rfl
  have qx10 := hssssdsssssasassssdssdssssmmmssmmssdssssssss.cellAt 3 rfl 0 rfl
  have qx11 := hssssdsssssasassssdssdssssmmmssmmssdssssssss.cellAt 3 rfl 1 rfl
  have hm036 : ¬ mG1 < 0 := by omega
  go_wp2_with fail
  go_ret
  exact ⟨rfl, hssssdsssssasassssdssdssssmmmssmmssdssssssss.bel⟩

end Go.Proofs.YtjkjfjpajmjglaaGreat
