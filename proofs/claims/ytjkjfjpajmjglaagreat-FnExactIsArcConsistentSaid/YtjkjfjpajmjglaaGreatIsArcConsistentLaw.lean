/-
  THE LAW FnExactIsArcConsistent, WALKED. (Printed by wip/genlaws.py.)
-/
import Derived.Test.YtjkjfjpajmjglaaGreatKinds
import Derived.Test.YtjkjfjpajmjglaaGreatMakeArcsS
namespace Go.Proofs.YtjkjfjpajmjglaaGreat
open Go.RowKit Go.Shelf
open Rep (Rd Own sz)
set_option linter.unusedSimpArgs false
set_option linter.unusedVariables false

theorem cost_lens {l : List (List Int)} (h : cost_Int64SS l ≤ 1048576) : ∀ d, d ∈ l → d.length ≤ 1048576 := fun d hd => by
  obtain ⟨j, hj, rfl⟩ := List.getElem_of_mem hd
  have := cL_mem List.length l j hj
  unfold cost_Int64SS at h
  omega

set_option maxRecDepth 100000 in
set_option maxHeartbeats 2000000 in
theorem FnExactIsArcConsistent_c (x0 : Tmpl) (v00 v01 : Value) (x1 : Inst) (v10 v11 : Value) (x2 : List (List Int)) (v20 : Value) (w : World) (h0 : Rd w [v00, v01] x0) (h1 : Rd w [v10, v11] x1) (h2 : Rd w [v20] x2) :
    Calls Tryz.prog 6 #[.agg #[v00, v01], .agg #[v10, v11], v20] w fun e w' => e = .returned (.bool true) ∧ Below w.heap.size w w' := by
  obtain ⟨x00, x01⟩ := x0
  have z00 := rd_cons rfl h0
  obtain ⟨rfl, _⟩ := rd_i1 z00.1
  obtain ⟨a01, c01, rfl, _⟩ := rd_list z00.2
  clear z00
  have H0 := Lib.hid h0
  clear h0
  obtain ⟨x10, x11⟩ := x1
  have z10 := rd_cons rfl h1
  obtain ⟨rfl, _⟩ := rd_i1 z10.1
  obtain ⟨a11, c11, rfl, _⟩ := rd_list z10.2
  clear z10
  have H1 := Lib.hid h1
  clear h1
  obtain ⟨a2, c2, rfl, _⟩ := rd_list h2
  have H2 := Lib.hid h2
  clear h2
  have hs := ((St.start w).alloc #[.int .i64 x00, .slice a01 x01.length c01] 24 rfl).alloc #[.int .i64 x10, .slice a11 x11.length c11] 27 (n := w.heap.size + 1) (by simp)
  go_enter Tryz.func6, Tryz.ntmps6
  go_wp2_with fail
  refine (szTemplate_b (x00, x01) _ _ (1048576) _ (Rd.mono H0.out hs.bel) (by omega) (by omega)).mono ?_
  rintro e w1 ⟨rfl, hb1⟩
  have hss := hs.step hb1
  rcases less_cases (1048576) (cost_Template (x00, x01)) with ⟨e1, g0⟩ | ⟨e1, g0⟩
  · rw [e1]
    clear e1
    go_wp2_with fail
    go_ret
    exact ⟨rfl, hss.bel⟩
  rw [e1]
  clear e1
  have qa00 := hss.cellAt 0 rfl 0 rfl
  have qa01 := hss.cellAt 0 rfl 1 rfl
  have qa10 := hss.cellAt 1 rfl 0 rfl
  have qa11 := hss.cellAt 1 rfl 1 rfl
  go_wp2_with fail
  refine (szInstance_b (x10, x11) _ _ (1048576 - (cost_Template (x00, x01))) _ (Rd.mono H1.out hss.bel) (by omega) (by omega)).mono ?_
  rintro e w2 ⟨rfl, hb2⟩
  have hsss := hss.step hb2
  rcases less_cases (1048576 - (cost_Template (x00, x01))) (cost_Instance (x10, x11)) with ⟨e1, g1⟩ | ⟨e1, g1⟩
  · rw [e1]
    clear e1
    go_wp2_with fail
    go_ret
    exact ⟨rfl, hsss.bel⟩
  rw [e1]
  clear e1
  clear qa00 qa01 qa10 qa11
  have qa00 := hsss.cellAt 0 rfl 0 rfl
  have qa01 := hsss.cellAt 0 rfl 1 rfl
  have qa10 := hsss.cellAt 1 rfl 0 rfl
  have qa11 := hsss.cellAt 1 rfl 1 rfl
  go_wp2_with fail
  refine (szInt64SS_b x2 _ (1048576 - (cost_Template (x00, x01)) - (cost_Instance (x10, x11))) _ (Rd.mono H2.out hsss.bel) (by omega) (by omega)).mono ?_
  rintro e w3 ⟨rfl, hb3⟩
  have hssss := hsss.step hb3
  rcases less_cases (1048576 - (cost_Template (x00, x01)) - (cost_Instance (x10, x11))) (cost_Int64SS x2) with ⟨e1, g2⟩ | ⟨e1, g2⟩
  · rw [e1]
    clear e1
    go_wp2_with fail
    go_ret
    exact ⟨rfl, hssss.bel⟩
  rw [e1]
  clear e1
  clear qa00 qa01 qa10 qa11
  have qa00 := hssss.cellAt 0 rfl 0 rfl
  have qa01 := hssss.cellAt 0 rfl 1 rfl
  have qa10 := hssss.cellAt 1 rfl 0 rfl
  have qa11 := hssss.cellAt 1 rfl 1 rfl
  have gc0 : cost_Template (x00, x01) ≤ 1048576 := by omega
  have gc1 : cost_Instance (x10, x11) ≤ 1048576 := by omega
  have gc2 : cost_Int64SS x2 ≤ 1048576 := by omega
  go_wp2_with fail
  refine wp_region_noPanic (wp_region_el (fun w' => w'.cell? ⟨w.heap.size, 0, none⟩ = some (.int .i64 x00) ∧ w'.cell? ⟨w.heap.size, 1, none⟩ = some (.slice a01 x01.length c01) ∧ w'.cell? ⟨w.heap.size + 1, 0, none⟩ = some (.int .i64 x10) ∧ w'.cell? ⟨w.heap.size + 1, 1, none⟩ = some (.slice a11 x11.length c11)) [(0, 0), (2, 0), (4, 0), (1, 1), (3, 1), (5, 1), (6, 1), (7, 0), (8, 0), (9, 0), (10, 0), (11, 0)] (by kernel_rfl) (by kernel_rfl) (by kernel_rfl) rfl ?_ (fun _ _ _ _ _ h => h) ?_)
  · exact ⟨(hssss.drew).cellAt 0 rfl 0 rfl, (hssss.drew).cellAt 0 rfl 1 rfl, (hssss.drew).cellAt 1 rfl 0 rfl, (hssss.drew).cellAt 1 rfl 1 rfl⟩
  have hssssd := hssss.drew
  (repeat (first | (apply el_skip rfl (by rfl); try simp only [Act.put, List.setIfInBounds_toArray, List.set_cons_zero, List.set_cons_succ]) | (apply el_float rfl (by rfl); (· (intro w' hS; go_simp <;> with_reducible rfl)); (try simp only [Act.put, List.setIfInBounds_toArray, List.set_cons_zero, List.set_cons_succ]))))
  refine el_hard rfl (by rfl) (fun K hK => ?_)
  go_wp2_with (go_at_call 14; refine (toTemplate_b (x00, x01) _ _ _ (Rd.mono H0.out hssssd.bel) gc0).mono ?_; rintro e w4 ⟨us00, us01, rfl, frs0, hb4⟩)
  have hssssds := hssssd.step hb4
  have rds0 := frs0.rd
  have zs00 := rd_cons rfl rds0
  obtain ⟨rfl, _⟩ := rd_i1 zs00.1
  obtain ⟨as01, cs01, rfl, _⟩ := rd_list zs00.2
  clear zs00
  have Rs0 := Lib.hid rds0
  clear rds0 frs0
  refine ⟨⟨hssssds.cellAt 0 rfl 0 rfl, hssssds.cellAt 0 rfl 1 rfl, hssssds.cellAt 1 rfl 0 rfl, hssssds.cellAt 1 rfl 1 rfl⟩, ?_⟩
  (repeat (first | (apply el_skip rfl (by rfl); try simp only [Act.put, List.setIfInBounds_toArray, List.set_cons_zero, List.set_cons_succ]) | (apply el_float rfl (by rfl); (· (intro w' hS; go_simp <;> with_reducible rfl)); (try simp only [Act.put, List.setIfInBounds_toArray, List.set_cons_zero, List.set_cons_succ]))))
  refine el_hard rfl (by rfl) (fun K hK => ?_)
  go_wp2_with (go_at_call 15; refine (toInstance_b (x10, x11) _ _ _ (Rd.mono H1.out hssssds.bel) gc1).mono ?_; rintro e w5 ⟨us10, us11, rfl, frs1, hb5⟩)
  have Rs0' := Lib.hid (Rd.mono Rs0.out hb5)
  clear Rs0
  have hssssdss := hssssds.step hb5
  have rds1 := frs1.rd
  have zs10 := rd_cons rfl rds1
  obtain ⟨rfl, _⟩ := rd_i1 zs10.1
  obtain ⟨as11, cs11, rfl, _⟩ := rd_list zs10.2
  clear zs10
  have Rs1 := Lib.hid rds1
  clear rds1 frs1
  refine ⟨⟨hssssdss.cellAt 0 rfl 0 rfl, hssssdss.cellAt 0 rfl 1 rfl, hssssdss.cellAt 1 rfl 0 rfl, hssssdss.cellAt 1 rfl 1 rfl⟩, ?_⟩
  (repeat (first | (apply el_skip rfl (by rfl); try simp only [Act.put, List.setIfInBounds_toArray, List.set_cons_zero, List.set_cons_succ]) | (apply el_float rfl (by rfl); (· (intro w' hS; go_simp <;> with_reducible rfl)); (try simp only [Act.put, List.setIfInBounds_toArray, List.set_cons_zero, List.set_cons_succ]))))
  refine el_hard rfl (by rfl) (fun K hK => ?_)
  go_wp2_with (go_at_call 37; refine (toInt64SS_b x2 _ _ (Rd.mono H2.out hssssdss.bel) gc2).mono ?_; rintro e w6 ⟨us20, rfl, frs2, hb6⟩)
  have Rs0'' := Lib.hid (Rd.mono Rs0'.out hb6)
  clear Rs0'
  have Rs1' := Lib.hid (Rd.mono Rs1.out hb6)
  clear Rs1
  have hssssdsss := hssssdss.step hb6
  have rds2 := frs2.rd
  obtain ⟨as2, cs2, rfl, _⟩ := rd_list rds2
  have Rs2 := Lib.hid rds2
  clear rds2 frs2
  refine ⟨⟨hssssdsss.cellAt 0 rfl 0 rfl, hssssdsss.cellAt 0 rfl 1 rfl, hssssdsss.cellAt 1 rfl 0 rfl, hssssdsss.cellAt 1 rfl 1 rfl⟩, ?_⟩
  (repeat (first | (apply el_skip rfl (by rfl); try simp only [Act.put, List.setIfInBounds_toArray, List.set_cons_zero, List.set_cons_succ]) | (apply el_float rfl (by rfl); (· (intro w' hS; go_simp <;> with_reducible rfl)); (try simp only [Act.put, List.setIfInBounds_toArray, List.set_cons_zero, List.set_cons_succ]))))
  refine el_hard rfl (by rfl) (fun K hK => ?_)
  go_wp2_with (go_at_call 36; refine (sIsArcConsistent_c (x00, x01) _ _ (x10, x11) _ _ x2 _ _ Rs0''.out Rs1'.out Rs2.out (cost_lens gc2)).mono ?_; rintro e w7 ⟨rfl, hb7⟩)
  clear Rs0''
  clear Rs1'
  clear Rs2
  have hssssdssss := hssssdsss.step hb7
  refine ⟨⟨hssssdssss.cellAt 0 rfl 0 rfl, hssssdssss.cellAt 0 rfl 1 rfl, hssssdssss.cellAt 1 rfl 0 rfl, hssssdssss.cellAt 1 rfl 1 rfl⟩, ?_⟩
  (repeat (first | (apply el_skip rfl (by rfl); try simp only [Act.put, List.setIfInBounds_toArray, List.set_cons_zero, List.set_cons_succ]) | (apply el_float rfl (by rfl); (· (intro w' hS; go_simp <;> with_reducible rfl)); (try simp only [Act.put, List.setIfInBounds_toArray, List.set_cons_zero, List.set_cons_succ]))))
  refine el_nil (NoPanic.normal ?_)
  clear qa00 qa01 qa10 qa11
  have qa00 := hssssdssss.cellAt 0 rfl 0 rfl
  have qa01 := hssssdssss.cellAt 0 rfl 1 rfl
  have qa10 := hssssdssss.cellAt 1 rfl 0 rfl
  have qa11 := hssssdssss.cellAt 1 rfl 1 rfl
  go_wp2_with fail
  refine (toTemplate_b (x00, x01) _ _ _ (Rd.mono H0.out hssssdssss.bel) gc0).mono ?_
  rintro e w8 ⟨ux00, ux01, rfl, frx0, hb8⟩
  have hssssdsssss := hssssdssss.step hb8
  have rdx0 := frx0.rd
  have zx00 := rd_cons rfl rdx0
  obtain ⟨rfl, _⟩ := rd_i1 zx00.1
  obtain ⟨ax01, cx01, rfl, _⟩ := rd_list zx00.2
  clear zx00
  have Rx0 := Lib.hid rdx0
  clear rdx0 frx0
  clear qa00 qa01 qa10 qa11
  have qa00 := hssssdsssss.cellAt 0 rfl 0 rfl
  have qa01 := hssssdsssss.cellAt 0 rfl 1 rfl
  have qa10 := hssssdsssss.cellAt 1 rfl 0 rfl
  have qa11 := hssssdsssss.cellAt 1 rfl 1 rfl
  have hz0 := hssssdsssss.hi
  have hssssdsssssa := hssssdsssss.alloc #[.int .i64 x00, .slice ax01 x01.length cx01] 36 rfl
  have Rx0' := Lib.hid (Rd.mono Rx0.out (belowA _ (.cells #[.int .i64 x00, .slice ax01 x01.length cx01] 36)))
  clear Rx0
  clear qa00 qa01 qa10 qa11
  have qa00 := hssssdsssssa.cellAt 0 rfl 0 rfl
  have qa01 := hssssdsssssa.cellAt 0 rfl 1 rfl
  have qa10 := hssssdsssssa.cellAt 1 rfl 0 rfl
  have qa11 := hssssdsssssa.cellAt 1 rfl 1 rfl
  have qx00 := hssssdsssssa.cellAt 2 rfl 0 rfl
  have qx01 := hssssdsssssa.cellAt 2 rfl 1 rfl
  go_wp2_with fail
  refine (toInstance_b (x10, x11) _ _ _ (Rd.mono H1.out hssssdsssssa.bel) gc1).mono ?_
  rintro e w9 ⟨ux10, ux11, rfl, frx1, hb9⟩
  have Rx0'' := Lib.hid (Rd.mono Rx0'.out hb9)
  clear Rx0'
  have hssssdsssssas := hssssdsssssa.step hb9
  have rdx1 := frx1.rd
  have zx10 := rd_cons rfl rdx1
  obtain ⟨rfl, _⟩ := rd_i1 zx10.1
  obtain ⟨ax11, cx11, rfl, _⟩ := rd_list zx10.2
  clear zx10
  have Rx1 := Lib.hid rdx1
  clear rdx1 frx1
  clear qa00 qa01 qa10 qa11 qx00 qx01
  have qa00 := hssssdsssssas.cellAt 0 rfl 0 rfl
  have qa01 := hssssdsssssas.cellAt 0 rfl 1 rfl
  have qa10 := hssssdsssssas.cellAt 1 rfl 0 rfl
  have qa11 := hssssdsssssas.cellAt 1 rfl 1 rfl
  have qx00 := hssssdsssssas.cellAt 2 rfl 0 rfl
  have qx01 := hssssdsssssas.cellAt 2 rfl 1 rfl
  have hz1 := hssssdsssssas.hi
  have hssssdsssssasa := hssssdsssssas.alloc #[.int .i64 x10, .slice ax11 x11.length cx11] 40 rfl
  have Rx0''' := Lib.hid (Rd.mono Rx0''.out (belowA _ (.cells #[.int .i64 x10, .slice ax11 x11.length cx11] 40)))
  clear Rx0''
  have Rx1' := Lib.hid (Rd.mono Rx1.out (belowA _ (.cells #[.int .i64 x10, .slice ax11 x11.length cx11] 40)))
  clear Rx1
  clear qa00 qa01 qa10 qa11 qx00 qx01
  have qa00 := hssssdsssssasa.cellAt 0 rfl 0 rfl
  have qa01 := hssssdsssssasa.cellAt 0 rfl 1 rfl
  have qa10 := hssssdsssssasa.cellAt 1 rfl 0 rfl
  have qa11 := hssssdsssssasa.cellAt 1 rfl 1 rfl
  have qx00 := hssssdsssssasa.cellAt 2 rfl 0 rfl
  have qx01 := hssssdsssssasa.cellAt 2 rfl 1 rfl
  have qx10 := hssssdsssssasa.cellAt 3 rfl 0 rfl
  have qx11 := hssssdsssssasa.cellAt 3 rfl 1 rfl
  go_wp2_with fail
  refine (toInt64SS_b x2 _ _ (Rd.mono H2.out hssssdsssssasa.bel) gc2).mono ?_
  rintro e w10 ⟨ux20, rfl, frx2, hb10⟩
  have Rx0'''' := Lib.hid (Rd.mono Rx0'''.out hb10)
  clear Rx0'''
  have Rx1'' := Lib.hid (Rd.mono Rx1'.out hb10)
  clear Rx1'
  have hssssdsssssasas := hssssdsssssasa.step hb10
  have rdx2 := frx2.rd
  obtain ⟨ax2, cx2, rfl, _⟩ := rd_list rdx2
  have Rx2 := Lib.hid rdx2
  clear rdx2 frx2
  clear qa00 qa01 qa10 qa11 qx00 qx01 qx10 qx11
  have qa00 := hssssdsssssasas.cellAt 0 rfl 0 rfl
  have qa01 := hssssdsssssasas.cellAt 0 rfl 1 rfl
  have qa10 := hssssdsssssasas.cellAt 1 rfl 0 rfl
  have qa11 := hssssdsssssasas.cellAt 1 rfl 1 rfl
  have qx00 := hssssdsssssasas.cellAt 2 rfl 0 rfl
  have qx01 := hssssdsssssasas.cellAt 2 rfl 1 rfl
  have qx10 := hssssdsssssasas.cellAt 3 rfl 0 rfl
  have qx11 := hssssdsssssasas.cellAt 3 rfl 1 rfl
  go_wp2_with fail
  refine (IsArcConsistent_c (x00, x01) _ _ (x10, x11) _ _ x2 _ _ Rx0''''.out Rx1''.out Rx2.out (cost_lens gc2)).mono ?_
  rintro e w11 ⟨rfl, hb11⟩
  have Rx0''''' := Lib.hid (Rd.mono Rx0''''.out hb11)
  clear Rx0''''
  have Rx1''' := Lib.hid (Rd.mono Rx1''.out hb11)
  clear Rx1''
  have Rx2' := Lib.hid (Rd.mono Rx2.out hb11)
  clear Rx2
  have hssssdsssssasass := hssssdsssssasas.step hb11
  clear qa00 qa01 qa10 qa11 qx00 qx01 qx10 qx11
  have qa00 := hssssdsssssasass.cellAt 0 rfl 0 rfl
  have qa01 := hssssdsssssasass.cellAt 0 rfl 1 rfl
  have qa10 := hssssdsssssasass.cellAt 1 rfl 0 rfl
  have qa11 := hssssdsssssasass.cellAt 1 rfl 1 rfl
  have qx00 := hssssdsssssasass.cellAt 2 rfl 0 rfl
  have qx01 := hssssdsssssasass.cellAt 2 rfl 1 rfl
  have qx10 := hssssdsssssasass.cellAt 3 rfl 0 rfl
  have qx11 := hssssdsssssasass.cellAt 3 rfl 1 rfl
  have hr0 : ((isArcF (x00, x01) (x10, x11) x2).1 != (isArcF (x00, x01) (x10, x11) x2).1) = false := by simp
  have hr1 : ((isArcF (x00, x01) (x10, x11) x2).2 != (isArcF (x00, x01) (x10, x11) x2).2) = false := by simp
  go_wp2_with fail
  refine wp_region_noPanic (wp_region_el (fun w' => w'.cell? ⟨w.heap.size, 0, none⟩ = some (.int .i64 x00) ∧ w'.cell? ⟨w.heap.size, 1, none⟩ = some (.slice a01 x01.length c01) ∧ w'.cell? ⟨w.heap.size + 1, 0, none⟩ = some (.int .i64 x10) ∧ w'.cell? ⟨w.heap.size + 1, 1, none⟩ = some (.slice a11 x11.length c11) ∧ w'.cell? ⟨w8.heap.size, 0, none⟩ = some (.int .i64 x00) ∧ w'.cell? ⟨w8.heap.size, 1, none⟩ = some (.slice ax01 x01.length cx01) ∧ w'.cell? ⟨w9.heap.size, 0, none⟩ = some (.int .i64 x10) ∧ w'.cell? ⟨w9.heap.size, 1, none⟩ = some (.slice ax11 x11.length cx11)) [(0, 0), (1, 0), (2, 1), (3, 1), (4, 0)] (by kernel_rfl) (by kernel_rfl) (by kernel_rfl) rfl ?_ (fun _ _ _ _ _ h => h) ?_)
  · exact ⟨(hssssdsssssasass.drew).cellAt 0 rfl 0 rfl, (hssssdsssssasass.drew).cellAt 0 rfl 1 rfl, (hssssdsssssasass.drew).cellAt 1 rfl 0 rfl, (hssssdsssssasass.drew).cellAt 1 rfl 1 rfl, (hssssdsssssasass.drew).cellAt 2 rfl 0 rfl, (hssssdsssssasass.drew).cellAt 2 rfl 1 rfl, (hssssdsssssasass.drew).cellAt 3 rfl 0 rfl, (hssssdsssssasass.drew).cellAt 3 rfl 1 rfl⟩
  have Rx0'''''' := Lib.hid (Rd.mono Rx0'''''.out (belowD _))
  clear Rx0'''''
  have Rx1'''' := Lib.hid (Rd.mono Rx1'''.out (belowD _))
  clear Rx1'''
  have Rx2'' := Lib.hid (Rd.mono Rx2'.out (belowD _))
  clear Rx2'
  have hssssdsssssasassd := hssssdsssssasass.drew
  (repeat (first | (apply el_skip rfl (by rfl); try simp only [Act.put, List.setIfInBounds_toArray, List.set_cons_zero, List.set_cons_succ]) | (apply el_float rfl (by rfl); (· (intro w' hS; go_simp <;> with_reducible rfl)); (try simp only [Act.put, List.setIfInBounds_toArray, List.set_cons_zero, List.set_cons_succ]))))
  refine el_hard rfl (by rfl) (fun K hK => ?_)
  go_wp2_with (go_at_call 14; refine (toTemplate_b (x00, x01) _ _ _ (Rd.mono H0.out hssssdsssssasassd.bel) gc0).mono ?_; rintro e w12 ⟨uy00, uy01, rfl, fry0, hb12⟩)
  have Rx0''''''' := Lib.hid (Rd.mono Rx0''''''.out hb12)
  clear Rx0''''''
  have Rx1''''' := Lib.hid (Rd.mono Rx1''''.out hb12)
  clear Rx1''''
  have Rx2''' := Lib.hid (Rd.mono Rx2''.out hb12)
  clear Rx2''
  have hssssdsssssasassds := hssssdsssssasassd.step hb12
  have rdy0 := fry0.rd
  have zy00 := rd_cons rfl rdy0
  obtain ⟨rfl, _⟩ := rd_i1 zy00.1
  obtain ⟨ay01, cy01, rfl, _⟩ := rd_list zy00.2
  clear zy00
  have Ry0 := Lib.hid rdy0
  clear rdy0 fry0
  refine ⟨⟨hssssdsssssasassds.cellAt 0 rfl 0 rfl, hssssdsssssasassds.cellAt 0 rfl 1 rfl, hssssdsssssasassds.cellAt 1 rfl 0 rfl, hssssdsssssasassds.cellAt 1 rfl 1 rfl, hssssdsssssasassds.cellAt 2 rfl 0 rfl, hssssdsssssasassds.cellAt 2 rfl 1 rfl, hssssdsssssasassds.cellAt 3 rfl 0 rfl, hssssdsssssasassds.cellAt 3 rfl 1 rfl⟩, ?_⟩
  (repeat (first | (apply el_skip rfl (by rfl); try simp only [Act.put, List.setIfInBounds_toArray, List.set_cons_zero, List.set_cons_succ]) | (apply el_float rfl (by rfl); (· (intro w' hS; go_simp <;> with_reducible rfl)); (try simp only [Act.put, List.setIfInBounds_toArray, List.set_cons_zero, List.set_cons_succ]))))
  refine el_hard rfl (by rfl) (fun K hK => ?_)
  go_wp2_with (go_at_call 19; refine (eqTemplate_s (x00, x01) _ _ _ _ _ Rx0'''''''.out Ry0.out).mono ?_; rintro e w13 ⟨rfl, hb13⟩)
  clear Ry0
  clear Rx0'''''''
  have Rx1'''''' := Lib.hid (Rd.mono Rx1'''''.out hb13)
  clear Rx1'''''
  have Rx2'''' := Lib.hid (Rd.mono Rx2'''.out hb13)
  clear Rx2'''
  have hssssdsssssasassdss := hssssdsssssasassds.step hb13
  refine ⟨⟨hssssdsssssasassdss.cellAt 0 rfl 0 rfl, hssssdsssssasassdss.cellAt 0 rfl 1 rfl, hssssdsssssasassdss.cellAt 1 rfl 0 rfl, hssssdsssssasassdss.cellAt 1 rfl 1 rfl, hssssdsssssasassdss.cellAt 2 rfl 0 rfl, hssssdsssssasassdss.cellAt 2 rfl 1 rfl, hssssdsssssasassdss.cellAt 3 rfl 0 rfl, hssssdsssssasassdss.cellAt 3 rfl 1 rfl⟩, ?_⟩
  (repeat (first | (apply el_skip rfl (by rfl); try simp only [Act.put, List.setIfInBounds_toArray, List.set_cons_zero, List.set_cons_succ]) | (apply el_float rfl (by rfl); (· (intro w' hS; go_simp <;> with_reducible rfl)); (try simp only [Act.put, List.setIfInBounds_toArray, List.set_cons_zero, List.set_cons_succ]))))
  refine el_nil (NoPanic.normal ?_)
  clear qa00 qa01 qa10 qa11 qx00 qx01 qx10 qx11
  have qa00 := hssssdsssssasassdss.cellAt 0 rfl 0 rfl
  have qa01 := hssssdsssssasassdss.cellAt 0 rfl 1 rfl
  have qa10 := hssssdsssssasassdss.cellAt 1 rfl 0 rfl
  have qa11 := hssssdsssssasassdss.cellAt 1 rfl 1 rfl
  have qx00 := hssssdsssssasassdss.cellAt 2 rfl 0 rfl
  have qx01 := hssssdsssssasassdss.cellAt 2 rfl 1 rfl
  have qx10 := hssssdsssssasassdss.cellAt 3 rfl 0 rfl
  have qx11 := hssssdsssssasassdss.cellAt 3 rfl 1 rfl
  go_wp2_with fail
  refine wp_region_noPanic (wp_region_el (fun w' => w'.cell? ⟨w.heap.size, 0, none⟩ = some (.int .i64 x00) ∧ w'.cell? ⟨w.heap.size, 1, none⟩ = some (.slice a01 x01.length c01) ∧ w'.cell? ⟨w.heap.size + 1, 0, none⟩ = some (.int .i64 x10) ∧ w'.cell? ⟨w.heap.size + 1, 1, none⟩ = some (.slice a11 x11.length c11) ∧ w'.cell? ⟨w8.heap.size, 0, none⟩ = some (.int .i64 x00) ∧ w'.cell? ⟨w8.heap.size, 1, none⟩ = some (.slice ax01 x01.length cx01) ∧ w'.cell? ⟨w9.heap.size, 0, none⟩ = some (.int .i64 x10) ∧ w'.cell? ⟨w9.heap.size, 1, none⟩ = some (.slice ax11 x11.length cx11)) [(0, 0), (1, 0), (2, 1), (3, 1), (4, 0)] (by kernel_rfl) (by kernel_rfl) (by kernel_rfl) rfl ?_ (fun _ _ _ _ _ h => h) ?_)
  · exact ⟨(hssssdsssssasassdss.drew).cellAt 0 rfl 0 rfl, (hssssdsssssasassdss.drew).cellAt 0 rfl 1 rfl, (hssssdsssssasassdss.drew).cellAt 1 rfl 0 rfl, (hssssdsssssasassdss.drew).cellAt 1 rfl 1 rfl, (hssssdsssssasassdss.drew).cellAt 2 rfl 0 rfl, (hssssdsssssasassdss.drew).cellAt 2 rfl 1 rfl, (hssssdsssssasassdss.drew).cellAt 3 rfl 0 rfl, (hssssdsssssasassdss.drew).cellAt 3 rfl 1 rfl⟩
  have Rx1''''''' := Lib.hid (Rd.mono Rx1''''''.out (belowD _))
  clear Rx1''''''
  have Rx2''''' := Lib.hid (Rd.mono Rx2''''.out (belowD _))
  clear Rx2''''
  have hssssdsssssasassdssd := hssssdsssssasassdss.drew
  (repeat (first | (apply el_skip rfl (by rfl); try simp only [Act.put, List.setIfInBounds_toArray, List.set_cons_zero, List.set_cons_succ]) | (apply el_float rfl (by rfl); (· (intro w' hS; go_simp <;> with_reducible rfl)); (try simp only [Act.put, List.setIfInBounds_toArray, List.set_cons_zero, List.set_cons_succ]))))
  refine el_hard rfl (by rfl) (fun K hK => ?_)
  go_wp2_with (go_at_call 15; refine (toInstance_b (x10, x11) _ _ _ (Rd.mono H1.out hssssdsssssasassdssd.bel) gc1).mono ?_; rintro e w14 ⟨uy10, uy11, rfl, fry1, hb14⟩)
  have Rx1'''''''' := Lib.hid (Rd.mono Rx1'''''''.out hb14)
  clear Rx1'''''''
  have Rx2'''''' := Lib.hid (Rd.mono Rx2'''''.out hb14)
  clear Rx2'''''
  have hssssdsssssasassdssds := hssssdsssssasassdssd.step hb14
  have rdy1 := fry1.rd
  have zy10 := rd_cons rfl rdy1
  obtain ⟨rfl, _⟩ := rd_i1 zy10.1
  obtain ⟨ay11, cy11, rfl, _⟩ := rd_list zy10.2
  clear zy10
  have Ry1 := Lib.hid rdy1
  clear rdy1 fry1
  refine ⟨⟨hssssdsssssasassdssds.cellAt 0 rfl 0 rfl, hssssdsssssasassdssds.cellAt 0 rfl 1 rfl, hssssdsssssasassdssds.cellAt 1 rfl 0 rfl, hssssdsssssasassdssds.cellAt 1 rfl 1 rfl, hssssdsssssasassdssds.cellAt 2 rfl 0 rfl, hssssdsssssasassdssds.cellAt 2 rfl 1 rfl, hssssdsssssasassdssds.cellAt 3 rfl 0 rfl, hssssdsssssasassdssds.cellAt 3 rfl 1 rfl⟩, ?_⟩
  (repeat (first | (apply el_skip rfl (by rfl); try simp only [Act.put, List.setIfInBounds_toArray, List.set_cons_zero, List.set_cons_succ]) | (apply el_float rfl (by rfl); (· (intro w' hS; go_simp <;> with_reducible rfl)); (try simp only [Act.put, List.setIfInBounds_toArray, List.set_cons_zero, List.set_cons_succ]))))
  refine el_hard rfl (by rfl) (fun K hK => ?_)
  go_wp2_with (go_at_call 20; refine (eqInstance_s (x10, x11) _ _ _ _ _ Rx1''''''''.out Ry1.out).mono ?_; rintro e w15 ⟨rfl, hb15⟩)
  clear Ry1
  clear Rx1''''''''
  have Rx2''''''' := Lib.hid (Rd.mono Rx2''''''.out hb15)
  clear Rx2''''''
  have hssssdsssssasassdssdss := hssssdsssssasassdssds.step hb15
  refine ⟨⟨hssssdsssssasassdssdss.cellAt 0 rfl 0 rfl, hssssdsssssasassdssdss.cellAt 0 rfl 1 rfl, hssssdsssssasassdssdss.cellAt 1 rfl 0 rfl, hssssdsssssasassdssdss.cellAt 1 rfl 1 rfl, hssssdsssssasassdssdss.cellAt 2 rfl 0 rfl, hssssdsssssasassdssdss.cellAt 2 rfl 1 rfl, hssssdsssssasassdssdss.cellAt 3 rfl 0 rfl, hssssdsssssasassdssdss.cellAt 3 rfl 1 rfl⟩, ?_⟩
  (repeat (first | (apply el_skip rfl (by rfl); try simp only [Act.put, List.setIfInBounds_toArray, List.set_cons_zero, List.set_cons_succ]) | (apply el_float rfl (by rfl); (· (intro w' hS; go_simp <;> with_reducible rfl)); (try simp only [Act.put, List.setIfInBounds_toArray, List.set_cons_zero, List.set_cons_succ]))))
  refine el_nil (NoPanic.normal ?_)
  clear qa00 qa01 qa10 qa11 qx00 qx01 qx10 qx11
  have qa00 := hssssdsssssasassdssdss.cellAt 0 rfl 0 rfl
  have qa01 := hssssdsssssasassdssdss.cellAt 0 rfl 1 rfl
  have qa10 := hssssdsssssasassdssdss.cellAt 1 rfl 0 rfl
  have qa11 := hssssdsssssasassdssdss.cellAt 1 rfl 1 rfl
  have qx00 := hssssdsssssasassdssdss.cellAt 2 rfl 0 rfl
  have qx01 := hssssdsssssasassdssdss.cellAt 2 rfl 1 rfl
  have qx10 := hssssdsssssasassdssdss.cellAt 3 rfl 0 rfl
  have qx11 := hssssdsssssasassdssdss.cellAt 3 rfl 1 rfl
  go_wp2_with fail
  refine (toInt64SS_b x2 _ _ (Rd.mono H2.out hssssdsssssasassdssdss.bel) gc2).mono ?_
  rintro e w16 ⟨uy20, rfl, fry2, hb16⟩
  have Rx2'''''''' := Lib.hid (Rd.mono Rx2'''''''.out hb16)
  clear Rx2'''''''
  have hssssdsssssasassdssdsss := hssssdsssssasassdssdss.step hb16
  have rdy2 := fry2.rd
  obtain ⟨ay2, cy2, rfl, _⟩ := rd_list rdy2
  have Ry2 := Lib.hid rdy2
  clear rdy2 fry2
  clear qa00 qa01 qa10 qa11 qx00 qx01 qx10 qx11
  have qa00 := hssssdsssssasassdssdsss.cellAt 0 rfl 0 rfl
  have qa01 := hssssdsssssasassdssdsss.cellAt 0 rfl 1 rfl
  have qa10 := hssssdsssssasassdssdsss.cellAt 1 rfl 0 rfl
  have qa11 := hssssdsssssasassdssdsss.cellAt 1 rfl 1 rfl
  have qx00 := hssssdsssssasassdssdsss.cellAt 2 rfl 0 rfl
  have qx01 := hssssdsssssasassdssdsss.cellAt 2 rfl 1 rfl
  have qx10 := hssssdsssssasassdssdsss.cellAt 3 rfl 0 rfl
  have qx11 := hssssdsssssasassdssdsss.cellAt 3 rfl 1 rfl
  go_wp2_with fail
  refine (eqInt64SS_s x2 _ _ _ Rx2''''''''.out Ry2.out).mono ?_
  rintro e w17 ⟨rfl, hb17⟩
  clear Ry2
  clear Rx2''''''''
  have hssssdsssssasassdssdssss := hssssdsssssasassdssdsss.step hb17
  clear qa00 qa01 qa10 qa11 qx00 qx01 qx10 qx11
  have qa00 := hssssdsssssasassdssdssss.cellAt 0 rfl 0 rfl
  have qa01 := hssssdsssssasassdssdssss.cellAt 0 rfl 1 rfl
  have qa10 := hssssdsssssasassdssdssss.cellAt 1 rfl 0 rfl
  have qa11 := hssssdsssssasassdssdssss.cellAt 1 rfl 1 rfl
  have qx00 := hssssdsssssasassdssdssss.cellAt 2 rfl 0 rfl
  have qx01 := hssssdsssssasassdssdssss.cellAt 2 rfl 1 rfl
  have qx10 := hssssdsssssasassdssdssss.cellAt 3 rfl 0 rfl
  have qx11 := hssssdsssssasassdssdssss.cellAt 3 rfl 1 rfl
  go_wp2_with fail
  go_ret
  exact ⟨rfl, hssssdsssssasassdssdssss.bel⟩

end Go.Proofs.YtjkjfjpajmjglaaGreat
