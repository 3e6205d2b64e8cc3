/-
  THE LAW FnExactFoldValues, WALKED. (Printed by wip/genlaws.py.)
-/
import Derived.Test.YtjkjfjpajmjglaaKinds
import Derived.Test.YtjkjfjpajmjglaaFoldV
namespace Go.Proofs.Ytjkjfjpajmjglaa
open Go.RowKit Go.Shelf
open Rep (Rd Own sz)
set_option linter.unusedSimpArgs false
set_option linter.unusedVariables false

set_option maxRecDepth 100000 in
set_option maxHeartbeats 2000000 in
theorem FnExactFoldValues_c (x0 : Tmpl) (v00 v01 : Value) (x1 : OpT) (v10 v11 : Value) (x2 : List Int) (v20 : Value) (w : World) (h0 : Rd w [v00, v01] x0) (h1 : Rd w [v10, v11] x1) (h2 : Rd w [v20] x2) :
    Calls Try.prog 3 #[.agg #[v00, v01], .agg #[v10, v11], v20] w fun e w' => e = .returned (.bool true) ∧ Below w.heap.size w w' := by
  obtain ⟨x00, x01⟩ := x0
  have z00 := rd_cons rfl h0
  obtain ⟨rfl, _⟩ := rd_i1 z00.1
  obtain ⟨a01, c01, rfl, _⟩ := rd_list z00.2
  clear z00
  have H0 := Lib.hid h0
  clear h0
  obtain ⟨x10, x11⟩ := x1
  have z10 := rd_cons rfl h1
  obtain ⟨rfl, _⟩ := rd_i1 z10.1
  obtain ⟨a11, c11, rfl, _⟩ := rd_list z10.2
  clear z10
  have H1 := Lib.hid h1
  clear h1
  obtain ⟨a2, c2, rfl, _⟩ := rd_list h2
  have H2 := Lib.hid h2
  clear h2
  have hs := ((St.start w).alloc #[.int .i64 x00, .slice a01 x01.length c01] 24 rfl).alloc #[.int .i64 x10, .slice a11 x11.length c11] 27 (n := w.heap.size + 1) (by simp)
  go_enter Try.func3, Try.ntmps3
  by_cases hL2 : 1048576 < x2.length
  · go_wp2_with fail
    go_ret
    exact ⟨rfl, hs.bel⟩
  go_wp2_with fail
  refine (szTemplate_b (x00, x01) _ _ (1048576) _ (Rd.mono H0.out hs.bel) (by omega) (by omega)).mono ?_
  rintro e w1 ⟨rfl, hb1⟩
  have hss := hs.step hb1
  rcases less_cases (1048576) (cost_Template (x00, x01)) with ⟨e1, g0⟩ | ⟨e1, g0⟩
  · rw [e1]
    clear e1
    go_wp2_with fail
    go_ret
    exact ⟨rfl, hss.bel⟩
  rw [e1]
  clear e1
  have qa00 := hss.cellAt 0 rfl 0 rfl
  have qa01 := hss.cellAt 0 rfl 1 rfl
  have qa10 := hss.cellAt 1 rfl 0 rfl
  have qa11 := hss.cellAt 1 rfl 1 rfl
  go_wp2_with fail
  refine (szOp_b (x10, x11) _ _ (1048576 - (cost_Template (x00, x01))) _ (Rd.mono H1.out hss.bel) (by omega) (by omega)).mono ?_
  rintro e w2 ⟨rfl, hb2⟩
  have hsss := hss.step hb2
  rcases less_cases (1048576 - (cost_Template (x00, x01))) (cost_Op (x10, x11)) with ⟨e1, g1⟩ | ⟨e1, g1⟩
  · rw [e1]
    clear e1
    go_wp2_with fail
    go_ret
    exact ⟨rfl, hsss.bel⟩
  rw [e1]
  clear e1
  clear qa00 qa01 qa10 qa11
  have qa00 := hsss.cellAt 0 rfl 0 rfl
  have qa01 := hsss.cellAt 0 rfl 1 rfl
  have qa10 := hsss.cellAt 1 rfl 0 rfl
  have qa11 := hsss.cellAt 1 rfl 1 rfl
  have gc0 : cost_Template (x00, x01) ≤ 1048576 := by omega
  have gc1 : cost_Op (x10, x11) ≤ 1048576 := by omega
  go_wp2_with fail
  refine wp_region_noPanic (wp_region_el (fun w' => w'.cell? ⟨w.heap.size, 0, none⟩ = some (.int .i64 x00) ∧ w'.cell? ⟨w.heap.size, 1, none⟩ = some (.slice a01 x01.length c01) ∧ w'.cell? ⟨w.heap.size + 1, 0, none⟩ = some (.int .i64 x10) ∧ w'.cell? ⟨w.heap.size + 1, 1, none⟩ = some (.slice a11 x11.length c11)) [(0, 0), (2, 0), (4, 0), (1, 1), (3, 1), (5, 1), (6, 1), (7, 0), (8, 0), (9, 0), (10, 0), (11, 0)] (by kernel_rfl) (by kernel_rfl) (by kernel_rfl) rfl ?_ (fun _ _ _ _ _ h => h) ?_)
  · exact ⟨(hsss.drew).cellAt 0 rfl 0 rfl, (hsss.drew).cellAt 0 rfl 1 rfl, (hsss.drew).cellAt 1 rfl 0 rfl, (hsss.drew).cellAt 1 rfl 1 rfl⟩
  have hsssd := hsss.drew
  (repeat (first | (apply el_skip rfl (by rfl); try simp only [Act.put, List.setIfInBounds_toArray, List.set_cons_zero, List.set_cons_succ]) | (apply el_float rfl (by rfl); (· (intro w' hS; go_simp <;> with_reducible rfl)); (try simp only [Act.put, List.setIfInBounds_toArray, List.set_cons_zero, List.set_cons_succ]))))
  refine el_hard rfl (by rfl) (fun K hK => ?_)
  go_wp2_with (go_at_call 11; refine (toTemplate_b (x00, x01) _ _ _ (Rd.mono H0.out hsssd.bel) gc0).mono ?_; rintro e w3 ⟨us00, us01, rfl, frs0, hb3⟩)
  have hsssds := hsssd.step hb3
  have rds0 := frs0.rd
  have zs00 := rd_cons rfl rds0
  obtain ⟨rfl, _⟩ := rd_i1 zs00.1
  obtain ⟨as01, cs01, rfl, _⟩ := rd_list zs00.2
  clear zs00
  have Rs0 := Lib.hid rds0
  clear rds0 frs0
  refine ⟨⟨hsssds.cellAt 0 rfl 0 rfl, hsssds.cellAt 0 rfl 1 rfl, hsssds.cellAt 1 rfl 0 rfl, hsssds.cellAt 1 rfl 1 rfl⟩, ?_⟩
  (repeat (first | (apply el_skip rfl (by rfl); try simp only [Act.put, List.setIfInBounds_toArray, List.set_cons_zero, List.set_cons_succ]) | (apply el_float rfl (by rfl); (· (intro w' hS; go_simp <;> with_reducible rfl)); (try simp only [Act.put, List.setIfInBounds_toArray, List.set_cons_zero, List.set_cons_succ]))))
  refine el_hard rfl (by rfl) (fun K hK => ?_)
  go_wp2_with (go_at_call 12; refine (toOp_b (x10, x11) _ _ _ (Rd.mono H1.out hsssds.bel) gc1).mono ?_; rintro e w4 ⟨us10, us11, rfl, frs1, hb4⟩)
  have Rs0' := Lib.hid (Rd.mono Rs0.out hb4)
  clear Rs0
  have hsssdss := hsssds.step hb4
  have rds1 := frs1.rd
  have zs10 := rd_cons rfl rds1
  obtain ⟨rfl, _⟩ := rd_i1 zs10.1
  obtain ⟨as11, cs11, rfl, _⟩ := rd_list zs10.2
  clear zs10
  have Rs1 := Lib.hid rds1
  clear rds1 frs1
  refine ⟨⟨hsssdss.cellAt 0 rfl 0 rfl, hsssdss.cellAt 0 rfl 1 rfl, hsssdss.cellAt 1 rfl 0 rfl, hsssdss.cellAt 1 rfl 1 rfl⟩, ?_⟩
  (repeat (first | (apply el_skip rfl (by rfl); try simp only [Act.put, List.setIfInBounds_toArray, List.set_cons_zero, List.set_cons_succ]) | (apply el_float rfl (by rfl); (· (intro w' hS; go_simp <;> with_reducible rfl)); (try simp only [Act.put, List.setIfInBounds_toArray, List.set_cons_zero, List.set_cons_succ]))))
  refine el_hard rfl (by rfl) (fun K hK => ?_)
  go_wp2_with (go_at_call 13; refine (toInt64S_b x2 _ _ (Rd.mono H2.out hsssdss.bel) (by omega)).mono ?_; rintro e w5 ⟨us20, rfl, frs2, hb5⟩)
  have Rs0'' := Lib.hid (Rd.mono Rs0'.out hb5)
  clear Rs0'
  have Rs1' := Lib.hid (Rd.mono Rs1.out hb5)
  clear Rs1
  have hsssdsss := hsssdss.step hb5
  have rds2 := frs2.rd
  obtain ⟨as2, cs2, rfl, _⟩ := rd_list rds2
  have Rs2 := Lib.hid rds2
  clear rds2 frs2
  refine ⟨⟨hsssdsss.cellAt 0 rfl 0 rfl, hsssdsss.cellAt 0 rfl 1 rfl, hsssdsss.cellAt 1 rfl 0 rfl, hsssdsss.cellAt 1 rfl 1 rfl⟩, ?_⟩
  (repeat (first | (apply el_skip rfl (by rfl); try simp only [Act.put, List.setIfInBounds_toArray, List.set_cons_zero, List.set_cons_succ]) | (apply el_float rfl (by rfl); (· (intro w' hS; go_simp <;> with_reducible rfl)); (try simp only [Act.put, List.setIfInBounds_toArray, List.set_cons_zero, List.set_cons_succ]))))
  refine el_hard rfl (by rfl) (fun K hK => ?_)
  go_wp2_with (go_at_call 10; refine (sFoldValues_c (x00, x01) _ _ (x10, x11) _ _ x2 _ _ Rs0''.out Rs1'.out Rs2.out).mono ?_; rintro e w6 ⟨rfl, hb6⟩)
  clear Rs0''
  clear Rs1'
  clear Rs2
  have hsssdssss := hsssdsss.step hb6
  refine ⟨⟨hsssdssss.cellAt 0 rfl 0 rfl, hsssdssss.cellAt 0 rfl 1 rfl, hsssdssss.cellAt 1 rfl 0 rfl, hsssdssss.cellAt 1 rfl 1 rfl⟩, ?_⟩
  (repeat (first | (apply el_skip rfl (by rfl); try simp only [Act.put, List.setIfInBounds_toArray, List.set_cons_zero, List.set_cons_succ]) | (apply el_float rfl (by rfl); (· (intro w' hS; go_simp <;> with_reducible rfl)); (try simp only [Act.put, List.setIfInBounds_toArray, List.set_cons_zero, List.set_cons_succ]))))
  refine el_nil (NoPanic.normal ?_)
  clear qa00 qa01 qa10 qa11
  have qa00 := hsssdssss.cellAt 0 rfl 0 rfl
  have qa01 := hsssdssss.cellAt 0 rfl 1 rfl
  have qa10 := hsssdssss.cellAt 1 rfl 0 rfl
  have qa11 := hsssdssss.cellAt 1 rfl 1 rfl
  go_wp2_with fail
  refine (toTemplate_b (x00, x01) _ _ _ (Rd.mono H0.out hsssdssss.bel) gc0).mono ?_
  rintro e w7 ⟨ux00, ux01, rfl, frx0, hb7⟩
  have hsssdsssss := hsssdssss.step hb7
  have rdx0 := frx0.rd
  have zx00 := rd_cons rfl rdx0
  obtain ⟨rfl, _⟩ := rd_i1 zx00.1
  obtain ⟨ax01, cx01, rfl, _⟩ := rd_list zx00.2
  clear zx00
  have Rx0 := Lib.hid rdx0
  clear rdx0 frx0
  clear qa00 qa01 qa10 qa11
  have qa00 := hsssdsssss.cellAt 0 rfl 0 rfl
  have qa01 := hsssdsssss.cellAt 0 rfl 1 rfl
  have qa10 := hsssdsssss.cellAt 1 rfl 0 rfl
  have qa11 := hsssdsssss.cellAt 1 rfl 1 rfl
  have hz0 := hsssdsssss.hi
  have hsssdsssssa := hsssdsssss.alloc #[.int .i64 x00, .slice ax01 x01.length cx01] 34 rfl
  have Rx0' := Lib.hid (Rd.mono Rx0.out (belowA _ (.cells #[.int .i64 x00, .slice ax01 x01.length cx01] 34)))
  clear Rx0
  clear qa00 qa01 qa10 qa11
  have qa00 := hsssdsssssa.cellAt 0 rfl 0 rfl
  have qa01 := hsssdsssssa.cellAt 0 rfl 1 rfl
  have qa10 := hsssdsssssa.cellAt 1 rfl 0 rfl
  have qa11 := hsssdsssssa.cellAt 1 rfl 1 rfl
  have qx00 := hsssdsssssa.cellAt 2 rfl 0 rfl
  have qx01 := hsssdsssssa.cellAt 2 rfl 1 rfl
  go_wp2_with fail
  refine (toOp_b (x10, x11) _ _ _ (Rd.mono H1.out hsssdsssssa.bel) gc1).mono ?_
  rintro e w8 ⟨ux10, ux11, rfl, frx1, hb8⟩
  have Rx0'' := Lib.hid (Rd.mono Rx0'.out hb8)
  clear Rx0'
  have hsssdsssssas := hsssdsssssa.step hb8
  have rdx1 := frx1.rd
  have zx10 := rd_cons rfl rdx1
  obtain ⟨rfl, _⟩ := rd_i1 zx10.1
  obtain ⟨ax11, cx11, rfl, _⟩ := rd_list zx10.2
  clear zx10
  have Rx1 := Lib.hid rdx1
  clear rdx1 frx1
  clear qa00 qa01 qa10 qa11 qx00 qx01
  have qa00 := hsssdsssssas.cellAt 0 rfl 0 rfl
  have qa01 := hsssdsssssas.cellAt 0 rfl 1 rfl
  have qa10 := hsssdsssssas.cellAt 1 rfl 0 rfl
  have qa11 := hsssdsssssas.cellAt 1 rfl 1 rfl
  have qx00 := hsssdsssssas.cellAt 2 rfl 0 rfl
  have qx01 := hsssdsssssas.cellAt 2 rfl 1 rfl
  have hz1 := hsssdsssssas.hi
  have hsssdsssssasa := hsssdsssssas.alloc #[.int .i64 x10, .slice ax11 x11.length cx11] 36 rfl
  have Rx0''' := Lib.hid (Rd.mono Rx0''.out (belowA _ (.cells #[.int .i64 x10, .slice ax11 x11.length cx11] 36)))
  clear Rx0''
  have Rx1' := Lib.hid (Rd.mono Rx1.out (belowA _ (.cells #[.int .i64 x10, .slice ax11 x11.length cx11] 36)))
  clear Rx1
  clear qa00 qa01 qa10 qa11 qx00 qx01
  have qa00 := hsssdsssssasa.cellAt 0 rfl 0 rfl
  have qa01 := hsssdsssssasa.cellAt 0 rfl 1 rfl
  have qa10 := hsssdsssssasa.cellAt 1 rfl 0 rfl
  have qa11 := hsssdsssssasa.cellAt 1 rfl 1 rfl
  have qx00 := hsssdsssssasa.cellAt 2 rfl 0 rfl
  have qx01 := hsssdsssssasa.cellAt 2 rfl 1 rfl
  have qx10 := hsssdsssssasa.cellAt 3 rfl 0 rfl
  have qx11 := hsssdsssssasa.cellAt 3 rfl 1 rfl
  go_wp2_with fail
  refine (toInt64S_b x2 _ _ (Rd.mono H2.out hsssdsssssasa.bel) (by omega)).mono ?_
  rintro e w9 ⟨ux20, rfl, frx2, hb9⟩
  have Rx0'''' := Lib.hid (Rd.mono Rx0'''.out hb9)
  clear Rx0'''
  have Rx1'' := Lib.hid (Rd.mono Rx1'.out hb9)
  clear Rx1'
  have hsssdsssssasas := hsssdsssssasa.step hb9
  have rdx2 := frx2.rd
  obtain ⟨ax2, cx2, rfl, _⟩ := rd_list rdx2
  have Rx2 := Lib.hid rdx2
  clear rdx2 frx2
  clear qa00 qa01 qa10 qa11 qx00 qx01 qx10 qx11
  have qa00 := hsssdsssssasas.cellAt 0 rfl 0 rfl
  have qa01 := hsssdsssssasas.cellAt 0 rfl 1 rfl
  have qa10 := hsssdsssssasas.cellAt 1 rfl 0 rfl
  have qa11 := hsssdsssssasas.cellAt 1 rfl 1 rfl
  have qx00 := hsssdsssssasas.cellAt 2 rfl 0 rfl
  have qx01 := hsssdsssssasas.cellAt 2 rfl 1 rfl
  have qx10 := hsssdsssssasas.cellAt 3 rfl 0 rfl
  have qx11 := hsssdsssssasas.cellAt 3 rfl 1 rfl
  go_wp2_with fail
  refine (FoldValues_c (x00, x01) _ _ (x10, x11) _ _ x2 _ _ Rx0''''.out Rx1''.out Rx2.out).mono ?_
  rintro e w10 ⟨rfl, hb10⟩
  have Rx0''''' := Lib.hid (Rd.mono Rx0''''.out hb10)
  clear Rx0''''
  have Rx1''' := Lib.hid (Rd.mono Rx1''.out hb10)
  clear Rx1''
  have Rx2' := Lib.hid (Rd.mono Rx2.out hb10)
  clear Rx2
  have hsssdsssssasass := hsssdsssssasas.step hb10
  clear qa00 qa01 qa10 qa11 qx00 qx01 qx10 qx11
  have qa00 := hsssdsssssasass.cellAt 0 rfl 0 rfl
  have qa01 := hsssdsssssasass.cellAt 0 rfl 1 rfl
  have qa10 := hsssdsssssasass.cellAt 1 rfl 0 rfl
  have qa11 := hsssdsssssasass.cellAt 1 rfl 1 rfl
  have qx00 := hsssdsssssasass.cellAt 2 rfl 0 rfl
  have qx01 := hsssdsssssasass.cellAt 2 rfl 1 rfl
  have qx10 := hsssdsssssasass.cellAt 3 rfl 0 rfl
  have qx11 := hsssdsssssasass.cellAt 3 rfl 1 rfl
  have hr0 : ((foldF (x00, x01) (x10, x11) x2).1 != (foldF (x00, x01) (x10, x11) x2).1) = false := by simp
  have hr1 : ((foldF (x00, x01) (x10, x11) x2).2 != (foldF (x00, x01) (x10, x11) x2).2) = false := by simp
  go_wp2_with fail
  refine wp_region_noPanic (wp_region_el (fun w' => w'.cell? ⟨w.heap.size, 0, none⟩ = some (.int .i64 x00) ∧ w'.cell? ⟨w.heap.size, 1, none⟩ = some (.slice a01 x01.length c01) ∧ w'.cell? ⟨w.heap.size + 1, 0, none⟩ = some (.int .i64 x10) ∧ w'.cell? ⟨w.heap.size + 1, 1, none⟩ = some (.slice a11 x11.length c11) ∧ w'.cell? ⟨w7.heap.size, 0, none⟩ = some (.int .i64 x00) ∧ w'.cell? ⟨w7.heap.size, 1, none⟩ = some (.slice ax01 x01.length cx01) ∧ w'.cell? ⟨w8.heap.size, 0, none⟩ = some (.int .i64 x10) ∧ w'.cell? ⟨w8.heap.size, 1, none⟩ = some (.slice ax11 x11.length cx11)) [(0, 0), (1, 0), (2, 1), (3, 1), (4, 0)] (by kernel_rfl) (by kernel_rfl) (by kernel_rfl) rfl ?_ (fun _ _ _ _ _ h => h) ?_)
  · exact ⟨(hsssdsssssasass.drew).cellAt 0 rfl 0 rfl, (hsssdsssssasass.drew).cellAt 0 rfl 1 rfl, (hsssdsssssasass.drew).cellAt 1 rfl 0 rfl, (hsssdsssssasass.drew).cellAt 1 rfl 1 rfl, (hsssdsssssasass.drew).cellAt 2 rfl 0 rfl, (hsssdsssssasass.drew).cellAt 2 rfl 1 rfl, (hsssdsssssasass.drew).cellAt 3 rfl 0 rfl, (hsssdsssssasass.drew).cellAt 3 rfl 1 rfl⟩
  have Rx0'''''' := Lib.hid (Rd.mono Rx0'''''.out (belowD _))
  clear Rx0'''''
  have Rx1'''' := Lib.hid (Rd.mono Rx1'''.out (belowD _))
  clear Rx1'''
  have Rx2'' := Lib.hid (Rd.mono Rx2'.out (belowD _))
  clear Rx2'
  have hsssdsssssasassd := hsssdsssssasass.drew
  (repeat (first | (apply el_skip rfl (by rfl); try simp only [Act.put, List.setIfInBounds_toArray, List.set_cons_zero, List.set_cons_succ]) | (apply el_float rfl (by rfl); (· (intro w' hS; go_simp <;> with_reducible rfl)); (try simp only [Act.put, List.setIfInBounds_toArray, List.set_cons_zero, List.set_cons_succ]))))
  refine el_hard rfl (by rfl) (fun K hK => ?_)
  go_wp2_with (go_at_call 11; refine (toTemplate_b (x00, x01) _ _ _ (Rd.mono H0.out hsssdsssssasassd.bel) gc0).mono ?_; rintro e w11 ⟨uy00, uy01, rfl, fry0, hb11⟩)
  have Rx0''''''' := Lib.hid (Rd.mono Rx0''''''.out hb11)
  clear Rx0''''''
  have Rx1''''' := Lib.hid (Rd.mono Rx1''''.out hb11)
  clear Rx1''''
  have Rx2''' := Lib.hid (Rd.mono Rx2''.out hb11)
  clear Rx2''
  have hsssdsssssasassds := hsssdsssssasassd.step hb11
  have rdy0 := fry0.rd
  have zy00 := rd_cons rfl rdy0
  obtain ⟨rfl, _⟩ := rd_i1 zy00.1
  obtain ⟨ay01, cy01, rfl, _⟩ := rd_list zy00.2
  clear zy00
  have Ry0 := Lib.hid rdy0
  clear rdy0 fry0
  refine ⟨⟨hsssdsssssasassds.cellAt 0 rfl 0 rfl, hsssdsssssasassds.cellAt 0 rfl 1 rfl, hsssdsssssasassds.cellAt 1 rfl 0 rfl, hsssdsssssasassds.cellAt 1 rfl 1 rfl, hsssdsssssasassds.cellAt 2 rfl 0 rfl, hsssdsssssasassds.cellAt 2 rfl 1 rfl, hsssdsssssasassds.cellAt 3 rfl 0 rfl, hsssdsssssasassds.cellAt 3 rfl 1 rfl⟩, ?_⟩
  (repeat (first | (apply el_skip rfl (by rfl); try simp only [Act.put, List.setIfInBounds_toArray, List.set_cons_zero, List.set_cons_succ]) | (apply el_float rfl (by rfl); (· (intro w' hS; go_simp <;> with_reducible rfl)); (try simp only [Act.put, List.setIfInBounds_toArray, List.set_cons_zero, List.set_cons_succ]))))
  refine el_hard rfl (by rfl) (fun K hK => ?_)
  go_wp2_with (go_at_call 15; refine (eqTemplate_s (x00, x01) _ _ _ _ _ Rx0'''''''.out Ry0.out).mono ?_; rintro e w12 ⟨rfl, hb12⟩)
  clear Ry0
  clear Rx0'''''''
  have Rx1'''''' := Lib.hid (Rd.mono Rx1'''''.out hb12)
  clear Rx1'''''
  have Rx2'''' := Lib.hid (Rd.mono Rx2'''.out hb12)
  clear Rx2'''
  have hsssdsssssasassdss := hsssdsssssasassds.step hb12
  refine ⟨⟨hsssdsssssasassdss.cellAt 0 rfl 0 rfl, hsssdsssssasassdss.cellAt 0 rfl 1 rfl, hsssdsssssasassdss.cellAt 1 rfl 0 rfl, hsssdsssssasassdss.cellAt 1 rfl 1 rfl, hsssdsssssasassdss.cellAt 2 rfl 0 rfl, hsssdsssssasassdss.cellAt 2 rfl 1 rfl, hsssdsssssasassdss.cellAt 3 rfl 0 rfl, hsssdsssssasassdss.cellAt 3 rfl 1 rfl⟩, ?_⟩
  (repeat (first | (apply el_skip rfl (by rfl); try simp only [Act.put, List.setIfInBounds_toArray, List.set_cons_zero, List.set_cons_succ]) | (apply el_float rfl (by rfl); (· (intro w' hS; go_simp <;> with_reducible rfl)); (try simp only [Act.put, List.setIfInBounds_toArray, List.set_cons_zero, List.set_cons_succ]))))
  refine el_nil (NoPanic.normal ?_)
  clear qa00 qa01 qa10 qa11 qx00 qx01 qx10 qx11
  have qa00 := hsssdsssssasassdss.cellAt 0 rfl 0 rfl
  have qa01 := hsssdsssssasassdss.cellAt 0 rfl 1 rfl
  have qa10 := hsssdsssssasassdss.cellAt 1 rfl 0 rfl
  have qa11 := hsssdsssssasassdss.cellAt 1 rfl 1 rfl
  have qx00 := hsssdsssssasassdss.cellAt 2 rfl 0 rfl
  have qx01 := hsssdsssssasassdss.cellAt 2 rfl 1 rfl
  have qx10 := hsssdsssssasassdss.cellAt 3 rfl 0 rfl
  have qx11 := hsssdsssssasassdss.cellAt 3 rfl 1 rfl
  go_wp2_with fail
  refine wp_region_noPanic (wp_region_el (fun w' => w'.cell? ⟨w.heap.size, 0, none⟩ = some (.int .i64 x00) ∧ w'.cell? ⟨w.heap.size, 1, none⟩ = some (.slice a01 x01.length c01) ∧ w'.cell? ⟨w.heap.size + 1, 0, none⟩ = some (.int .i64 x10) ∧ w'.cell? ⟨w.heap.size + 1, 1, none⟩ = some (.slice a11 x11.length c11) ∧ w'.cell? ⟨w7.heap.size, 0, none⟩ = some (.int .i64 x00) ∧ w'.cell? ⟨w7.heap.size, 1, none⟩ = some (.slice ax01 x01.length cx01) ∧ w'.cell? ⟨w8.heap.size, 0, none⟩ = some (.int .i64 x10) ∧ w'.cell? ⟨w8.heap.size, 1, none⟩ = some (.slice ax11 x11.length cx11)) [(0, 0), (1, 0), (2, 1), (3, 1), (4, 0)] (by kernel_rfl) (by kernel_rfl) (by kernel_rfl) rfl ?_ (fun _ _ _ _ _ h => h) ?_)
  · exact ⟨(hsssdsssssasassdss.drew).cellAt 0 rfl 0 rfl, (hsssdsssssasassdss.drew).cellAt 0 rfl 1 rfl, (hsssdsssssasassdss.drew).cellAt 1 rfl 0 rfl, (hsssdsssssasassdss.drew).cellAt 1 rfl 1 rfl, (hsssdsssssasassdss.drew).cellAt 2 rfl 0 rfl, (hsssdsssssasassdss.drew).cellAt 2 rfl 1 rfl, (hsssdsssssasassdss.drew).cellAt 3 rfl 0 rfl, (hsssdsssssasassdss.drew).cellAt 3 rfl 1 rfl⟩
  have Rx1''''''' := Lib.hid (Rd.mono Rx1''''''.out (belowD _))
  clear Rx1''''''
  have Rx2''''' := Lib.hid (Rd.mono Rx2''''.out (belowD _))
  clear Rx2''''
  have hsssdsssssasassdssd := hsssdsssssasassdss.drew
  (repeat (first | (apply el_skip rfl (by rfl); try simp only [Act.put, List.setIfInBounds_toArray, List.set_cons_zero, List.set_cons_succ]) | (apply el_float rfl (by rfl); (· (intro w' hS; go_simp <;> with_reducible rfl)); (try simp only [Act.put, List.setIfInBounds_toArray, List.set_cons_zero, List.set_cons_succ]))))
  refine el_hard rfl (by rfl) (fun K hK => ?_)
  go_wp2_with (go_at_call 12; refine (toOp_b (x10, x11) _ _ _ (Rd.mono H1.out hsssdsssssasassdssd.bel) gc1).mono ?_; rintro e w13 ⟨uy10, uy11, rfl, fry1, hb13⟩)
  have Rx1'''''''' := Lib.hid (Rd.mono Rx1'''''''.out hb13)
  clear Rx1'''''''
  have Rx2'''''' := Lib.hid (Rd.mono Rx2'''''.out hb13)
  clear Rx2'''''
  have hsssdsssssasassdssds := hsssdsssssasassdssd.step hb13
  have rdy1 := fry1.rd
  have zy10 := rd_cons rfl rdy1
  obtain ⟨rfl, _⟩ := rd_i1 zy10.1
  obtain ⟨ay11, cy11, rfl, _⟩ := rd_list zy10.2
  clear zy10
  have Ry1 := Lib.hid rdy1
  clear rdy1 fry1
  refine ⟨⟨hsssdsssssasassdssds.cellAt 0 rfl 0 rfl, hsssdsssssasassdssds.cellAt 0 rfl 1 rfl, hsssdsssssasassdssds.cellAt 1 rfl 0 rfl, hsssdsssssasassdssds.cellAt 1 rfl 1 rfl, hsssdsssssasassdssds.cellAt 2 rfl 0 rfl, hsssdsssssasassdssds.cellAt 2 rfl 1 rfl, hsssdsssssasassdssds.cellAt 3 rfl 0 rfl, hsssdsssssasassdssds.cellAt 3 rfl 1 rfl⟩, ?_⟩
  (repeat (first | (apply el_skip rfl (by rfl); try simp only [Act.put, List.setIfInBounds_toArray, List.set_cons_zero, List.set_cons_succ]) | (apply el_float rfl (by rfl); (· (intro w' hS; go_simp <;> with_reducible rfl)); (try simp only [Act.put, List.setIfInBounds_toArray, List.set_cons_zero, List.set_cons_succ]))))
  refine el_hard rfl (by rfl) (fun K hK => ?_)
  go_wp2_with (go_at_call 16; refine (eqOp_s (x10, x11) _ _ _ _ _ Rx1''''''''.out Ry1.out).mono ?_; rintro e w14 ⟨rfl, hb14⟩)
  clear Ry1
  clear Rx1''''''''
  have Rx2''''''' := Lib.hid (Rd.mono Rx2''''''.out hb14)
  clear Rx2''''''
  have hsssdsssssasassdssdss := hsssdsssssasassdssds.step hb14
  refine ⟨⟨hsssdsssssasassdssdss.cellAt 0 rfl 0 rfl, hsssdsssssasassdssdss.cellAt 0 rfl 1 rfl, hsssdsssssasassdssdss.cellAt 1 rfl 0 rfl, hsssdsssssasassdssdss.cellAt 1 rfl 1 rfl, hsssdsssssasassdssdss.cellAt 2 rfl 0 rfl, hsssdsssssasassdssdss.cellAt 2 rfl 1 rfl, hsssdsssssasassdssdss.cellAt 3 rfl 0 rfl, hsssdsssssasassdssdss.cellAt 3 rfl 1 rfl⟩, ?_⟩
  (repeat (first | (apply el_skip rfl (by rfl); try simp only [Act.put, List.setIfInBounds_toArray, List.set_cons_zero, List.set_cons_succ]) | (apply el_float rfl (by rfl); (· (intro w' hS; go_simp <;> with_reducible rfl)); (try simp only [Act.put, List.setIfInBounds_toArray, List.set_cons_zero, List.set_cons_succ]))))
  refine el_nil (NoPanic.normal ?_)
  clear qa00 qa01 qa10 qa11 qx00 qx01 qx10 qx11
  have qa00 := hsssdsssssasassdssdss.cellAt 0 rfl 0 rfl
  have qa01 := hsssdsssssasassdssdss.cellAt 0 rfl 1 rfl
  have qa10 := hsssdsssssasassdssdss.cellAt 1 rfl 0 rfl
  have qa11 := hsssdsssssasassdssdss.cellAt 1 rfl 1 rfl
  have qx00 := hsssdsssssasassdssdss.cellAt 2 rfl 0 rfl
  have qx01 := hsssdsssssasassdssdss.cellAt 2 rfl 1 rfl
  have qx10 := hsssdsssssasassdssdss.cellAt 3 rfl 0 rfl
  have qx11 := hsssdsssssasassdssdss.cellAt 3 rfl 1 rfl
  go_wp2_with fail
  refine (toInt64S_b x2 _ _ (Rd.mono H2.out hsssdsssssasassdssdss.bel) (by omega)).mono ?_
  rintro e w15 ⟨uy20, rfl, fry2, hb15⟩
  have Rx2'''''''' := Lib.hid (Rd.mono Rx2'''''''.out hb15)
  clear Rx2'''''''
  have hsssdsssssasassdssdsss := hsssdsssssasassdssdss.step hb15
  have rdy2 := fry2.rd
  obtain ⟨ay2, cy2, rfl, _⟩ := rd_list rdy2
  have Ry2 := Lib.hid rdy2
  clear rdy2 fry2
  clear qa00 qa01 qa10 qa11 qx00 qx01 qx10 qx11
  have qa00 := hsssdsssssasassdssdsss.cellAt 0 rfl 0 rfl
  have qa01 := hsssdsssssasassdssdsss.cellAt 0 rfl 1 rfl
  have qa10 := hsssdsssssasassdssdsss.cellAt 1 rfl 0 rfl
  have qa11 := hsssdsssssasassdssdsss.cellAt 1 rfl 1 rfl
  have qx00 := hsssdsssssasassdssdsss.cellAt 2 rfl 0 rfl
  have qx01 := hsssdsssssasassdssdsss.cellAt 2 rfl 1 rfl
  have qx10 := hsssdsssssasassdssdsss.cellAt 3 rfl 0 rfl
  have qx11 := hsssdsssssasassdssdsss.cellAt 3 rfl 1 rfl
  go_wp2_with fail
  refine (eqInt64S_s x2 _ _ _ Rx2''''''''.out Ry2.out).mono ?_
  rintro e w16 ⟨rfl, hb16⟩
  clear Ry2
  clear Rx2''''''''
  have hsssdsssssasassdssdssss := hsssdsssssasassdssdsss.step hb16
  clear qa00 qa01 qa10 qa11 qx00 qx01 qx10 qx11
  have qa00 := hsssdsssssasassdssdssss.cellAt 0 rfl 0 rfl
  have qa01 := hsssdsssssasassdssdssss.cellAt 0 rfl 1 rfl
  have qa10 := hsssdsssssasassdssdssss.cellAt 1 rfl 0 rfl
  have qa11 := hsssdsssssasassdssdssss.cellAt 1 rfl 1 rfl
  have qx00 := hsssdsssssasassdssdssss.cellAt 2 rfl 0 rfl
  have qx01 := hsssdsssssasassdssdssss.cellAt 2 rfl 1 rfl
  have qx10 := hsssdsssssasassdssdssss.cellAt 3 rfl 0 rfl
  have qx11 := hsssdsssssasassdssdssss.cellAt 3 rfl 1 rfl
  go_wp2_with fail
  go_ret
  exact ⟨rfl, hsssdsssssasassdssdssss.bel⟩

end Go.Proofs.Ytjkjfjpajmjglaa
