/-
  THE LAW FnExactIsRefutation, WALKED. (Printed by wip/genlaws.py.)
-/
import Derived.Test.YtkbeihkjhmillaaEq
import Derived.Test.YtkbeihkjhmillaaIsRefS
namespace Go.Proofs.Ytkbeihkjhmillaa
open Go.RowKit Go.Shelf
open Rep (Rd Own sz)
set_option linter.unusedSimpArgs false
set_option linter.unusedVariables false

set_option maxRecDepth 100000 in
set_option maxHeartbeats 2000000 in
theorem FnExactIsRefutation_c (x0 : Sys) (v00 v01 v02 : Value) (x1 : List Int) (v10 : Value) (w : World) (h0 : Rd w [v00, v01, v02] x0) (h1 : Rd w [v10] x1) :
    Calls Try.prog 4 #[.agg #[v00, v01, v02], v10] w fun e w' => e = .returned (.bool true) ∧ Below w.heap.size w w' := by
  obtain ⟨x00, x01, x02⟩ := x0
  have z00 := rd_cons rfl h0
  obtain ⟨rfl, _⟩ := rd_i1 z00.1
  have z01 := rd_cons rfl z00.2
  obtain ⟨rfl, _⟩ := rd_i1 z01.1
  obtain ⟨a02, c02, rfl, _⟩ := rd_list z01.2
  clear z00 z01
  have H0 := Lib.hid h0
  clear h0
  obtain ⟨a1, c1, rfl, _⟩ := rd_list h1
  have H1 := Lib.hid h1
  clear h1
  have hs := (St.start w).alloc #[.int .i64 x00, .int .i64 x01, .slice a02 x02.length c02] 24 rfl
  go_enter Try.func4, Try.ntmps4
  by_cases hL1 : 1048576 < x1.length
  · go_wp2_with fail
    go_ret
    exact ⟨rfl, hs.bel⟩
  go_wp2_with fail
  refine (szSystem_b (x00, x01, x02) _ _ _ (1048576) _ (Rd.mono H0.out hs.bel) (by omega) (by omega)).mono ?_
  rintro e w1 ⟨rfl, hb1⟩
  have hss := hs.step hb1
  rcases less_cases (1048576) (cost_System (x00, x01, x02)) with ⟨e1, g0⟩ | ⟨e1, g0⟩
  · rw [e1]
    clear e1
    go_wp2_with fail
    go_ret
    exact ⟨rfl, hss.bel⟩
  rw [e1]
  clear e1
  have qa00 := hss.cellAt 0 rfl 0 rfl
  have qa01 := hss.cellAt 0 rfl 1 rfl
  have qa02 := hss.cellAt 0 rfl 2 rfl
  have gc0 : cost_System (x00, x01, x02) ≤ 1048576 := by omega
  go_wp2_with fail
  refine (toSystem_b (x00, x01, x02) _ _ _ _ (Rd.mono H0.out hss.bel) gc0).mono ?_
  rintro e w2 ⟨us00, us01, us02, rfl, frs0, hb2⟩
  have hsss := hss.step hb2
  have rds0 := frs0.rd
  have zs00 := rd_cons rfl rds0
  obtain ⟨rfl, _⟩ := rd_i1 zs00.1
  have zs01 := rd_cons rfl zs00.2
  obtain ⟨rfl, _⟩ := rd_i1 zs01.1
  obtain ⟨as02, cs02, rfl, _⟩ := rd_list zs01.2
  clear zs00 zs01
  have Rs0 := Lib.hid rds0
  clear rds0 frs0
  clear qa00 qa01 qa02
  have qa00 := hsss.cellAt 0 rfl 0 rfl
  have qa01 := hsss.cellAt 0 rfl 1 rfl
  have qa02 := hsss.cellAt 0 rfl 2 rfl
  go_wp2_with fail
  refine (toInt64S_b x1 _ _ (Rd.mono H1.out hsss.bel) (by omega)).mono ?_
  rintro e w3 ⟨us10, rfl, frs1, hb3⟩
  have Rs0' := Lib.hid (Rd.mono Rs0.out hb3)
  clear Rs0
  have hssss := hsss.step hb3
  have rds1 := frs1.rd
  obtain ⟨as1, cs1, rfl, _⟩ := rd_list rds1
  have Rs1 := Lib.hid rds1
  clear rds1 frs1
  clear qa00 qa01 qa02
  have qa00 := hssss.cellAt 0 rfl 0 rfl
  have qa01 := hssss.cellAt 0 rfl 1 rfl
  have qa02 := hssss.cellAt 0 rfl 2 rfl
  go_wp2_with fail
  refine (sIsRefutation_c (x00, x01, x02) _ _ _ x1 _ _ Rs0'.out Rs1.out).mono ?_
  rintro e w4 ⟨rfl, hb4⟩
  clear Rs0'
  clear Rs1
  have hsssss := hssss.step hb4
  clear qa00 qa01 qa02
  have qa00 := hsssss.cellAt 0 rfl 0 rfl
  have qa01 := hsssss.cellAt 0 rfl 1 rfl
  have qa02 := hsssss.cellAt 0 rfl 2 rfl
  go_wp2_with fail
  refine (toSystem_b (x00, x01, x02) _ _ _ _ (Rd.mono H0.out hsssss.bel) gc0).mono ?_
  rintro e w5 ⟨ux00, ux01, ux02, rfl, frx0, hb5⟩
  have hssssss := hsssss.step hb5
  have rdx0 := frx0.rd
  have zx00 := rd_cons rfl rdx0
  obtain ⟨rfl, _⟩ := rd_i1 zx00.1
  have zx01 := rd_cons rfl zx00.2
  obtain ⟨rfl, _⟩ := rd_i1 zx01.1
  obtain ⟨ax02, cx02, rfl, _⟩ := rd_list zx01.2
  clear zx00 zx01
  have Rx0 := Lib.hid rdx0
  clear rdx0 frx0
  clear qa00 qa01 qa02
  have qa00 := hssssss.cellAt 0 rfl 0 rfl
  have qa01 := hssssss.cellAt 0 rfl 1 rfl
  have qa02 := hssssss.cellAt 0 rfl 2 rfl
  have hz0 := hssssss.hi
  have hssssssa := hssssss.alloc #[.int .i64 x00, .int .i64 x01, .slice ax02 x02.length cx02] 31 rfl
  have Rx0' := Lib.hid (Rd.mono Rx0.out (belowA _ (.cells #[.int .i64 x00, .int .i64 x01, .slice ax02 x02.length cx02] 31)))
  clear Rx0
  clear qa00 qa01 qa02
  have qa00 := hssssssa.cellAt 0 rfl 0 rfl
  have qa01 := hssssssa.cellAt 0 rfl 1 rfl
  have qa02 := hssssssa.cellAt 0 rfl 2 rfl
  have qx00 := hssssssa.cellAt 1 rfl 0 rfl
  have qx01 := hssssssa.cellAt 1 rfl 1 rfl
  have qx02 := hssssssa.cellAt 1 rfl 2 rfl
  go_wp2_with fail
  refine (toInt64S_b x1 _ _ (Rd.mono H1.out hssssssa.bel) (by omega)).mono ?_
  rintro e w6 ⟨ux10, rfl, frx1, hb6⟩
  have Rx0'' := Lib.hid (Rd.mono Rx0'.out hb6)
  clear Rx0'
  have hssssssas := hssssssa.step hb6
  have rdx1 := frx1.rd
  obtain ⟨ax1, cx1, rfl, _⟩ := rd_list rdx1
  have Rx1 := Lib.hid rdx1
  clear rdx1 frx1
  clear qa00 qa01 qa02 qx00 qx01 qx02
  have qa00 := hssssssas.cellAt 0 rfl 0 rfl
  have qa01 := hssssssas.cellAt 0 rfl 1 rfl
  have qa02 := hssssssas.cellAt 0 rfl 2 rfl
  have qx00 := hssssssas.cellAt 1 rfl 0 rfl
  have qx01 := hssssssas.cellAt 1 rfl 1 rfl
  have qx02 := hssssssas.cellAt 1 rfl 2 rfl
  go_wp2_with fail
  refine (IsRefutation_c (x00, x01, x02) _ _ _ x1 _ _ Rx0''.out Rx1.out).mono ?_
  rintro e w7 ⟨rfl, hb7⟩
  have Rx0''' := Lib.hid (Rd.mono Rx0''.out hb7)
  clear Rx0''
  have Rx1' := Lib.hid (Rd.mono Rx1.out hb7)
  clear Rx1
  have hssssssass := hssssssas.step hb7
  clear qa00 qa01 qa02 qx00 qx01 qx02
  have qa00 := hssssssass.cellAt 0 rfl 0 rfl
  have qa01 := hssssssass.cellAt 0 rfl 1 rfl
  have qa02 := hssssssass.cellAt 0 rfl 2 rfl
  have qx00 := hssssssass.cellAt 1 rfl 0 rfl
  have qx01 := hssssssass.cellAt 1 rfl 1 rfl
  have qx02 := hssssssass.cellAt 1 rfl 2 rfl
  have hr0 : ((isRefF (x00, x01, x02) x1).1 != (isRefF (x00, x01, x02) x1).1) = false := by simp
  have hr1 : ((isRefF (x00, x01, x02) x1).2 != (isRefF (x00, x01, x02) x1).2) = false := by simp
  go_wp2_with fail
  refine wp_region_noPanic (wp_region_el (fun w' => w'.cell? ⟨w.heap.size, 0, none⟩ = some (.int .i64 x00) ∧ w'.cell? ⟨w.heap.size, 1, none⟩ = some (.int .i64 x01) ∧ w'.cell? ⟨w.heap.size, 2, none⟩ = some (.slice a02 x02.length c02) ∧ w'.cell? ⟨w5.heap.size, 0, none⟩ = some (.int .i64 x00) ∧ w'.cell? ⟨w5.heap.size, 1, none⟩ = some (.int .i64 x01) ∧ w'.cell? ⟨w5.heap.size, 2, none⟩ = some (.slice ax02 x02.length cx02)) [(0, 0), (1, 0), (2, 1), (3, 1), (4, 0)] (by kernel_rfl) (by kernel_rfl) (by kernel_rfl) rfl ?_ (fun _ _ _ _ _ h => h) ?_)
  · exact ⟨(hssssssass.drew).cellAt 0 rfl 0 rfl, (hssssssass.drew).cellAt 0 rfl 1 rfl, (hssssssass.drew).cellAt 0 rfl 2 rfl, (hssssssass.drew).cellAt 1 rfl 0 rfl, (hssssssass.drew).cellAt 1 rfl 1 rfl, (hssssssass.drew).cellAt 1 rfl 2 rfl⟩
  have Rx0'''' := Lib.hid (Rd.mono Rx0'''.out (belowD _))
  clear Rx0'''
  have Rx1'' := Lib.hid (Rd.mono Rx1'.out (belowD _))
  clear Rx1'
  have hssssssassd := hssssssass.drew
  (repeat (first | (apply el_skip rfl (by rfl); try simp only [Act.put, List.setIfInBounds_toArray, List.set_cons_zero, List.set_cons_succ]) | (apply el_float rfl (by rfl); (· (intro w' hS; go_simp <;> with_reducible rfl)); (try simp only [Act.put, List.setIfInBounds_toArray, List.set_cons_zero, List.set_cons_succ]))))
  refine el_hard rfl (by rfl) (fun K hK => ?_)
  go_wp2_with (go_at_call 17; refine (toSystem_b (x00, x01, x02) _ _ _ _ (Rd.mono H0.out hssssssassd.bel) gc0).mono ?_; rintro e w8 ⟨uy00, uy01, uy02, rfl, fry0, hb8⟩)
  have Rx0''''' := Lib.hid (Rd.mono Rx0''''.out hb8)
  clear Rx0''''
  have Rx1''' := Lib.hid (Rd.mono Rx1''.out hb8)
  clear Rx1''
  have hssssssassds := hssssssassd.step hb8
  have rdy0 := fry0.rd
  have zy00 := rd_cons rfl rdy0
  obtain ⟨rfl, _⟩ := rd_i1 zy00.1
  have zy01 := rd_cons rfl zy00.2
  obtain ⟨rfl, _⟩ := rd_i1 zy01.1
  obtain ⟨ay02, cy02, rfl, _⟩ := rd_list zy01.2
  clear zy00 zy01
  have Ry0 := Lib.hid rdy0
  clear rdy0 fry0
  refine ⟨⟨hssssssassds.cellAt 0 rfl 0 rfl, hssssssassds.cellAt 0 rfl 1 rfl, hssssssassds.cellAt 0 rfl 2 rfl, hssssssassds.cellAt 1 rfl 0 rfl, hssssssassds.cellAt 1 rfl 1 rfl, hssssssassds.cellAt 1 rfl 2 rfl⟩, ?_⟩
  (repeat (first | (apply el_skip rfl (by rfl); try simp only [Act.put, List.setIfInBounds_toArray, List.set_cons_zero, List.set_cons_succ]) | (apply el_float rfl (by rfl); (· (intro w' hS; go_simp <;> with_reducible rfl)); (try simp only [Act.put, List.setIfInBounds_toArray, List.set_cons_zero, List.set_cons_succ]))))
  refine el_hard rfl (by rfl) (fun K hK => ?_)
  go_wp2_with (go_at_call 20; refine (eqSystem_s (x00, x01, x02) _ _ _ _ _ _ _ Rx0'''''.out Ry0.out).mono ?_; rintro e w9 ⟨rfl, hb9⟩)
  clear Ry0
  clear Rx0'''''
  have Rx1'''' := Lib.hid (Rd.mono Rx1'''.out hb9)
  clear Rx1'''
  have hssssssassdss := hssssssassds.step hb9
  refine ⟨⟨hssssssassdss.cellAt 0 rfl 0 rfl, hssssssassdss.cellAt 0 rfl 1 rfl, hssssssassdss.cellAt 0 rfl 2 rfl, hssssssassdss.cellAt 1 rfl 0 rfl, hssssssassdss.cellAt 1 rfl 1 rfl, hssssssassdss.cellAt 1 rfl 2 rfl⟩, ?_⟩
  (repeat (first | (apply el_skip rfl (by rfl); try simp only [Act.put, List.setIfInBounds_toArray, List.set_cons_zero, List.set_cons_succ]) | (apply el_float rfl (by rfl); (· (intro w' hS; go_simp <;> with_reducible rfl)); (try simp only [Act.put, List.setIfInBounds_toArray, List.set_cons_zero, List.set_cons_succ]))))
  refine el_nil (NoPanic.normal ?_)
  clear qa00 qa01 qa02 qx00 qx01 qx02
  have qa00 := hssssssassdss.cellAt 0 rfl 0 rfl
  have qa01 := hssssssassdss.cellAt 0 rfl 1 rfl
  have qa02 := hssssssassdss.cellAt 0 rfl 2 rfl
  have qx00 := hssssssassdss.cellAt 1 rfl 0 rfl
  have qx01 := hssssssassdss.cellAt 1 rfl 1 rfl
  have qx02 := hssssssassdss.cellAt 1 rfl 2 rfl
  go_wp2_with fail
  refine (toInt64S_b x1 _ _ (Rd.mono H1.out hssssssassdss.bel) (by omega)).mono ?_
  rintro e w10 ⟨uy10, rfl, fry1, hb10⟩
  have Rx1''''' := Lib.hid (Rd.mono Rx1''''.out hb10)
  clear Rx1''''
  have hssssssassdsss := hssssssassdss.step hb10
  have rdy1 := fry1.rd
  obtain ⟨ay1, cy1, rfl, _⟩ := rd_list rdy1
  have Ry1 := Lib.hid rdy1
  clear rdy1 fry1
  clear qa00 qa01 qa02 qx00 qx01 qx02
  have qa00 := hssssssassdsss.cellAt 0 rfl 0 rfl
  have qa01 := hssssssassdsss.cellAt 0 rfl 1 rfl
  have qa02 := hssssssassdsss.cellAt 0 rfl 2 rfl
  have qx00 := hssssssassdsss.cellAt 1 rfl 0 rfl
  have qx01 := hssssssassdsss.cellAt 1 rfl 1 rfl
  have qx02 := hssssssassdsss.cellAt 1 rfl 2 rfl
  go_wp2_with fail
  refine (eqInt64S_s x1 _ _ _ Rx1'''''.out Ry1.out).mono ?_
  rintro e w11 ⟨rfl, hb11⟩
  clear Ry1
  clear Rx1'''''
  have hssssssassdssss := hssssssassdsss.step hb11
  clear qa00 qa01 qa02 qx00 qx01 qx02
  have qa00 := hssssssassdssss.cellAt 0 rfl 0 rfl
  have qa01 := hssssssassdssss.cellAt 0 rfl 1 rfl
  have qa02 := hssssssassdssss.cellAt 0 rfl 2 rfl
  have qx00 := hssssssassdssss.cellAt 1 rfl 0 rfl
  have qx01 := hssssssassdssss.cellAt 1 rfl 1 rfl
  have qx02 := hssssssassdssss.cellAt 1 rfl 2 rfl
  go_wp2_with fail
  go_ret
  exact ⟨rfl, hssssssassdssss.bel⟩

end Go.Proofs.Ytkbeihkjhmillaa
