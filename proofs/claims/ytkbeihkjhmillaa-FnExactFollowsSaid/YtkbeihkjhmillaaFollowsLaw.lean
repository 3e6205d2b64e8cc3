/-
  THE LAW FnExactFollows, WALKED. (Printed by wip/genlaws.py.)
-/
import Derived.Test.YtkbeihkjhmillaaEq
import Derived.Test.YtkbeihkjhmillaaDeriveS
namespace Go.Proofs.Ytkbeihkjhmillaa
open Go.RowKit Go.Shelf
open Rep (Rd Own sz)
set_option linter.unusedSimpArgs false
set_option linter.unusedVariables false

set_option maxRecDepth 100000 in
set_option maxHeartbeats 2000000 in
theorem FnExactFollows_c (x0 : Sys) (v00 v01 v02 : Value) (x1 : Eqn) (v10 v11 : Value) (w : World) (h0 : Rd w [v00, v01, v02] x0) (h1 : Rd w [v10, v11] x1) :
    Calls Try.prog 9 #[.agg #[v00, v01, v02], .agg #[v10, v11]] w fun e w' => e = .returned (.bool true) ∧ Below w.heap.size w w' := by
  obtain ⟨x00, x01, x02⟩ := x0
  have z00 := rd_cons rfl h0
  obtain ⟨rfl, _⟩ := rd_i1 z00.1
  have z01 := rd_cons rfl z00.2
  obtain ⟨rfl, _⟩ := rd_i1 z01.1
  obtain ⟨a02, c02, rfl, _⟩ := rd_list z01.2
  clear z00 z01
  have H0 := Lib.hid h0
  clear h0
  obtain ⟨x10, x11⟩ := x1
  have z10 := rd_cons rfl h1
  obtain ⟨a10, c10, rfl, _⟩ := rd_list z10.1
  obtain ⟨rfl, _⟩ := rd_i1 z10.2
  clear z10
  have H1 := Lib.hid h1
  clear h1
  have hs := ((St.start w).alloc #[.int .i64 x00, .int .i64 x01, .slice a02 x02.length c02] 24 rfl).alloc #[.slice a10 x10.length c10, .int .i64 x11] 45 (n := w.heap.size + 1) (by simp)
  go_enter Try.func9, Try.ntmps9
  go_wp2_with fail
  refine (szSystem_b (x00, x01, x02) _ _ _ (1048576) _ (Rd.mono H0.out hs.bel) (by omega) (by omega)).mono ?_
  rintro e w1 ⟨rfl, hb1⟩
  have hss := hs.step hb1
  rcases less_cases (1048576) (cost_System (x00, x01, x02)) with ⟨e1, g0⟩ | ⟨e1, g0⟩
  · rw [e1]
    clear e1
    go_wp2_with fail
    go_ret
    exact ⟨rfl, hss.bel⟩
  rw [e1]
  clear e1
  have qa00 := hss.cellAt 0 rfl 0 rfl
  have qa01 := hss.cellAt 0 rfl 1 rfl
  have qa02 := hss.cellAt 0 rfl 2 rfl
  have qa10 := hss.cellAt 1 rfl 0 rfl
  have qa11 := hss.cellAt 1 rfl 1 rfl
  go_wp2_with fail
  refine (szEquation_b (x10, x11) _ _ (1048576 - (cost_System (x00, x01, x02))) _ (Rd.mono H1.out hss.bel) (by omega) (by omega)).mono ?_
  rintro e w2 ⟨rfl, hb2⟩
  have hsss := hss.step hb2
  rcases less_cases (1048576 - (cost_System (x00, x01, x02))) (cost_Equation (x10, x11)) with ⟨e1, g1⟩ | ⟨e1, g1⟩
  · rw [e1]
    clear e1
    go_wp2_with fail
    go_ret
    exact ⟨rfl, hsss.bel⟩
  rw [e1]
  clear e1
  clear qa00 qa01 qa02 qa10 qa11
  have qa00 := hsss.cellAt 0 rfl 0 rfl
  have qa01 := hsss.cellAt 0 rfl 1 rfl
  have qa02 := hsss.cellAt 0 rfl 2 rfl
  have qa10 := hsss.cellAt 1 rfl 0 rfl
  have qa11 := hsss.cellAt 1 rfl 1 rfl
  have gc0 : cost_System (x00, x01, x02) ≤ 1048576 := by omega
  have gc1 : cost_Equation (x10, x11) ≤ 1048576 := by omega
  go_wp2_with fail
  refine wp_region_noPanic (wp_region_el (fun w' => w'.cell? ⟨w.heap.size, 0, none⟩ = some (.int .i64 x00) ∧ w'.cell? ⟨w.heap.size, 1, none⟩ = some (.int .i64 x01) ∧ w'.cell? ⟨w.heap.size, 2, none⟩ = some (.slice a02 x02.length c02) ∧ w'.cell? ⟨w.heap.size + 1, 0, none⟩ = some (.slice a10 x10.length c10) ∧ w'.cell? ⟨w.heap.size + 1, 1, none⟩ = some (.int .i64 x11)) [(0, 0), (2, 0), (1, 1), (3, 1), (4, 1), (5, 0), (6, 0), (7, 0), (8, 0), (9, 0)] (by kernel_rfl) (by kernel_rfl) (by kernel_rfl) rfl ?_ (fun _ _ _ _ _ h => h) ?_)
  · exact ⟨(hsss.drew).cellAt 0 rfl 0 rfl, (hsss.drew).cellAt 0 rfl 1 rfl, (hsss.drew).cellAt 0 rfl 2 rfl, (hsss.drew).cellAt 1 rfl 0 rfl, (hsss.drew).cellAt 1 rfl 1 rfl⟩
  have hsssd := hsss.drew
  (repeat (first | (apply el_skip rfl (by rfl); try simp only [Act.put, List.setIfInBounds_toArray, List.set_cons_zero, List.set_cons_succ]) | (apply el_float rfl (by rfl); (· (intro w' hS; go_simp <;> with_reducible rfl)); (try simp only [Act.put, List.setIfInBounds_toArray, List.set_cons_zero, List.set_cons_succ]))))
  refine el_hard rfl (by rfl) (fun K hK => ?_)
  go_wp2_with (go_at_call 17; refine (toSystem_b (x00, x01, x02) _ _ _ _ (Rd.mono H0.out hsssd.bel) gc0).mono ?_; rintro e w3 ⟨us00, us01, us02, rfl, frs0, hb3⟩)
  have hsssds := hsssd.step hb3
  have rds0 := frs0.rd
  have zs00 := rd_cons rfl rds0
  obtain ⟨rfl, _⟩ := rd_i1 zs00.1
  have zs01 := rd_cons rfl zs00.2
  obtain ⟨rfl, _⟩ := rd_i1 zs01.1
  obtain ⟨as02, cs02, rfl, _⟩ := rd_list zs01.2
  clear zs00 zs01
  have Rs0 := Lib.hid rds0
  clear rds0 frs0
  refine ⟨⟨hsssds.cellAt 0 rfl 0 rfl, hsssds.cellAt 0 rfl 1 rfl, hsssds.cellAt 0 rfl 2 rfl, hsssds.cellAt 1 rfl 0 rfl, hsssds.cellAt 1 rfl 1 rfl⟩, ?_⟩
  (repeat (first | (apply el_skip rfl (by rfl); try simp only [Act.put, List.setIfInBounds_toArray, List.set_cons_zero, List.set_cons_succ]) | (apply el_float rfl (by rfl); (· (intro w' hS; go_simp <;> with_reducible rfl)); (try simp only [Act.put, List.setIfInBounds_toArray, List.set_cons_zero, List.set_cons_succ]))))
  refine el_hard rfl (by rfl) (fun K hK => ?_)
  go_wp2_with (go_at_call 37; refine (toEquation_b (x10, x11) _ _ _ (Rd.mono H1.out hsssds.bel) gc1).mono ?_; rintro e w4 ⟨us10, us11, rfl, frs1, hb4⟩)
  have Rs0' := Lib.hid (Rd.mono Rs0.out hb4)
  clear Rs0
  have hsssdss := hsssds.step hb4
  have rds1 := frs1.rd
  have zs10 := rd_cons rfl rds1
  obtain ⟨as10, cs10, rfl, _⟩ := rd_list zs10.1
  obtain ⟨rfl, _⟩ := rd_i1 zs10.2
  clear zs10
  have Rs1 := Lib.hid rds1
  clear rds1 frs1
  refine ⟨⟨hsssdss.cellAt 0 rfl 0 rfl, hsssdss.cellAt 0 rfl 1 rfl, hsssdss.cellAt 0 rfl 2 rfl, hsssdss.cellAt 1 rfl 0 rfl, hsssdss.cellAt 1 rfl 1 rfl⟩, ?_⟩
  (repeat (first | (apply el_skip rfl (by rfl); try simp only [Act.put, List.setIfInBounds_toArray, List.set_cons_zero, List.set_cons_succ]) | (apply el_float rfl (by rfl); (· (intro w' hS; go_simp <;> with_reducible rfl)); (try simp only [Act.put, List.setIfInBounds_toArray, List.set_cons_zero, List.set_cons_succ]))))
  refine el_hard rfl (by rfl) (fun K hK => ?_)
  go_wp2_with (go_at_call 36; refine (sFollows_c (x00, x01, x02) _ _ _ (x10, x11) _ _ _ Rs0'.out Rs1.out).mono ?_; rintro e w5 ⟨rfl, hb5⟩)
  clear Rs0'
  clear Rs1
  have hsssdsss := hsssdss.step hb5
  refine ⟨⟨hsssdsss.cellAt 0 rfl 0 rfl, hsssdsss.cellAt 0 rfl 1 rfl, hsssdsss.cellAt 0 rfl 2 rfl, hsssdsss.cellAt 1 rfl 0 rfl, hsssdsss.cellAt 1 rfl 1 rfl⟩, ?_⟩
  (repeat (first | (apply el_skip rfl (by rfl); try simp only [Act.put, List.setIfInBounds_toArray, List.set_cons_zero, List.set_cons_succ]) | (apply el_float rfl (by rfl); (· (intro w' hS; go_simp <;> with_reducible rfl)); (try simp only [Act.put, List.setIfInBounds_toArray, List.set_cons_zero, List.set_cons_succ]))))
  refine el_nil (NoPanic.normal ?_)
  clear qa00 qa01 qa02 qa10 qa11
  have qa00 := hsssdsss.cellAt 0 rfl 0 rfl
  have qa01 := hsssdsss.cellAt 0 rfl 1 rfl
  have qa02 := hsssdsss.cellAt 0 rfl 2 rfl
  have qa10 := hsssdsss.cellAt 1 rfl 0 rfl
  have qa11 := hsssdsss.cellAt 1 rfl 1 rfl
  go_wp2_with fail
  refine (toSystem_b (x00, x01, x02) _ _ _ _ (Rd.mono H0.out hsssdsss.bel) gc0).mono ?_
  rintro e w6 ⟨ux00, ux01, ux02, rfl, frx0, hb6⟩
  have hsssdssss := hsssdsss.step hb6
  have rdx0 := frx0.rd
  have zx00 := rd_cons rfl rdx0
  obtain ⟨rfl, _⟩ := rd_i1 zx00.1
  have zx01 := rd_cons rfl zx00.2
  obtain ⟨rfl, _⟩ := rd_i1 zx01.1
  obtain ⟨ax02, cx02, rfl, _⟩ := rd_list zx01.2
  clear zx00 zx01
  have Rx0 := Lib.hid rdx0
  clear rdx0 frx0
  clear qa00 qa01 qa02 qa10 qa11
  have qa00 := hsssdssss.cellAt 0 rfl 0 rfl
  have qa01 := hsssdssss.cellAt 0 rfl 1 rfl
  have qa02 := hsssdssss.cellAt 0 rfl 2 rfl
  have qa10 := hsssdssss.cellAt 1 rfl 0 rfl
  have qa11 := hsssdssss.cellAt 1 rfl 1 rfl
  have hz0 := hsssdssss.hi
  have hsssdssssa := hsssdssss.alloc #[.int .i64 x00, .int .i64 x01, .slice ax02 x02.length cx02] 31 rfl
  have Rx0' := Lib.hid (Rd.mono Rx0.out (belowA _ (.cells #[.int .i64 x00, .int .i64 x01, .slice ax02 x02.length cx02] 31)))
  clear Rx0
  clear qa00 qa01 qa02 qa10 qa11
  have qa00 := hsssdssssa.cellAt 0 rfl 0 rfl
  have qa01 := hsssdssssa.cellAt 0 rfl 1 rfl
  have qa02 := hsssdssssa.cellAt 0 rfl 2 rfl
  have qa10 := hsssdssssa.cellAt 1 rfl 0 rfl
  have qa11 := hsssdssssa.cellAt 1 rfl 1 rfl
  have qx00 := hsssdssssa.cellAt 2 rfl 0 rfl
  have qx01 := hsssdssssa.cellAt 2 rfl 1 rfl
  have qx02 := hsssdssssa.cellAt 2 rfl 2 rfl
  go_wp2_with fail
  refine (toEquation_b (x10, x11) _ _ _ (Rd.mono H1.out hsssdssssa.bel) gc1).mono ?_
  rintro e w7 ⟨ux10, ux11, rfl, frx1, hb7⟩
  have Rx0'' := Lib.hid (Rd.mono Rx0'.out hb7)
  clear Rx0'
  have hsssdssssas := hsssdssssa.step hb7
  have rdx1 := frx1.rd
  have zx10 := rd_cons rfl rdx1
  obtain ⟨ax10, cx10, rfl, _⟩ := rd_list zx10.1
  obtain ⟨rfl, _⟩ := rd_i1 zx10.2
  clear zx10
  have Rx1 := Lib.hid rdx1
  clear rdx1 frx1
  clear qa00 qa01 qa02 qa10 qa11 qx00 qx01 qx02
  have qa00 := hsssdssssas.cellAt 0 rfl 0 rfl
  have qa01 := hsssdssssas.cellAt 0 rfl 1 rfl
  have qa02 := hsssdssssas.cellAt 0 rfl 2 rfl
  have qa10 := hsssdssssas.cellAt 1 rfl 0 rfl
  have qa11 := hsssdssssas.cellAt 1 rfl 1 rfl
  have qx00 := hsssdssssas.cellAt 2 rfl 0 rfl
  have qx01 := hsssdssssas.cellAt 2 rfl 1 rfl
  have qx02 := hsssdssssas.cellAt 2 rfl 2 rfl
  have hz1 := hsssdssssas.hi
  have hsssdssssasa := hsssdssssas.alloc #[.slice ax10 x10.length cx10, .int .i64 x11] 48 rfl
  have Rx0''' := Lib.hid (Rd.mono Rx0''.out (belowA _ (.cells #[.slice ax10 x10.length cx10, .int .i64 x11] 48)))
  clear Rx0''
  have Rx1' := Lib.hid (Rd.mono Rx1.out (belowA _ (.cells #[.slice ax10 x10.length cx10, .int .i64 x11] 48)))
  clear Rx1
  clear qa00 qa01 qa02 qa10 qa11 qx00 qx01 qx02
  have qa00 := hsssdssssasa.cellAt 0 rfl 0 rfl
  have qa01 := hsssdssssasa.cellAt 0 rfl 1 rfl
  have qa02 := hsssdssssasa.cellAt 0 rfl 2 rfl
  have qa10 := hsssdssssasa.cellAt 1 rfl 0 rfl
  have qa11 := hsssdssssasa.cellAt 1 rfl 1 rfl
  have qx00 := hsssdssssasa.cellAt 2 rfl 0 rfl
  have qx01 := hsssdssssasa.cellAt 2 rfl 1 rfl
  have qx02 := hsssdssssasa.cellAt 2 rfl 2 rfl
  have qx10 := hsssdssssasa.cellAt 3 rfl 0 rfl
  have qx11 := hsssdssssasa.cellAt 3 rfl 1 rfl
  go_wp2_with fail
  refine (Follows_c (x00, x01, x02) _ _ _ (x10, x11) _ _ _ Rx0'''.out Rx1'.out).mono ?_
  rintro e w8 ⟨rfl, hb8⟩
  have Rx0'''' := Lib.hid (Rd.mono Rx0'''.out hb8)
  clear Rx0'''
  have Rx1'' := Lib.hid (Rd.mono Rx1'.out hb8)
  clear Rx1'
  have hsssdssssasas := hsssdssssasa.step hb8
  clear qa00 qa01 qa02 qa10 qa11 qx00 qx01 qx02 qx10 qx11
  have qa00 := hsssdssssasas.cellAt 0 rfl 0 rfl
  have qa01 := hsssdssssasas.cellAt 0 rfl 1 rfl
  have qa02 := hsssdssssasas.cellAt 0 rfl 2 rfl
  have qa10 := hsssdssssasas.cellAt 1 rfl 0 rfl
  have qa11 := hsssdssssasas.cellAt 1 rfl 1 rfl
  have qx00 := hsssdssssasas.cellAt 2 rfl 0 rfl
  have qx01 := hsssdssssasas.cellAt 2 rfl 1 rfl
  have qx02 := hsssdssssasas.cellAt 2 rfl 2 rfl
  have qx10 := hsssdssssasas.cellAt 3 rfl 0 rfl
  have qx11 := hsssdssssasas.cellAt 3 rfl 1 rfl
  have hr0 : ((followsF (x00, x01, x02) (x10, x11)).1 != (followsF (x00, x01, x02) (x10, x11)).1) = false := by simp
  have hr1 : ((followsF (x00, x01, x02) (x10, x11)).2 != (followsF (x00, x01, x02) (x10, x11)).2) = false := by simp
  go_wp2_with fail
  refine wp_region_noPanic (wp_region_el (fun w' => w'.cell? ⟨w.heap.size, 0, none⟩ = some (.int .i64 x00) ∧ w'.cell? ⟨w.heap.size, 1, none⟩ = some (.int .i64 x01) ∧ w'.cell? ⟨w.heap.size, 2, none⟩ = some (.slice a02 x02.length c02) ∧ w'.cell? ⟨w.heap.size + 1, 0, none⟩ = some (.slice a10 x10.length c10) ∧ w'.cell? ⟨w.heap.size + 1, 1, none⟩ = some (.int .i64 x11) ∧ w'.cell? ⟨w6.heap.size, 0, none⟩ = some (.int .i64 x00) ∧ w'.cell? ⟨w6.heap.size, 1, none⟩ = some (.int .i64 x01) ∧ w'.cell? ⟨w6.heap.size, 2, none⟩ = some (.slice ax02 x02.length cx02) ∧ w'.cell? ⟨w7.heap.size, 0, none⟩ = some (.slice ax10 x10.length cx10) ∧ w'.cell? ⟨w7.heap.size, 1, none⟩ = some (.int .i64 x11)) [(0, 0), (1, 0), (2, 1), (3, 1), (4, 0)] (by kernel_rfl) (by kernel_rfl) (by kernel_rfl) rfl ?_ (fun _ _ _ _ _ h => h) ?_)
  · exact ⟨(hsssdssssasas.drew).cellAt 0 rfl 0 rfl, (hsssdssssasas.drew).cellAt 0 rfl 1 rfl, (hsssdssssasas.drew).cellAt 0 rfl 2 rfl, (hsssdssssasas.drew).cellAt 1 rfl 0 rfl, (hsssdssssasas.drew).cellAt 1 rfl 1 rfl, (hsssdssssasas.drew).cellAt 2 rfl 0 rfl, (hsssdssssasas.drew).cellAt 2 rfl 1 rfl, (hsssdssssasas.drew).cellAt 2 rfl 2 rfl, (hsssdssssasas.drew).cellAt 3 rfl 0 rfl, (hsssdssssasas.drew).cellAt 3 rfl 1 rfl⟩
  have Rx0''''' := Lib.hid (Rd.mono Rx0''''.out (belowD _))
  clear Rx0''''
  have Rx1''' := Lib.hid (Rd.mono Rx1''.out (belowD _))
  clear Rx1''
  have hsssdssssasasd := hsssdssssasas.drew
  (repeat (first | (apply el_skip rfl (by rfl); try simp only [Act.put, List.setIfInBounds_toArray, List.set_cons_zero, List.set_cons_succ]) | (apply el_float rfl (by rfl); (· (intro w' hS; go_simp <;> with_reducible rfl)); (try simp only [Act.put, List.setIfInBounds_toArray, List.set_cons_zero, List.set_cons_succ]))))
  refine el_hard rfl (by rfl) (fun K hK => ?_)
  go_wp2_with (go_at_call 17; refine (toSystem_b (x00, x01, x02) _ _ _ _ (Rd.mono H0.out hsssdssssasasd.bel) gc0).mono ?_; rintro e w9 ⟨uy00, uy01, uy02, rfl, fry0, hb9⟩)
  have Rx0'''''' := Lib.hid (Rd.mono Rx0'''''.out hb9)
  clear Rx0'''''
  have Rx1'''' := Lib.hid (Rd.mono Rx1'''.out hb9)
  clear Rx1'''
  have hsssdssssasasds := hsssdssssasasd.step hb9
  have rdy0 := fry0.rd
  have zy00 := rd_cons rfl rdy0
  obtain ⟨rfl, _⟩ := rd_i1 zy00.1
  have zy01 := rd_cons rfl zy00.2
  obtain ⟨rfl, _⟩ := rd_i1 zy01.1
  obtain ⟨ay02, cy02, rfl, _⟩ := rd_list zy01.2
  clear zy00 zy01
  have Ry0 := Lib.hid rdy0
  clear rdy0 fry0
  refine ⟨⟨hsssdssssasasds.cellAt 0 rfl 0 rfl, hsssdssssasasds.cellAt 0 rfl 1 rfl, hsssdssssasasds.cellAt 0 rfl 2 rfl, hsssdssssasasds.cellAt 1 rfl 0 rfl, hsssdssssasasds.cellAt 1 rfl 1 rfl, hsssdssssasasds.cellAt 2 rfl 0 rfl, hsssdssssasasds.cellAt 2 rfl 1 rfl, hsssdssssasasds.cellAt 2 rfl 2 rfl, hsssdssssasasds.cellAt 3 rfl 0 rfl, hsssdssssasasds.cellAt 3 rfl 1 rfl⟩, ?_⟩
  (repeat (first | (apply el_skip rfl (by rfl); try simp only [Act.put, List.setIfInBounds_toArray, List.set_cons_zero, List.set_cons_succ]) | (apply el_float rfl (by rfl); (· (intro w' hS; go_simp <;> with_reducible rfl)); (try simp only [Act.put, List.setIfInBounds_toArray, List.set_cons_zero, List.set_cons_succ]))))
  refine el_hard rfl (by rfl) (fun K hK => ?_)
  go_wp2_with (go_at_call 20; refine (eqSystem_s (x00, x01, x02) _ _ _ _ _ _ _ Rx0''''''.out Ry0.out).mono ?_; rintro e w10 ⟨rfl, hb10⟩)
  clear Ry0
  clear Rx0''''''
  have Rx1''''' := Lib.hid (Rd.mono Rx1''''.out hb10)
  clear Rx1''''
  have hsssdssssasasdss := hsssdssssasasds.step hb10
  refine ⟨⟨hsssdssssasasdss.cellAt 0 rfl 0 rfl, hsssdssssasasdss.cellAt 0 rfl 1 rfl, hsssdssssasasdss.cellAt 0 rfl 2 rfl, hsssdssssasasdss.cellAt 1 rfl 0 rfl, hsssdssssasasdss.cellAt 1 rfl 1 rfl, hsssdssssasasdss.cellAt 2 rfl 0 rfl, hsssdssssasasdss.cellAt 2 rfl 1 rfl, hsssdssssasasdss.cellAt 2 rfl 2 rfl, hsssdssssasasdss.cellAt 3 rfl 0 rfl, hsssdssssasasdss.cellAt 3 rfl 1 rfl⟩, ?_⟩
  (repeat (first | (apply el_skip rfl (by rfl); try simp only [Act.put, List.setIfInBounds_toArray, List.set_cons_zero, List.set_cons_succ]) | (apply el_float rfl (by rfl); (· (intro w' hS; go_simp <;> with_reducible rfl)); (try simp only [Act.put, List.setIfInBounds_toArray, List.set_cons_zero, List.set_cons_succ]))))
  refine el_nil (NoPanic.normal ?_)
  clear qa00 qa01 qa02 qa10 qa11 qx00 qx01 qx02 qx10 qx11
  have qa00 := hsssdssssasasdss.cellAt 0 rfl 0 rfl
  have qa01 := hsssdssssasasdss.cellAt 0 rfl 1 rfl
  have qa02 := hsssdssssasasdss.cellAt 0 rfl 2 rfl
  have qa10 := hsssdssssasasdss.cellAt 1 rfl 0 rfl
  have qa11 := hsssdssssasasdss.cellAt 1 rfl 1 rfl
  have qx00 := hsssdssssasasdss.cellAt 2 rfl 0 rfl
  have qx01 := hsssdssssasasdss.cellAt 2 rfl 1 rfl
  have qx02 := hsssdssssasasdss.cellAt 2 rfl 2 rfl
  have qx10 := hsssdssssasasdss.cellAt 3 rfl 0 rfl
  have qx11 := hsssdssssasasdss.cellAt 3 rfl 1 rfl
  go_wp2_with fail
  refine wp_region_noPanic (wp_region_el (fun w' => w'.cell? ⟨w.heap.size, 0, none⟩ = some (.int .i64 x00) ∧ w'.cell? ⟨w.heap.size, 1, none⟩ = some (.int .i64 x01) ∧ w'.cell? ⟨w.heap.size, 2, none⟩ = some (.slice a02 x02.length c02) ∧ w'.cell? ⟨w.heap.size + 1, 0, none⟩ = some (.slice a10 x10.length c10) ∧ w'.cell? ⟨w.heap.size + 1, 1, none⟩ = some (.int .i64 x11) ∧ w'.cell? ⟨w6.heap.size, 0, none⟩ = some (.int .i64 x00) ∧ w'.cell? ⟨w6.heap.size, 1, none⟩ = some (.int .i64 x01) ∧ w'.cell? ⟨w6.heap.size, 2, none⟩ = some (.slice ax02 x02.length cx02) ∧ w'.cell? ⟨w7.heap.size, 0, none⟩ = some (.slice ax10 x10.length cx10) ∧ w'.cell? ⟨w7.heap.size, 1, none⟩ = some (.int .i64 x11)) [(0, 0), (1, 0), (2, 1), (3, 1), (4, 0)] (by kernel_rfl) (by kernel_rfl) (by kernel_rfl) rfl ?_ (fun _ _ _ _ _ h => h) ?_)
  · exact ⟨(hsssdssssasasdss.drew).cellAt 0 rfl 0 rfl, (hsssdssssasasdss.drew).cellAt 0 rfl 1 rfl, (hsssdssssasasdss.drew).cellAt 0 rfl 2 rfl, (hsssdssssasasdss.drew).cellAt 1 rfl 0 rfl, (hsssdssssasasdss.drew).cellAt 1 rfl 1 rfl, (hsssdssssasasdss.drew).cellAt 2 rfl 0 rfl, (hsssdssssasasdss.drew).cellAt 2 rfl 1 rfl, (hsssdssssasasdss.drew).cellAt 2 rfl 2 rfl, (hsssdssssasasdss.drew).cellAt 3 rfl 0 rfl, (hsssdssssasasdss.drew).cellAt 3 rfl 1 rfl⟩
  have Rx1'''''' := Lib.hid (Rd.mono Rx1'''''.out (belowD _))
  clear Rx1'''''
  have hsssdssssasasdssd := hsssdssssasasdss.drew
  (repeat (first | (apply el_skip rfl (by rfl); try simp only [Act.put, List.setIfInBounds_toArray, List.set_cons_zero, List.set_cons_succ]) | (apply el_float rfl (by rfl); (· (intro w' hS; go_simp <;> with_reducible rfl)); (try simp only [Act.put, List.setIfInBounds_toArray, List.set_cons_zero, List.set_cons_succ]))))
  refine el_hard rfl (by rfl) (fun K hK => ?_)
  go_wp2_with (go_at_call 37; refine (toEquation_b (x10, x11) _ _ _ (Rd.mono H1.out hsssdssssasasdssd.bel) gc1).mono ?_; rintro e w11 ⟨uy10, uy11, rfl, fry1, hb11⟩)
  have Rx1''''''' := Lib.hid (Rd.mono Rx1''''''.out hb11)
  clear Rx1''''''
  have hsssdssssasasdssds := hsssdssssasasdssd.step hb11
  have rdy1 := fry1.rd
  have zy10 := rd_cons rfl rdy1
  obtain ⟨ay10, cy10, rfl, _⟩ := rd_list zy10.1
  obtain ⟨rfl, _⟩ := rd_i1 zy10.2
  clear zy10
  have Ry1 := Lib.hid rdy1
  clear rdy1 fry1
  refine ⟨⟨hsssdssssasasdssds.cellAt 0 rfl 0 rfl, hsssdssssasasdssds.cellAt 0 rfl 1 rfl, hsssdssssasasdssds.cellAt 0 rfl 2 rfl, hsssdssssasasdssds.cellAt 1 rfl 0 rfl, hsssdssssasasdssds.cellAt 1 rfl 1 rfl, hsssdssssasasdssds.cellAt 2 rfl 0 rfl, hsssdssssasasdssds.cellAt 2 rfl 1 rfl, hsssdssssasasdssds.cellAt 2 rfl 2 rfl, hsssdssssasasdssds.cellAt 3 rfl 0 rfl, hsssdssssasasdssds.cellAt 3 rfl 1 rfl⟩, ?_⟩
  (repeat (first | (apply el_skip rfl (by rfl); try simp only [Act.put, List.setIfInBounds_toArray, List.set_cons_zero, List.set_cons_succ]) | (apply el_float rfl (by rfl); (· (intro w' hS; go_simp <;> with_reducible rfl)); (try simp only [Act.put, List.setIfInBounds_toArray, List.set_cons_zero, List.set_cons_succ]))))
  refine el_hard rfl (by rfl) (fun K hK => ?_)
  go_wp2_with (go_at_call 39; refine (eqEquation_s (x10, x11) _ _ _ _ _ Rx1'''''''.out Ry1.out).mono ?_; rintro e w12 ⟨rfl, hb12⟩)
  clear Ry1
  clear Rx1'''''''
  have hsssdssssasasdssdss := hsssdssssasasdssds.step hb12
  refine ⟨⟨hsssdssssasasdssdss.cellAt 0 rfl 0 rfl, hsssdssssasasdssdss.cellAt 0 rfl 1 rfl, hsssdssssasasdssdss.cellAt 0 rfl 2 rfl, hsssdssssasasdssdss.cellAt 1 rfl 0 rfl, hsssdssssasasdssdss.cellAt 1 rfl 1 rfl, hsssdssssasasdssdss.cellAt 2 rfl 0 rfl, hsssdssssasasdssdss.cellAt 2 rfl 1 rfl, hsssdssssasasdssdss.cellAt 2 rfl 2 rfl, hsssdssssasasdssdss.cellAt 3 rfl 0 rfl, hsssdssssasasdssdss.cellAt 3 rfl 1 rfl⟩, ?_⟩
  (repeat (first | (apply el_skip rfl (by rfl); try simp only [Act.put, List.setIfInBounds_toArray, List.set_cons_zero, List.set_cons_succ]) | (apply el_float rfl (by rfl); (· (intro w' hS; go_simp <;> with_reducible rfl)); (try simp only [Act.put, List.setIfInBounds_toArray, List.set_cons_zero, List.set_cons_succ]))))
  refine el_nil (NoPanic.normal ?_)
  clear qa00 qa01 qa02 qa10 qa11 qx00 qx01 qx02 qx10 qx11
  have qa00 := hsssdssssasasdssdss.cellAt 0 rfl 0 rfl
  have qa01 := hsssdssssasasdssdss.cellAt 0 rfl 1 rfl
  have qa02 := hsssdssssasasdssdss.cellAt 0 rfl 2 rfl
  have qa10 := hsssdssssasasdssdss.cellAt 1 rfl 0 rfl
  have qa11 := hsssdssssasasdssdss.cellAt 1 rfl 1 rfl
  have qx00 := hsssdssssasasdssdss.cellAt 2 rfl 0 rfl
  have qx01 := hsssdssssasasdssdss.cellAt 2 rfl 1 rfl
  have qx02 := hsssdssssasasdssdss.cellAt 2 rfl 2 rfl
  have qx10 := hsssdssssasasdssdss.cellAt 3 rfl 0 rfl
  have qx11 := hsssdssssasasdssdss.cellAt 3 rfl 1 rfl
  go_wp2_with fail
  go_ret
  exact ⟨rfl, hsssdssssasasdssdss.bel⟩

end Go.Proofs.Ytkbeihkjhmillaa
