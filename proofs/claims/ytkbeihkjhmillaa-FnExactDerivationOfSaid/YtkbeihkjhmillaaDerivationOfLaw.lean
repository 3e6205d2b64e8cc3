/-
  THE LAW FnExactDerivationOf, WALKED. (Printed by wip/genlawm.py.)
-/
import Derived.Test.YtkbeihkjhmillaaEq
import Derived.Test.YtkbeihkjhmillaaMarkG
import Derived.Test.YtkbeihkjhmillaaDeriveS
namespace Go.Proofs.Ytkbeihkjhmillaa
open Go.RowKit Go.Shelf
open Rep (Rd Own sz)
set_option linter.unusedSimpArgs false
set_option linter.unusedVariables false

set_option maxRecDepth 100000 in
set_option maxHeartbeats 4000000 in
theorem FnExactDerivationOf_c (x0 : Sys) (v00 v01 v02 : Value) (x1 : Eqn) (v10 v11 : Value) (w : World) (h0 : Rd w [v00, v01, v02] x0) (h1 : Rd w [v10, v11] x1) :
    Calls Try.prog 11 #[.agg #[v00, v01, v02], .agg #[v10, v11]] w fun e w' => e = .returned (.bool true) ∧ Below w.heap.size w w' := by
  have hsm : mc_Int64S (deriveF x0 x1).1 ≤ 1000000 := deriveF_small x0 x1
  have cS := fun a00 a01 a02 a10 a11 W h0 h1 => sDerivationOf_c x0 a00 a01 a02 x1 a10 a11 W h0 h1
  have cI := fun a00 a01 a02 a10 a11 W h0 h1 => DerivationOf_c x0 a00 a01 a02 x1 a10 a11 W h0 h1
  generalize deriveF x0 x1 = R at cS cI hsm
  obtain ⟨r0, code⟩ := R
  have CS := Lib.hid cS
  have CI := Lib.hid cI
  clear cS cI
  obtain ⟨x00, x01, x02⟩ := x0
  have z00 := rd_cons rfl h0
  obtain ⟨rfl, _⟩ := rd_i1 z00.1
  have z01 := rd_cons rfl z00.2
  obtain ⟨rfl, _⟩ := rd_i1 z01.1
  obtain ⟨a02, c02, rfl, _⟩ := rd_list z01.2
  clear z00 z01
  have H0 := Lib.hid h0
  clear h0
  obtain ⟨x10, x11⟩ := x1
  have z10 := rd_cons rfl h1
  obtain ⟨a10, c10, rfl, _⟩ := rd_list z10.1
  obtain ⟨rfl, _⟩ := rd_i1 z10.2
  clear z10
  have H1 := Lib.hid h1
  clear h1
  have hs := ((St.start w).alloc #[.int .i64 x00, .int .i64 x01, .slice a02 x02.length c02] 24 rfl).alloc #[.slice a10 x10.length c10, .int .i64 x11] 45 (n := w.heap.size + 1) (by simp)
  go_enter Try.func11, Try.ntmps11
  go_wp2_with fail
  refine (szSystem_b (x00, x01, x02) _ _ _ (1048576) _ (Rd.mono H0.out hs.bel) (by omega) (by omega)).mono ?_
  rintro e w1 ⟨rfl, hb1⟩
  have hss := hs.step hb1
  have hz1 : w.heap.size + 2 ≤ w1.heap.size := by simpa using hb1.size
  rcases less_cases (1048576) (cost_System (x00, x01, x02)) with ⟨e1, g0⟩ | ⟨e1, g0⟩
  · rw [e1]
    clear e1
    go_wp2_with fail
    go_ret
    exact ⟨rfl, hss.bel⟩
  rw [e1]
  clear e1
  have qa00 := hss.cellAt 0 rfl 0 rfl
  have qa01 := hss.cellAt 0 rfl 1 rfl
  have qa02 := hss.cellAt 0 rfl 2 rfl
  have qa10 := hss.cellAt 1 rfl 0 rfl
  have qa11 := hss.cellAt 1 rfl 1 rfl
  go_wp2_with fail
  refine (szEquation_b (x10, x11) _ _ (1048576 - (cost_System (x00, x01, x02))) _ (Rd.mono H1.out hss.bel) (by omega) (by omega)).mono ?_
  rintro e w2 ⟨rfl, hb2⟩
  have hsss := hss.step hb2
  have hz2 : w1.heap.size ≤ w2.heap.size := by simpa using hb2.size
  rcases less_cases (1048576 - (cost_System (x00, x01, x02))) (cost_Equation (x10, x11)) with ⟨e1, g1⟩ | ⟨e1, g1⟩
  · rw [e1]
    clear e1
    go_wp2_with fail
    go_ret
    exact ⟨rfl, hsss.bel⟩
  rw [e1]
  clear e1
  clear qa00 qa01 qa02 qa10 qa11
  have qa00 := hsss.cellAt 0 rfl 0 rfl
  have qa01 := hsss.cellAt 0 rfl 1 rfl
  have qa02 := hsss.cellAt 0 rfl 2 rfl
  have qa10 := hsss.cellAt 1 rfl 0 rfl
  have qa11 := hsss.cellAt 1 rfl 1 rfl
  have gc0 : cost_System (x00, x01, x02) ≤ 1048576 := by omega
  have gc1 : cost_Equation (x10, x11) ≤ 1048576 := by omega
  go_wp2_with fail
  refine wp_region_noPanic (wp_region_el (fun w' => w'.cell? ⟨w.heap.size, 0, none⟩ = some (.int .i64 x00) ∧ w'.cell? ⟨w.heap.size, 1, none⟩ = some (.int .i64 x01) ∧ w'.cell? ⟨w.heap.size, 2, none⟩ = some (.slice a02 x02.length c02) ∧ w'.cell? ⟨w.heap.size + 1, 0, none⟩ = some (.slice a10 x10.length c10) ∧ w'.cell? ⟨w.heap.size + 1, 1, none⟩ = some (.int .i64 x11)) [(0, 0), (2, 0), (1, 1), (3, 1), (4, 1), (5, 0), (6, 0), (7, 0), (8, 0), (9, 0)] (by kernel_rfl) (by kernel_rfl) (by kernel_rfl) rfl ?_ (fun _ _ _ _ _ h => h) ?_)
  · exact ⟨(hsss.drew).cellAt 0 rfl 0 rfl, (hsss.drew).cellAt 0 rfl 1 rfl, (hsss.drew).cellAt 0 rfl 2 rfl, (hsss.drew).cellAt 1 rfl 0 rfl, (hsss.drew).cellAt 1 rfl 1 rfl⟩
  have hsssd := hsss.drew
  (repeat (first | (apply el_skip rfl (by rfl); try simp only [Act.put, List.setIfInBounds_toArray, List.set_cons_zero, List.set_cons_succ]) | (apply el_float rfl (by rfl); (· (intro w' hS; go_simp <;> with_reducible rfl)); (try simp only [Act.put, List.setIfInBounds_toArray, List.set_cons_zero, List.set_cons_succ]))))
  refine el_hard rfl (by rfl) (fun K hK => ?_)
  go_wp2_with (go_at_call 17; refine (toSystem_b (x00, x01, x02) _ _ _ _ (Rd.mono H0.out hsssd.bel) gc0).mono ?_; rintro e w3 ⟨us00, us01, us02, rfl, frs0, hb3⟩)
  have hsssds := hsssd.step hb3
  have hz3 : w2.heap.size ≤ w3.heap.size := by simpa using hb3.size
  have Js0 := Lib.hid (Fresh.iv frs0)
  have zs00 := rd_cons rfl (Iv.rd Js0.out)
  obtain ⟨rfl, _⟩ := rd_i1 zs00.1
  have zs01 := rd_cons rfl zs00.2
  obtain ⟨rfl, _⟩ := rd_i1 zs01.1
  obtain ⟨as02, cs02, rfl, _⟩ := rd_list zs01.2
  clear zs00 zs01
  clear frs0
  refine ⟨⟨hsssds.cellAt 0 rfl 0 rfl, hsssds.cellAt 0 rfl 1 rfl, hsssds.cellAt 0 rfl 2 rfl, hsssds.cellAt 1 rfl 0 rfl, hsssds.cellAt 1 rfl 1 rfl⟩, ?_⟩
  (repeat (first | (apply el_skip rfl (by rfl); try simp only [Act.put, List.setIfInBounds_toArray, List.set_cons_zero, List.set_cons_succ]) | (apply el_float rfl (by rfl); (· (intro w' hS; go_simp <;> with_reducible rfl)); (try simp only [Act.put, List.setIfInBounds_toArray, List.set_cons_zero, List.set_cons_succ]))))
  refine el_hard rfl (by rfl) (fun K hK => ?_)
  go_wp2_with (go_at_call 37; refine (toEquation_b (x10, x11) _ _ _ (Rd.mono H1.out hsssds.bel) gc1).mono ?_; rintro e w4 ⟨us10, us11, rfl, frs1, hb4⟩)
  have Js0' := Lib.hid (Iv.mono Js0.out hb4)
  clear Js0
  have hsssdss := hsssds.step hb4
  have hz4 : w3.heap.size ≤ w4.heap.size := by simpa using hb4.size
  have Js1 := Lib.hid (Fresh.iv frs1)
  have zs10 := rd_cons rfl (Iv.rd Js1.out)
  obtain ⟨as10, cs10, rfl, _⟩ := rd_list zs10.1
  obtain ⟨rfl, _⟩ := rd_i1 zs10.2
  clear zs10
  clear frs1
  refine ⟨⟨hsssdss.cellAt 0 rfl 0 rfl, hsssdss.cellAt 0 rfl 1 rfl, hsssdss.cellAt 0 rfl 2 rfl, hsssdss.cellAt 1 rfl 0 rfl, hsssdss.cellAt 1 rfl 1 rfl⟩, ?_⟩
  (repeat (first | (apply el_skip rfl (by rfl); try simp only [Act.put, List.setIfInBounds_toArray, List.set_cons_zero, List.set_cons_succ]) | (apply el_float rfl (by rfl); (· (intro w' hS; go_simp <;> with_reducible rfl)); (try simp only [Act.put, List.setIfInBounds_toArray, List.set_cons_zero, List.set_cons_succ]))))
  refine el_hard rfl (by rfl) (fun K hK => ?_)
  go_wp2_with (go_at_call 43; refine (CS.out _ _ _ _ _ _ (Iv.rd Js0'.out) (Iv.rd Js1.out)).mono ?_; rintro e w5 ⟨uW0, rfl, frW, hb5⟩)
  have Js0'' := Lib.hid (Iv.mono Js0'.out hb5)
  clear Js0'
  have Js1' := Lib.hid (Iv.mono Js1.out hb5)
  clear Js1
  have hsssdsss := hsssdss.step hb5
  have hz5 : w4.heap.size ≤ w5.heap.size := by simpa using hb5.size
  have JW := Lib.hid (Fresh.iv frW)
  obtain ⟨aW, cW, rfl, _⟩ := rd_list (Iv.rd JW.out)
  clear frW
  clear Js0''
  clear Js1'
  refine ⟨⟨hsssdsss.cellAt 0 rfl 0 rfl, hsssdsss.cellAt 0 rfl 1 rfl, hsssdsss.cellAt 0 rfl 2 rfl, hsssdsss.cellAt 1 rfl 0 rfl, hsssdsss.cellAt 1 rfl 1 rfl⟩, ?_⟩
  (repeat (first | (apply el_skip rfl (by rfl); try simp only [Act.put, List.setIfInBounds_toArray, List.set_cons_zero, List.set_cons_succ]) | (apply el_float rfl (by rfl); (· (intro w' hS; go_simp <;> with_reducible rfl)); (try simp only [Act.put, List.setIfInBounds_toArray, List.set_cons_zero, List.set_cons_succ]))))
  refine el_nil (NoPanic.normal ?_)
  clear qa00 qa01 qa02 qa10 qa11
  have qa00 := hsssdsss.cellAt 0 rfl 0 rfl
  have qa01 := hsssdsss.cellAt 0 rfl 1 rfl
  have qa02 := hsssdsss.cellAt 0 rfl 2 rfl
  have qa10 := hsssdsss.cellAt 1 rfl 0 rfl
  have qa11 := hsssdsss.cellAt 1 rfl 1 rfl
  go_wp2_with fail
  refine (toSystem_b (x00, x01, x02) _ _ _ _ (Rd.mono H0.out hsssdsss.bel) gc0).mono ?_
  rintro e w6 ⟨ux00, ux01, ux02, rfl, frx0, hb6⟩
  have JW' := Lib.hid (Iv.mono JW.out hb6)
  clear JW
  have hsssdssss := hsssdsss.step hb6
  have hz6 : w5.heap.size ≤ w6.heap.size := by simpa using hb6.size
  have Jx0 := Lib.hid (Fresh.iv frx0)
  have zx00 := rd_cons rfl (Iv.rd Jx0.out)
  obtain ⟨rfl, _⟩ := rd_i1 zx00.1
  have zx01 := rd_cons rfl zx00.2
  obtain ⟨rfl, _⟩ := rd_i1 zx01.1
  obtain ⟨ax02, cx02, rfl, _⟩ := rd_list zx01.2
  clear zx00 zx01
  clear frx0
  clear qa00 qa01 qa02 qa10 qa11
  have qa00 := hsssdssss.cellAt 0 rfl 0 rfl
  have qa01 := hsssdssss.cellAt 0 rfl 1 rfl
  have qa02 := hsssdssss.cellAt 0 rfl 2 rfl
  have qa10 := hsssdssss.cellAt 1 rfl 0 rfl
  have qa11 := hsssdssss.cellAt 1 rfl 1 rfl
  have hsssdssssa := hsssdssss.alloc #[.int .i64 x00, .int .i64 x01, .slice ax02 x02.length cx02] 31 rfl
  have JW'' := Lib.hid (Iv.mono JW'.out (belowA _ (.cells #[.int .i64 x00, .int .i64 x01, .slice ax02 x02.length cx02] 31)))
  clear JW'
  have Jx0' := Lib.hid (Iv.mono Jx0.out (belowA _ (.cells #[.int .i64 x00, .int .i64 x01, .slice ax02 x02.length cx02] 31)))
  clear Jx0
  clear qa00 qa01 qa02 qa10 qa11
  have qa00 := hsssdssssa.cellAt 0 rfl 0 rfl
  have qa01 := hsssdssssa.cellAt 0 rfl 1 rfl
  have qa02 := hsssdssssa.cellAt 0 rfl 2 rfl
  have qa10 := hsssdssssa.cellAt 1 rfl 0 rfl
  have qa11 := hsssdssssa.cellAt 1 rfl 1 rfl
  have qx00 := hsssdssssa.cellAt 2 rfl 0 rfl
  have qx01 := hsssdssssa.cellAt 2 rfl 1 rfl
  have qx02 := hsssdssssa.cellAt 2 rfl 2 rfl
  go_wp2_with fail
  refine (toEquation_b (x10, x11) _ _ _ (Rd.mono H1.out hsssdssssa.bel) gc1).mono ?_
  rintro e w7 ⟨ux10, ux11, rfl, frx1, hb7⟩
  have JW''' := Lib.hid (Iv.mono JW''.out hb7)
  clear JW''
  have Jx0'' := Lib.hid (Iv.mono Jx0'.out hb7)
  clear Jx0'
  have hsssdssssas := hsssdssssa.step hb7
  have hz7 : w6.heap.size + 1 ≤ w7.heap.size := by simpa using hb7.size
  have Jx1 := Lib.hid (Fresh.iv frx1)
  have zx10 := rd_cons rfl (Iv.rd Jx1.out)
  obtain ⟨ax10, cx10, rfl, _⟩ := rd_list zx10.1
  obtain ⟨rfl, _⟩ := rd_i1 zx10.2
  clear zx10
  clear frx1
  clear qa00 qa01 qa02 qa10 qa11 qx00 qx01 qx02
  have qa00 := hsssdssssas.cellAt 0 rfl 0 rfl
  have qa01 := hsssdssssas.cellAt 0 rfl 1 rfl
  have qa02 := hsssdssssas.cellAt 0 rfl 2 rfl
  have qa10 := hsssdssssas.cellAt 1 rfl 0 rfl
  have qa11 := hsssdssssas.cellAt 1 rfl 1 rfl
  have qx00 := hsssdssssas.cellAt 2 rfl 0 rfl
  have qx01 := hsssdssssas.cellAt 2 rfl 1 rfl
  have qx02 := hsssdssssas.cellAt 2 rfl 2 rfl
  have hsssdssssasa := hsssdssssas.alloc #[.slice ax10 x10.length cx10, .int .i64 x11] 48 rfl
  have JW'''' := Lib.hid (Iv.mono JW'''.out (belowA _ (.cells #[.slice ax10 x10.length cx10, .int .i64 x11] 48)))
  clear JW'''
  have Jx0''' := Lib.hid (Iv.mono Jx0''.out (belowA _ (.cells #[.slice ax10 x10.length cx10, .int .i64 x11] 48)))
  clear Jx0''
  have Jx1' := Lib.hid (Iv.mono Jx1.out (belowA _ (.cells #[.slice ax10 x10.length cx10, .int .i64 x11] 48)))
  clear Jx1
  clear qa00 qa01 qa02 qa10 qa11 qx00 qx01 qx02
  have qa00 := hsssdssssasa.cellAt 0 rfl 0 rfl
  have qa01 := hsssdssssasa.cellAt 0 rfl 1 rfl
  have qa02 := hsssdssssasa.cellAt 0 rfl 2 rfl
  have qa10 := hsssdssssasa.cellAt 1 rfl 0 rfl
  have qa11 := hsssdssssasa.cellAt 1 rfl 1 rfl
  have qx00 := hsssdssssasa.cellAt 2 rfl 0 rfl
  have qx01 := hsssdssssasa.cellAt 2 rfl 1 rfl
  have qx02 := hsssdssssasa.cellAt 2 rfl 2 rfl
  have qx10 := hsssdssssasa.cellAt 3 rfl 0 rfl
  have qx11 := hsssdssssasa.cellAt 3 rfl 1 rfl
  go_wp2_with fail
  refine (CI.out _ _ _ _ _ _ (Iv.rd Jx0'''.out) (Iv.rd Jx1'.out)).mono ?_
  rintro e w8 ⟨uG0, rfl, frG, hb8⟩
  have JW''''' := Lib.hid (Iv.mono JW''''.out hb8)
  clear JW''''
  have Jx0'''' := Lib.hid (Iv.mono Jx0'''.out hb8)
  clear Jx0'''
  have Jx1'' := Lib.hid (Iv.mono Jx1'.out hb8)
  clear Jx1'
  have hsssdssssasas := hsssdssssasa.step hb8
  have hz8 : w7.heap.size + 1 ≤ w8.heap.size := by simpa using hb8.size
  have JG := Lib.hid (Fresh.iv frG)
  obtain ⟨aG, cG, rfl, _⟩ := rd_list (Iv.rd JG.out)
  clear frG
  clear qa00 qa01 qa02 qa10 qa11 qx00 qx01 qx02 qx10 qx11
  have qa00 := hsssdssssasas.cellAt 0 rfl 0 rfl
  have qa01 := hsssdssssasas.cellAt 0 rfl 1 rfl
  have qa02 := hsssdssssasas.cellAt 0 rfl 2 rfl
  have qa10 := hsssdssssasas.cellAt 1 rfl 0 rfl
  have qa11 := hsssdssssasas.cellAt 1 rfl 1 rfl
  have qx00 := hsssdssssasas.cellAt 2 rfl 0 rfl
  have qx01 := hsssdssssasas.cellAt 2 rfl 1 rfl
  have qx02 := hsssdssssasas.cellAt 2 rfl 2 rfl
  have qx10 := hsssdssssasas.cellAt 3 rfl 0 rfl
  have qx11 := hsssdssssasas.cellAt 3 rfl 1 rfl
  go_wp2_with fail
  refine (eqInt64S_s r0 _ _ _ (Iv.rd JG.out) (Iv.rd JW'''''.out)).mono ?_
  rintro e w9 ⟨rfl, hb9⟩
  have JW'''''' := Lib.hid (Iv.mono JW'''''.out hb9)
  clear JW'''''
  have Jx0''''' := Lib.hid (Iv.mono Jx0''''.out hb9)
  clear Jx0''''
  have Jx1''' := Lib.hid (Iv.mono Jx1''.out hb9)
  clear Jx1''
  have JG' := Lib.hid (Iv.mono JG.out hb9)
  clear JG
  have hsssdssssasass := hsssdssssasas.step hb9
  have hz9 : w8.heap.size ≤ w9.heap.size := by simpa using hb9.size
  clear qa00 qa01 qa02 qa10 qa11 qx00 qx01 qx02 qx10 qx11
  have qa00 := hsssdssssasass.cellAt 0 rfl 0 rfl
  have qa01 := hsssdssssasass.cellAt 0 rfl 1 rfl
  have qa02 := hsssdssssasass.cellAt 0 rfl 2 rfl
  have qa10 := hsssdssssasass.cellAt 1 rfl 0 rfl
  have qa11 := hsssdssssasass.cellAt 1 rfl 1 rfl
  have qx00 := hsssdssssasass.cellAt 2 rfl 0 rfl
  have qx01 := hsssdssssasass.cellAt 2 rfl 1 rfl
  have qx02 := hsssdssssasass.cellAt 2 rfl 2 rfl
  have qx10 := hsssdssssasass.cellAt 3 rfl 0 rfl
  have qx11 := hsssdssssasass.cellAt 3 rfl 1 rfl
  have hcode : (code != code) = false := by simp
  go_wp2_with fail
  refine wp_region_noPanic (wp_region_el (fun w' => w'.cell? ⟨w.heap.size, 0, none⟩ = some (.int .i64 x00) ∧ w'.cell? ⟨w.heap.size, 1, none⟩ = some (.int .i64 x01) ∧ w'.cell? ⟨w.heap.size, 2, none⟩ = some (.slice a02 x02.length c02) ∧ w'.cell? ⟨w.heap.size + 1, 0, none⟩ = some (.slice a10 x10.length c10) ∧ w'.cell? ⟨w.heap.size + 1, 1, none⟩ = some (.int .i64 x11) ∧ w'.cell? ⟨w6.heap.size, 0, none⟩ = some (.int .i64 x00) ∧ w'.cell? ⟨w6.heap.size, 1, none⟩ = some (.int .i64 x01) ∧ w'.cell? ⟨w6.heap.size, 2, none⟩ = some (.slice ax02 x02.length cx02) ∧ w'.cell? ⟨w7.heap.size, 0, none⟩ = some (.slice ax10 x10.length cx10) ∧ w'.cell? ⟨w7.heap.size, 1, none⟩ = some (.int .i64 x11)) [(0, 0), (1, 0), (2, 1), (3, 1), (4, 0)] (by kernel_rfl) (by kernel_rfl) (by kernel_rfl) rfl ?_ (fun _ _ _ _ _ h => h) ?_)
  · exact ⟨(hsssdssssasass.drew).cellAt 0 rfl 0 rfl, (hsssdssssasass.drew).cellAt 0 rfl 1 rfl, (hsssdssssasass.drew).cellAt 0 rfl 2 rfl, (hsssdssssasass.drew).cellAt 1 rfl 0 rfl, (hsssdssssasass.drew).cellAt 1 rfl 1 rfl, (hsssdssssasass.drew).cellAt 2 rfl 0 rfl, (hsssdssssasass.drew).cellAt 2 rfl 1 rfl, (hsssdssssasass.drew).cellAt 2 rfl 2 rfl, (hsssdssssasass.drew).cellAt 3 rfl 0 rfl, (hsssdssssasass.drew).cellAt 3 rfl 1 rfl⟩
  have JW''''''' := Lib.hid (Iv.mono JW''''''.out (belowD _))
  clear JW''''''
  have Jx0'''''' := Lib.hid (Iv.mono Jx0'''''.out (belowD _))
  clear Jx0'''''
  have Jx1'''' := Lib.hid (Iv.mono Jx1'''.out (belowD _))
  clear Jx1'''
  have JG'' := Lib.hid (Iv.mono JG'.out (belowD _))
  clear JG'
  have hsssdssssasassd := hsssdssssasass.drew
  (repeat (first | (apply el_skip rfl (by rfl); try simp only [Act.put, List.setIfInBounds_toArray, List.set_cons_zero, List.set_cons_succ]) | (apply el_float rfl (by rfl); (· (intro w' hS; go_simp <;> with_reducible rfl)); (try simp only [Act.put, List.setIfInBounds_toArray, List.set_cons_zero, List.set_cons_succ]))))
  refine el_hard rfl (by rfl) (fun K hK => ?_)
  go_wp2_with (go_at_call 17; refine (toSystem_b (x00, x01, x02) _ _ _ _ (Rd.mono H0.out hsssdssssasassd.bel) gc0).mono ?_; rintro e w10 ⟨uy00, uy01, uy02, rfl, fry0, hb10⟩)
  have JW'''''''' := Lib.hid (Iv.mono JW'''''''.out hb10)
  clear JW'''''''
  have Jx0''''''' := Lib.hid (Iv.mono Jx0''''''.out hb10)
  clear Jx0''''''
  have Jx1''''' := Lib.hid (Iv.mono Jx1''''.out hb10)
  clear Jx1''''
  have JG''' := Lib.hid (Iv.mono JG''.out hb10)
  clear JG''
  have hsssdssssasassds := hsssdssssasassd.step hb10
  have hz10 : w9.heap.size ≤ w10.heap.size := by simpa using hb10.size
  have Jy0 := Lib.hid (Fresh.iv fry0)
  have zy00 := rd_cons rfl (Iv.rd Jy0.out)
  obtain ⟨rfl, _⟩ := rd_i1 zy00.1
  have zy01 := rd_cons rfl zy00.2
  obtain ⟨rfl, _⟩ := rd_i1 zy01.1
  obtain ⟨ay02, cy02, rfl, _⟩ := rd_list zy01.2
  clear zy00 zy01
  clear fry0
  refine ⟨⟨hsssdssssasassds.cellAt 0 rfl 0 rfl, hsssdssssasassds.cellAt 0 rfl 1 rfl, hsssdssssasassds.cellAt 0 rfl 2 rfl, hsssdssssasassds.cellAt 1 rfl 0 rfl, hsssdssssasassds.cellAt 1 rfl 1 rfl, hsssdssssasassds.cellAt 2 rfl 0 rfl, hsssdssssasassds.cellAt 2 rfl 1 rfl, hsssdssssasassds.cellAt 2 rfl 2 rfl, hsssdssssasassds.cellAt 3 rfl 0 rfl, hsssdssssasassds.cellAt 3 rfl 1 rfl⟩, ?_⟩
  (repeat (first | (apply el_skip rfl (by rfl); try simp only [Act.put, List.setIfInBounds_toArray, List.set_cons_zero, List.set_cons_succ]) | (apply el_float rfl (by rfl); (· (intro w' hS; go_simp <;> with_reducible rfl)); (try simp only [Act.put, List.setIfInBounds_toArray, List.set_cons_zero, List.set_cons_succ]))))
  refine el_hard rfl (by rfl) (fun K hK => ?_)
  go_wp2_with (go_at_call 20; refine (eqSystem_s (x00, x01, x02) _ _ _ _ _ _ _ (Iv.rd Jx0'''''''.out) (Iv.rd Jy0.out)).mono ?_; rintro e w11 ⟨rfl, hb11⟩)
  clear Jy0
  have JW''''''''' := Lib.hid (Iv.mono JW''''''''.out hb11)
  clear JW''''''''
  have Jx0'''''''' := Lib.hid (Iv.mono Jx0'''''''.out hb11)
  clear Jx0'''''''
  have Jx1'''''' := Lib.hid (Iv.mono Jx1'''''.out hb11)
  clear Jx1'''''
  have JG'''' := Lib.hid (Iv.mono JG'''.out hb11)
  clear JG'''
  have hsssdssssasassdss := hsssdssssasassds.step hb11
  have hz11 : w10.heap.size ≤ w11.heap.size := by simpa using hb11.size
  refine ⟨⟨hsssdssssasassdss.cellAt 0 rfl 0 rfl, hsssdssssasassdss.cellAt 0 rfl 1 rfl, hsssdssssasassdss.cellAt 0 rfl 2 rfl, hsssdssssasassdss.cellAt 1 rfl 0 rfl, hsssdssssasassdss.cellAt 1 rfl 1 rfl, hsssdssssasassdss.cellAt 2 rfl 0 rfl, hsssdssssasassdss.cellAt 2 rfl 1 rfl, hsssdssssasassdss.cellAt 2 rfl 2 rfl, hsssdssssasassdss.cellAt 3 rfl 0 rfl, hsssdssssasassdss.cellAt 3 rfl 1 rfl⟩, ?_⟩
  (repeat (first | (apply el_skip rfl (by rfl); try simp only [Act.put, List.setIfInBounds_toArray, List.set_cons_zero, List.set_cons_succ]) | (apply el_float rfl (by rfl); (· (intro w' hS; go_simp <;> with_reducible rfl)); (try simp only [Act.put, List.setIfInBounds_toArray, List.set_cons_zero, List.set_cons_succ]))))
  refine el_nil (NoPanic.normal ?_)
  clear qa00 qa01 qa02 qa10 qa11 qx00 qx01 qx02 qx10 qx11
  have qa00 := hsssdssssasassdss.cellAt 0 rfl 0 rfl
  have qa01 := hsssdssssasassdss.cellAt 0 rfl 1 rfl
  have qa02 := hsssdssssasassdss.cellAt 0 rfl 2 rfl
  have qa10 := hsssdssssasassdss.cellAt 1 rfl 0 rfl
  have qa11 := hsssdssssasassdss.cellAt 1 rfl 1 rfl
  have qx00 := hsssdssssasassdss.cellAt 2 rfl 0 rfl
  have qx01 := hsssdssssasassdss.cellAt 2 rfl 1 rfl
  have qx02 := hsssdssssasassdss.cellAt 2 rfl 2 rfl
  have qx10 := hsssdssssasassdss.cellAt 3 rfl 0 rfl
  have qx11 := hsssdssssasassdss.cellAt 3 rfl 1 rfl
  go_wp2_with fail
  refine wp_region_noPanic (wp_region_el (fun w' => w'.cell? ⟨w.heap.size, 0, none⟩ = some (.int .i64 x00) ∧ w'.cell? ⟨w.heap.size, 1, none⟩ = some (.int .i64 x01) ∧ w'.cell? ⟨w.heap.size, 2, none⟩ = some (.slice a02 x02.length c02) ∧ w'.cell? ⟨w.heap.size + 1, 0, none⟩ = some (.slice a10 x10.length c10) ∧ w'.cell? ⟨w.heap.size + 1, 1, none⟩ = some (.int .i64 x11) ∧ w'.cell? ⟨w6.heap.size, 0, none⟩ = some (.int .i64 x00) ∧ w'.cell? ⟨w6.heap.size, 1, none⟩ = some (.int .i64 x01) ∧ w'.cell? ⟨w6.heap.size, 2, none⟩ = some (.slice ax02 x02.length cx02) ∧ w'.cell? ⟨w7.heap.size, 0, none⟩ = some (.slice ax10 x10.length cx10) ∧ w'.cell? ⟨w7.heap.size, 1, none⟩ = some (.int .i64 x11)) [(0, 0), (1, 0), (2, 1), (3, 1), (4, 0)] (by kernel_rfl) (by kernel_rfl) (by kernel_rfl) rfl ?_ (fun _ _ _ _ _ h => h) ?_)
  · exact ⟨(hsssdssssasassdss.drew).cellAt 0 rfl 0 rfl, (hsssdssssasassdss.drew).cellAt 0 rfl 1 rfl, (hsssdssssasassdss.drew).cellAt 0 rfl 2 rfl, (hsssdssssasassdss.drew).cellAt 1 rfl 0 rfl, (hsssdssssasassdss.drew).cellAt 1 rfl 1 rfl, (hsssdssssasassdss.drew).cellAt 2 rfl 0 rfl, (hsssdssssasassdss.drew).cellAt 2 rfl 1 rfl, (hsssdssssasassdss.drew).cellAt 2 rfl 2 rfl, (hsssdssssasassdss.drew).cellAt 3 rfl 0 rfl, (hsssdssssasassdss.drew).cellAt 3 rfl 1 rfl⟩
  have JW'''''''''' := Lib.hid (Iv.mono JW'''''''''.out (belowD _))
  clear JW'''''''''
  have Jx0''''''''' := Lib.hid (Iv.mono Jx0''''''''.out (belowD _))
  clear Jx0''''''''
  have Jx1''''''' := Lib.hid (Iv.mono Jx1''''''.out (belowD _))
  clear Jx1''''''
  have JG''''' := Lib.hid (Iv.mono JG''''.out (belowD _))
  clear JG''''
  have hsssdssssasassdssd := hsssdssssasassdss.drew
  (repeat (first | (apply el_skip rfl (by rfl); try simp only [Act.put, List.setIfInBounds_toArray, List.set_cons_zero, List.set_cons_succ]) | (apply el_float rfl (by rfl); (· (intro w' hS; go_simp <;> with_reducible rfl)); (try simp only [Act.put, List.setIfInBounds_toArray, List.set_cons_zero, List.set_cons_succ]))))
  refine el_hard rfl (by rfl) (fun K hK => ?_)
  go_wp2_with (go_at_call 37; refine (toEquation_b (x10, x11) _ _ _ (Rd.mono H1.out hsssdssssasassdssd.bel) gc1).mono ?_; rintro e w12 ⟨uy10, uy11, rfl, fry1, hb12⟩)
  have JW''''''''''' := Lib.hid (Iv.mono JW''''''''''.out hb12)
  clear JW''''''''''
  have Jx0'''''''''' := Lib.hid (Iv.mono Jx0'''''''''.out hb12)
  clear Jx0'''''''''
  have Jx1'''''''' := Lib.hid (Iv.mono Jx1'''''''.out hb12)
  clear Jx1'''''''
  have JG'''''' := Lib.hid (Iv.mono JG'''''.out hb12)
  clear JG'''''
  have hsssdssssasassdssds := hsssdssssasassdssd.step hb12
  have hz12 : w11.heap.size ≤ w12.heap.size := by simpa using hb12.size
  have Jy1 := Lib.hid (Fresh.iv fry1)
  have zy10 := rd_cons rfl (Iv.rd Jy1.out)
  obtain ⟨ay10, cy10, rfl, _⟩ := rd_list zy10.1
  obtain ⟨rfl, _⟩ := rd_i1 zy10.2
  clear zy10
  clear fry1
  refine ⟨⟨hsssdssssasassdssds.cellAt 0 rfl 0 rfl, hsssdssssasassdssds.cellAt 0 rfl 1 rfl, hsssdssssasassdssds.cellAt 0 rfl 2 rfl, hsssdssssasassdssds.cellAt 1 rfl 0 rfl, hsssdssssasassdssds.cellAt 1 rfl 1 rfl, hsssdssssasassdssds.cellAt 2 rfl 0 rfl, hsssdssssasassdssds.cellAt 2 rfl 1 rfl, hsssdssssasassdssds.cellAt 2 rfl 2 rfl, hsssdssssasassdssds.cellAt 3 rfl 0 rfl, hsssdssssasassdssds.cellAt 3 rfl 1 rfl⟩, ?_⟩
  (repeat (first | (apply el_skip rfl (by rfl); try simp only [Act.put, List.setIfInBounds_toArray, List.set_cons_zero, List.set_cons_succ]) | (apply el_float rfl (by rfl); (· (intro w' hS; go_simp <;> with_reducible rfl)); (try simp only [Act.put, List.setIfInBounds_toArray, List.set_cons_zero, List.set_cons_succ]))))
  refine el_hard rfl (by rfl) (fun K hK => ?_)
  go_wp2_with (go_at_call 39; refine (eqEquation_s (x10, x11) _ _ _ _ _ (Iv.rd Jx1''''''''.out) (Iv.rd Jy1.out)).mono ?_; rintro e w13 ⟨rfl, hb13⟩)
  clear Jy1
  have JW'''''''''''' := Lib.hid (Iv.mono JW'''''''''''.out hb13)
  clear JW'''''''''''
  have Jx0''''''''''' := Lib.hid (Iv.mono Jx0''''''''''.out hb13)
  clear Jx0''''''''''
  have Jx1''''''''' := Lib.hid (Iv.mono Jx1''''''''.out hb13)
  clear Jx1''''''''
  have JG''''''' := Lib.hid (Iv.mono JG''''''.out hb13)
  clear JG''''''
  have hsssdssssasassdssdss := hsssdssssasassdssds.step hb13
  have hz13 : w12.heap.size ≤ w13.heap.size := by simpa using hb13.size
  refine ⟨⟨hsssdssssasassdssdss.cellAt 0 rfl 0 rfl, hsssdssssasassdssdss.cellAt 0 rfl 1 rfl, hsssdssssasassdssdss.cellAt 0 rfl 2 rfl, hsssdssssasassdssdss.cellAt 1 rfl 0 rfl, hsssdssssasassdssdss.cellAt 1 rfl 1 rfl, hsssdssssasassdssdss.cellAt 2 rfl 0 rfl, hsssdssssasassdssdss.cellAt 2 rfl 1 rfl, hsssdssssasassdssdss.cellAt 2 rfl 2 rfl, hsssdssssasassdssdss.cellAt 3 rfl 0 rfl, hsssdssssasassdssdss.cellAt 3 rfl 1 rfl⟩, ?_⟩
  (repeat (first | (apply el_skip rfl (by rfl); try simp only [Act.put, List.setIfInBounds_toArray, List.set_cons_zero, List.set_cons_succ]) | (apply el_float rfl (by rfl); (· (intro w' hS; go_simp <;> with_reducible rfl)); (try simp only [Act.put, List.setIfInBounds_toArray, List.set_cons_zero, List.set_cons_succ]))))
  refine el_nil (NoPanic.normal ?_)
  clear qa00 qa01 qa02 qa10 qa11 qx00 qx01 qx02 qx10 qx11
  have qa00 := hsssdssssasassdssdss.cellAt 0 rfl 0 rfl
  have qa01 := hsssdssssasassdssdss.cellAt 0 rfl 1 rfl
  have qa02 := hsssdssssasassdssdss.cellAt 0 rfl 2 rfl
  have qa10 := hsssdssssasassdssdss.cellAt 1 rfl 0 rfl
  have qa11 := hsssdssssasassdssdss.cellAt 1 rfl 1 rfl
  have qx00 := hsssdssssasassdssdss.cellAt 2 rfl 0 rfl
  have qx01 := hsssdssssasassdssdss.cellAt 2 rfl 1 rfl
  have qx02 := hsssdssssasassdssdss.cellAt 2 rfl 2 rfl
  have qx10 := hsssdssssasassdssdss.cellAt 3 rfl 0 rfl
  have qx11 := hsssdssssasassdssdss.cellAt 3 rfl 1 rfl
  have mcb0 : mc_System (x00, x01, x02) ≤ 1048576 := by rw [mc_cost_System]; exact gc0
  obtain ⟨psx0, hox0, hnx0, hpx0⟩ := Jx0'''''''''''.out
  have HOx0 := Lib.hid hox0
  clear hox0
  clear Jx0'''''''''''
  go_wp2_with fail
  refine (markSystem_g (x00, x01, x02) _ _ _ psx0 1 _ HOx0.out hnx0 (by omega) (by omega)).mono ?_
  rintro e w14 ⟨yx0, mx0, rfl, l0x0, l1x0, hyx0, hhx0, hbutx0⟩
  have HYx0 := Lib.hid hyx0
  have HHx0 := Lib.hid hhx0
  clear hyx0 hhx0 HOx0
  have hqx0 : ∀ k, k ∈ psx0 → w5.heap.size ≤ k ∧ k < w6.heap.size := fun k hk => by have := hpx0 k hk; simpa using this
  have JW''''''''''''' := Lib.hid (Iv.but JW''''''''''''.out hbutx0 (fun k hk => by have := hqx0 k hk; simp; omega))
  clear JW''''''''''''
  have Jx1'''''''''' := Lib.hid (Iv.but Jx1'''''''''.out hbutx0 (fun k hk => by have := hqx0 k hk; simp; omega))
  clear Jx1'''''''''
  have JG'''''''' := Lib.hid (Iv.but JG'''''''.out hbutx0 (fun k hk => by have := hqx0 k hk; simp; omega))
  clear JG'''''''
  have hsssdssssasassdssdssm := hsssdssssasassdssdss.butIv hbutx0 (fun k hk => by have := hqx0 k hk; omega) (fun x hx hp => by
    have := hqx0 _ hp
    simp only [List.mem_append, List.mem_cons, List.mem_nil_iff, or_false, List.not_mem_nil, false_or, or_assoc] at hx
    rcases hx with rfl | rfl | rfl | rfl <;> (simp only at this; omega))
  have hz14 : w13.heap.size ≤ w14.heap.size := by simpa using hbutx0.size
  clear qa00 qa01 qa02 qa10 qa11 qx00 qx01 qx02 qx10 qx11
  have qa00 := hsssdssssasassdssdssm.cellAt 0 rfl 0 rfl
  have qa01 := hsssdssssasassdssdssm.cellAt 0 rfl 1 rfl
  have qa02 := hsssdssssasassdssdssm.cellAt 0 rfl 2 rfl
  have qa10 := hsssdssssasassdssdssm.cellAt 1 rfl 0 rfl
  have qa11 := hsssdssssasassdssdssm.cellAt 1 rfl 1 rfl
  have qx00 := hsssdssssasassdssdssm.cellAt 2 rfl 0 rfl
  have qx01 := hsssdssssasassdssdssm.cellAt 2 rfl 1 rfl
  have qx02 := hsssdssssasassdssdssm.cellAt 2 rfl 2 rfl
  have qx10 := hsssdssssasassdssdssm.cellAt 3 rfl 0 rfl
  have qx11 := hsssdssssasassdssdssm.cellAt 3 rfl 1 rfl
  obtain ⟨psx1, hox1, hnx1, hpx1⟩ := Jx1''''''''''.out
  have HOx1 := Lib.hid hox1
  clear hox1
  clear Jx1''''''''''
  go_wp2_with fail
  refine (markEquation_g (x10, x11) _ _ psx1 mx0 _ HOx1.out hnx1 (by omega) (by have : mc_Equation (x10, x11) = cost_Equation (x10, x11) := rfl; omega)).mono ?_
  rintro e w15 ⟨yx1, mx1, rfl, l0x1, l1x1, hyx1, hhx1, hbutx1⟩
  have HYx1 := Lib.hid hyx1
  have HHx1 := Lib.hid hhx1
  clear hyx1 hhx1 HOx1
  have hqx1 : ∀ k, k ∈ psx1 → w6.heap.size + 1 ≤ k ∧ k < w7.heap.size := fun k hk => by have := hpx1 k hk; simpa using this
  have JW'''''''''''''' := Lib.hid (Iv.but JW'''''''''''''.out hbutx1 (fun k hk => by have := hqx1 k hk; simp; omega))
  clear JW'''''''''''''
  have JG''''''''' := Lib.hid (Iv.but JG''''''''.out hbutx1 (fun k hk => by have := hqx1 k hk; simp; omega))
  clear JG''''''''
  have hsssdssssasassdssdssmm := hsssdssssasassdssdssm.butIv hbutx1 (fun k hk => by have := hqx1 k hk; omega) (fun x hx hp => by
    have := hqx1 _ hp
    simp only [List.mem_append, List.mem_cons, List.mem_nil_iff, or_false, List.not_mem_nil, false_or, or_assoc] at hx
    rcases hx with rfl | rfl | rfl | rfl <;> (simp only at this; omega))
  have hz15 : w14.heap.size ≤ w15.heap.size := by simpa using hbutx1.size
  clear qa00 qa01 qa02 qa10 qa11 qx00 qx01 qx02 qx10 qx11
  have qa00 := hsssdssssasassdssdssmm.cellAt 0 rfl 0 rfl
  have qa01 := hsssdssssasassdssdssmm.cellAt 0 rfl 1 rfl
  have qa02 := hsssdssssasassdssdssmm.cellAt 0 rfl 2 rfl
  have qa10 := hsssdssssasassdssdssmm.cellAt 1 rfl 0 rfl
  have qa11 := hsssdssssasassdssdssmm.cellAt 1 rfl 1 rfl
  have qx00 := hsssdssssasassdssdssmm.cellAt 2 rfl 0 rfl
  have qx01 := hsssdssssasassdssdssmm.cellAt 2 rfl 1 rfl
  have qx02 := hsssdssssasassdssdssmm.cellAt 2 rfl 2 rfl
  have qx10 := hsssdssssasassdssdssmm.cellAt 3 rfl 0 rfl
  have qx11 := hsssdssssasassdssdssmm.cellAt 3 rfl 1 rfl
  go_wp2_with fail
  refine (eqInt64S_s r0 _ _ _ (Iv.rd JG'''''''''.out) (Iv.rd JW''''''''''''''.out)).mono ?_
  rintro e w16 ⟨rfl, hb16⟩
  have JW''''''''''''''' := Lib.hid (Iv.mono JW''''''''''''''.out hb16)
  clear JW''''''''''''''
  have JG'''''''''' := Lib.hid (Iv.mono JG'''''''''.out hb16)
  clear JG'''''''''
  have hsssdssssasassdssdssmms := hsssdssssasassdssdssmm.step hb16
  have hz16 : w15.heap.size ≤ w16.heap.size := by simpa using hb16.size
  clear qa00 qa01 qa02 qa10 qa11 qx00 qx01 qx02 qx10 qx11
  have qa00 := hsssdssssasassdssdssmms.cellAt 0 rfl 0 rfl
  have qa01 := hsssdssssasassdssdssmms.cellAt 0 rfl 1 rfl
  have qa02 := hsssdssssasassdssdssmms.cellAt 0 rfl 2 rfl
  have qa10 := hsssdssssasassdssdssmms.cellAt 1 rfl 0 rfl
  have qa11 := hsssdssssasassdssdssmms.cellAt 1 rfl 1 rfl
  have qx00 := hsssdssssasassdssdssmms.cellAt 2 rfl 0 rfl
  have qx01 := hsssdssssasassdssdssmms.cellAt 2 rfl 1 rfl
  have qx02 := hsssdssssasassdssdssmms.cellAt 2 rfl 2 rfl
  have qx10 := hsssdssssasassdssdssmms.cellAt 3 rfl 0 rfl
  have qx11 := hsssdssssasassdssdssmms.cellAt 3 rfl 1 rfl
  obtain ⟨psG, hoG, hnG, hpG⟩ := JG''''''''''.out
  have HOG := Lib.hid hoG
  clear hoG
  clear JG''''''''''
  go_wp2_with fail
  refine (markInt64S_g r0 _ psG 1 _ HOG.out hnG (by omega) (by omega)).mono ?_
  rintro e w17 ⟨yG, mG, rfl, l0G, l1G, hyG, hhG, hbutG⟩
  have HYG := Lib.hid hyG
  have HHG := Lib.hid hhG
  clear hyG hhG HOG
  have hqG : ∀ k, k ∈ psG → w7.heap.size + 1 ≤ k ∧ k < w8.heap.size := fun k hk => by have := hpG k hk; simpa using this
  have JW'''''''''''''''' := Lib.hid (Iv.but JW'''''''''''''''.out hbutG (fun k hk => by have := hqG k hk; simp; omega))
  clear JW'''''''''''''''
  have hsssdssssasassdssdssmmsm := hsssdssssasassdssdssmms.butIv hbutG (fun k hk => by have := hqG k hk; omega) (fun x hx hp => by
    have := hqG _ hp
    simp only [List.mem_append, List.mem_cons, List.mem_nil_iff, or_false, List.not_mem_nil, false_or, or_assoc] at hx
    rcases hx with rfl | rfl | rfl | rfl <;> (simp only at this; omega))
  have hz17 : w16.heap.size ≤ w17.heap.size := by simpa using hbutG.size
  clear qa00 qa01 qa02 qa10 qa11 qx00 qx01 qx02 qx10 qx11
  have qa00 := hsssdssssasassdssdssmmsm.cellAt 0 rfl 0 rfl
  have qa01 := hsssdssssasassdssdssmmsm.cellAt 0 rfl 1 rfl
  have qa02 := hsssdssssasassdssdssmmsm.cellAt 0 rfl 2 rfl
  have qa10 := hsssdssssasassdssdssmmsm.cellAt 1 rfl 0 rfl
  have qa11 := hsssdssssasassdssdssmmsm.cellAt 1 rfl 1 rfl
  have qx00 := hsssdssssasassdssdssmmsm.cellAt 2 rfl 0 rfl
  have qx01 := hsssdssssasassdssdssmmsm.cellAt 2 rfl 1 rfl
  have qx02 := hsssdssssasassdssdssmmsm.cellAt 2 rfl 2 rfl
  have qx10 := hsssdssssasassdssdssmmsm.cellAt 3 rfl 0 rfl
  have qx11 := hsssdssssasassdssdssmmsm.cellAt 3 rfl 1 rfl
  have HYr18 := Lib.hid (Own.rd HYG.out)
  go_wp2_with fail
  refine (heldInt64S_g yG _ 1 mG _ HYr18.out HHG.out (by omega) (by omega) (by omega)).mono ?_
  rintro e w18 ⟨rfl, hb18⟩
  have HYG' := Lib.hid (Own.mono HYG.out hb18)
  clear HYG HYr18
  have HYG := HYG'
  clear HYG'
  have JW''''''''''''''''' := Lib.hid (Iv.mono JW''''''''''''''''.out hb18)
  clear JW''''''''''''''''
  have hsssdssssasassdssdssmmsms := hsssdssssasassdssdssmmsm.step hb18
  have hz18 : w17.heap.size ≤ w18.heap.size := by simpa using hb18.size
  clear qa00 qa01 qa02 qa10 qa11 qx00 qx01 qx02 qx10 qx11
  have qa00 := hsssdssssasassdssdssmmsms.cellAt 0 rfl 0 rfl
  have qa01 := hsssdssssasassdssdssmmsms.cellAt 0 rfl 1 rfl
  have qa02 := hsssdssssasassdssdssmmsms.cellAt 0 rfl 2 rfl
  have qa10 := hsssdssssasassdssdssmmsms.cellAt 1 rfl 0 rfl
  have qa11 := hsssdssssasassdssdssmmsms.cellAt 1 rfl 1 rfl
  have qx00 := hsssdssssasassdssdssmmsms.cellAt 2 rfl 0 rfl
  have qx01 := hsssdssssasassdssdssmmsms.cellAt 2 rfl 1 rfl
  have qx02 := hsssdssssasassdssdssmmsms.cellAt 2 rfl 2 rfl
  have qx10 := hsssdssssasassdssdssmmsms.cellAt 3 rfl 0 rfl
  have qx11 := hsssdssssasassdssdssmmsms.cellAt 3 rfl 1 rfl
  have hmm : (mG != mG) = false := by simp
  have hm0 : ¬ mG < 0 := by omega
  go_wp2_with fail
  refine wp_region_noPanic (wp_region_el (fun w' => w'.cell? ⟨w.heap.size, 0, none⟩ = some (.int .i64 x00) ∧ w'.cell? ⟨w.heap.size, 1, none⟩ = some (.int .i64 x01) ∧ w'.cell? ⟨w.heap.size, 2, none⟩ = some (.slice a02 x02.length c02) ∧ w'.cell? ⟨w.heap.size + 1, 0, none⟩ = some (.slice a10 x10.length c10) ∧ w'.cell? ⟨w.heap.size + 1, 1, none⟩ = some (.int .i64 x11) ∧ w'.cell? ⟨w6.heap.size, 0, none⟩ = some (.int .i64 x00) ∧ w'.cell? ⟨w6.heap.size, 1, none⟩ = some (.int .i64 x01) ∧ w'.cell? ⟨w6.heap.size, 2, none⟩ = some (.slice ax02 x02.length cx02) ∧ w'.cell? ⟨w7.heap.size, 0, none⟩ = some (.slice ax10 x10.length cx10) ∧ w'.cell? ⟨w7.heap.size, 1, none⟩ = some (.int .i64 x11)) [(0, 0), (2, 0), (1, 1), (3, 1), (4, 1), (5, 0), (6, 0), (7, 0), (8, 0), (9, 0)] (by kernel_rfl) (by kernel_rfl) (by kernel_rfl) rfl ?_ (fun _ _ _ _ _ h => h) ?_)
  · exact ⟨(hsssdssssasassdssdssmmsms.drew).cellAt 0 rfl 0 rfl, (hsssdssssasassdssdssmmsms.drew).cellAt 0 rfl 1 rfl, (hsssdssssasassdssdssmmsms.drew).cellAt 0 rfl 2 rfl, (hsssdssssasassdssdssmmsms.drew).cellAt 1 rfl 0 rfl, (hsssdssssasassdssdssmmsms.drew).cellAt 1 rfl 1 rfl, (hsssdssssasassdssdssmmsms.drew).cellAt 2 rfl 0 rfl, (hsssdssssasassdssdssmmsms.drew).cellAt 2 rfl 1 rfl, (hsssdssssasassdssdssmmsms.drew).cellAt 2 rfl 2 rfl, (hsssdssssasassdssdssmmsms.drew).cellAt 3 rfl 0 rfl, (hsssdssssasassdssdssmmsms.drew).cellAt 3 rfl 1 rfl⟩
  have JW'''''''''''''''''' := Lib.hid (Iv.mono JW'''''''''''''''''.out (belowD _))
  clear JW'''''''''''''''''
  have hsssdssssasassdssdssmmsmsd := hsssdssssasassdssdssmmsms.drew
  (repeat (first | (apply el_skip rfl (by rfl); try simp only [Act.put, List.setIfInBounds_toArray, List.set_cons_zero, List.set_cons_succ]) | (apply el_float rfl (by rfl); (· (intro w' hS; go_simp <;> with_reducible rfl)); (try simp only [Act.put, List.setIfInBounds_toArray, List.set_cons_zero, List.set_cons_succ]))))
  have HYG' := Lib.hid (Own.mono HYG.out (belowD _))
  clear HYG
  have HYG := HYG'
  clear HYG'
  refine el_hard rfl (by rfl) (fun K hK => ?_)
  go_wp2_with (go_at_call 17; refine (toSystem_b (x00, x01, x02) _ _ _ _ (Rd.mono H0.out hsssdssssasassdssdssmmsmsd.bel) gc0).mono ?_; rintro e w19 ⟨ut00, ut01, ut02, rfl, frt0, hb19⟩)
  have JW''''''''''''''''''' := Lib.hid (Iv.mono JW''''''''''''''''''.out hb19)
  clear JW''''''''''''''''''
  have hsssdssssasassdssdssmmsmsds := hsssdssssasassdssdssmmsmsd.step hb19
  have hz19 : w18.heap.size ≤ w19.heap.size := by simpa using hb19.size
  have Jt0 := Lib.hid (Fresh.iv frt0)
  have zt00 := rd_cons rfl (Iv.rd Jt0.out)
  obtain ⟨rfl, _⟩ := rd_i1 zt00.1
  have zt01 := rd_cons rfl zt00.2
  obtain ⟨rfl, _⟩ := rd_i1 zt01.1
  obtain ⟨at02, ct02, rfl, _⟩ := rd_list zt01.2
  clear zt00 zt01
  clear frt0
  refine ⟨⟨hsssdssssasassdssdssmmsmsds.cellAt 0 rfl 0 rfl, hsssdssssasassdssdssmmsmsds.cellAt 0 rfl 1 rfl, hsssdssssasassdssdssmmsmsds.cellAt 0 rfl 2 rfl, hsssdssssasassdssdssmmsmsds.cellAt 1 rfl 0 rfl, hsssdssssasassdssdssmmsmsds.cellAt 1 rfl 1 rfl, hsssdssssasassdssdssmmsmsds.cellAt 2 rfl 0 rfl, hsssdssssasassdssdssmmsmsds.cellAt 2 rfl 1 rfl, hsssdssssasassdssdssmmsmsds.cellAt 2 rfl 2 rfl, hsssdssssasassdssdssmmsmsds.cellAt 3 rfl 0 rfl, hsssdssssasassdssdssmmsmsds.cellAt 3 rfl 1 rfl⟩, ?_⟩
  (repeat (first | (apply el_skip rfl (by rfl); try simp only [Act.put, List.setIfInBounds_toArray, List.set_cons_zero, List.set_cons_succ]) | (apply el_float rfl (by rfl); (· (intro w' hS; go_simp <;> with_reducible rfl)); (try simp only [Act.put, List.setIfInBounds_toArray, List.set_cons_zero, List.set_cons_succ]))))
  have HYG' := Lib.hid (Own.mono HYG.out hb19)
  clear HYG
  have HYG := HYG'
  clear HYG'
  refine el_hard rfl (by rfl) (fun K hK => ?_)
  go_wp2_with (go_at_call 37; refine (toEquation_b (x10, x11) _ _ _ (Rd.mono H1.out hsssdssssasassdssdssmmsmsds.bel) gc1).mono ?_; rintro e w20 ⟨ut10, ut11, rfl, frt1, hb20⟩)
  have JW'''''''''''''''''''' := Lib.hid (Iv.mono JW'''''''''''''''''''.out hb20)
  clear JW'''''''''''''''''''
  have Jt0' := Lib.hid (Iv.mono Jt0.out hb20)
  clear Jt0
  have hsssdssssasassdssdssmmsmsdss := hsssdssssasassdssdssmmsmsds.step hb20
  have hz20 : w19.heap.size ≤ w20.heap.size := by simpa using hb20.size
  have Jt1 := Lib.hid (Fresh.iv frt1)
  have zt10 := rd_cons rfl (Iv.rd Jt1.out)
  obtain ⟨at10, ct10, rfl, _⟩ := rd_list zt10.1
  obtain ⟨rfl, _⟩ := rd_i1 zt10.2
  clear zt10
  clear frt1
  refine ⟨⟨hsssdssssasassdssdssmmsmsdss.cellAt 0 rfl 0 rfl, hsssdssssasassdssdssmmsmsdss.cellAt 0 rfl 1 rfl, hsssdssssasassdssdssmmsmsdss.cellAt 0 rfl 2 rfl, hsssdssssasassdssdssmmsmsdss.cellAt 1 rfl 0 rfl, hsssdssssasassdssdssmmsmsdss.cellAt 1 rfl 1 rfl, hsssdssssasassdssdssmmsmsdss.cellAt 2 rfl 0 rfl, hsssdssssasassdssdssmmsmsdss.cellAt 2 rfl 1 rfl, hsssdssssasassdssdssmmsmsdss.cellAt 2 rfl 2 rfl, hsssdssssasassdssdssmmsmsdss.cellAt 3 rfl 0 rfl, hsssdssssasassdssdssmmsmsdss.cellAt 3 rfl 1 rfl⟩, ?_⟩
  (repeat (first | (apply el_skip rfl (by rfl); try simp only [Act.put, List.setIfInBounds_toArray, List.set_cons_zero, List.set_cons_succ]) | (apply el_float rfl (by rfl); (· (intro w' hS; go_simp <;> with_reducible rfl)); (try simp only [Act.put, List.setIfInBounds_toArray, List.set_cons_zero, List.set_cons_succ]))))
  have HYG' := Lib.hid (Own.mono HYG.out hb20)
  clear HYG
  have HYG := HYG'
  clear HYG'
  refine el_hard rfl (by rfl) (fun K hK => ?_)
  go_wp2_with (go_at_call 44; refine (CI.out _ _ _ _ _ _ (Iv.rd Jt0'.out) (Iv.rd Jt1.out)).mono ?_; rintro e w21 ⟨uK0, rfl, frK, hb21⟩)
  have JW''''''''''''''''''''' := Lib.hid (Iv.mono JW''''''''''''''''''''.out hb21)
  clear JW''''''''''''''''''''
  have Jt0'' := Lib.hid (Iv.mono Jt0'.out hb21)
  clear Jt0'
  have Jt1' := Lib.hid (Iv.mono Jt1.out hb21)
  clear Jt1
  have hsssdssssasassdssdssmmsmsdsss := hsssdssssasassdssdssmmsmsdss.step hb21
  have hz21 : w20.heap.size ≤ w21.heap.size := by simpa using hb21.size
  have JK := Lib.hid (Fresh.iv frK)
  obtain ⟨aK, cK, rfl, _⟩ := rd_list (Iv.rd JK.out)
  clear frK
  have HYG' := Lib.hid (Own.mono HYG.out hb21)
  clear HYG
  have HYG := HYG'
  clear HYG'
  clear Jt0''
  clear Jt1'
  refine ⟨⟨hsssdssssasassdssdssmmsmsdsss.cellAt 0 rfl 0 rfl, hsssdssssasassdssdssmmsmsdsss.cellAt 0 rfl 1 rfl, hsssdssssasassdssdssmmsmsdsss.cellAt 0 rfl 2 rfl, hsssdssssasassdssdssmmsmsdsss.cellAt 1 rfl 0 rfl, hsssdssssasassdssdssmmsmsdsss.cellAt 1 rfl 1 rfl, hsssdssssasassdssdssmmsmsdsss.cellAt 2 rfl 0 rfl, hsssdssssasassdssdssmmsmsdsss.cellAt 2 rfl 1 rfl, hsssdssssasassdssdssmmsmsdsss.cellAt 2 rfl 2 rfl, hsssdssssasassdssdssmmsmsdsss.cellAt 3 rfl 0 rfl, hsssdssssasassdssdssmmsmsdsss.cellAt 3 rfl 1 rfl⟩, ?_⟩
  (repeat (first | (apply el_skip rfl (by rfl); try simp only [Act.put, List.setIfInBounds_toArray, List.set_cons_zero, List.set_cons_succ]) | (apply el_float rfl (by rfl); (· (intro w' hS; go_simp <;> with_reducible rfl)); (try simp only [Act.put, List.setIfInBounds_toArray, List.set_cons_zero, List.set_cons_succ]))))
  refine el_nil (NoPanic.normal ?_)
  clear qa00 qa01 qa02 qa10 qa11 qx00 qx01 qx02 qx10 qx11
  have qa00 := hsssdssssasassdssdssmmsmsdsss.cellAt 0 rfl 0 rfl
  have qa01 := hsssdssssasassdssdssmmsmsdsss.cellAt 0 rfl 1 rfl
  have qa02 := hsssdssssasassdssdssmmsmsdsss.cellAt 0 rfl 2 rfl
  have qa10 := hsssdssssasassdssdssmmsmsdsss.cellAt 1 rfl 0 rfl
  have qa11 := hsssdssssasassdssdssmmsmsdsss.cellAt 1 rfl 1 rfl
  have qx00 := hsssdssssasassdssdssmmsmsdsss.cellAt 2 rfl 0 rfl
  have qx01 := hsssdssssasassdssdssmmsmsdsss.cellAt 2 rfl 1 rfl
  have qx02 := hsssdssssasassdssdssmmsmsdsss.cellAt 2 rfl 2 rfl
  have qx10 := hsssdssssasassdssdssmmsmsdsss.cellAt 3 rfl 0 rfl
  have qx11 := hsssdssssasassdssdssmmsmsdsss.cellAt 3 rfl 1 rfl
  go_wp2_with fail
  refine (eqInt64S_s r0 _ _ _ (Iv.rd JK.out) (Iv.rd JW'''''''''''''''''''''.out)).mono ?_
  rintro e w22 ⟨rfl, hb22⟩
  have JW'''''''''''''''''''''' := Lib.hid (Iv.mono JW'''''''''''''''''''''.out hb22)
  clear JW'''''''''''''''''''''
  have JK' := Lib.hid (Iv.mono JK.out hb22)
  clear JK
  have hsssdssssasassdssdssmmsmsdssss := hsssdssssasassdssdssmmsmsdsss.step hb22
  have hz22 : w21.heap.size ≤ w22.heap.size := by simpa using hb22.size
  clear qa00 qa01 qa02 qa10 qa11 qx00 qx01 qx02 qx10 qx11
  have qa00 := hsssdssssasassdssdssmmsmsdssss.cellAt 0 rfl 0 rfl
  have qa01 := hsssdssssasassdssdssmmsmsdssss.cellAt 0 rfl 1 rfl
  have qa02 := hsssdssssasassdssdssmmsmsdssss.cellAt 0 rfl 2 rfl
  have qa10 := hsssdssssasassdssdssmmsmsdssss.cellAt 1 rfl 0 rfl
  have qa11 := hsssdssssasassdssdssmmsmsdssss.cellAt 1 rfl 1 rfl
  have qx00 := hsssdssssasassdssdssmmsmsdssss.cellAt 2 rfl 0 rfl
  have qx01 := hsssdssssasassdssdssmmsmsdssss.cellAt 2 rfl 1 rfl
  have qx02 := hsssdssssasassdssdssmmsmsdssss.cellAt 2 rfl 2 rfl
  have qx10 := hsssdssssasassdssdssmmsmsdssss.cellAt 3 rfl 0 rfl
  have qx11 := hsssdssssasassdssdssmmsmsdssss.cellAt 3 rfl 1 rfl
  have HYG' := Lib.hid (Own.mono HYG.out hb22)
  clear HYG
  have HYG := HYG'
  clear HYG'
  have HYr23 := Lib.hid (Own.rd HYG.out)
  go_wp2_with fail
  refine (heldInt64S_g yG _ 1 mG _ HYr23.out HHG.out (by omega) (by omega) (by omega)).mono ?_
  rintro e w23 ⟨rfl, hb23⟩
  have HYG' := Lib.hid (Own.mono HYG.out hb23)
  clear HYG HYr23
  have HYG := HYG'
  clear HYG'
  have JW''''''''''''''''''''''' := Lib.hid (Iv.mono JW''''''''''''''''''''''.out hb23)
  clear JW''''''''''''''''''''''
  have JK'' := Lib.hid (Iv.mono JK'.out hb23)
  clear JK'
  have hsssdssssasassdssdssmmsmsdsssss := hsssdssssasassdssdssmmsmsdssss.step hb23
  have hz23 : w22.heap.size ≤ w23.heap.size := by simpa using hb23.size
  clear qa00 qa01 qa02 qa10 qa11 qx00 qx01 qx02 qx10 qx11
  have qa00 := hsssdssssasassdssdssmmsmsdsssss.cellAt 0 rfl 0 rfl
  have qa01 := hsssdssssasassdssdssmmsmsdsssss.cellAt 0 rfl 1 rfl
  have qa02 := hsssdssssasassdssdssmmsmsdsssss.cellAt 0 rfl 2 rfl
  have qa10 := hsssdssssasassdssdssmmsmsdsssss.cellAt 1 rfl 0 rfl
  have qa11 := hsssdssssasassdssdssmmsmsdsssss.cellAt 1 rfl 1 rfl
  have qx00 := hsssdssssasassdssdssmmsmsdsssss.cellAt 2 rfl 0 rfl
  have qx01 := hsssdssssasassdssdssmmsmsdsssss.cellAt 2 rfl 1 rfl
  have qx02 := hsssdssssasassdssdssmmsmsdsssss.cellAt 2 rfl 2 rfl
  have qx10 := hsssdssssasassdssdssmmsmsdsssss.cellAt 3 rfl 0 rfl
  have qx11 := hsssdssssasassdssdssmmsmsdsssss.cellAt 3 rfl 1 rfl
  go_wp2_with fail
  go_ret
  exact ⟨rfl, hsssdssssasassdssdssmmsmsdsssss.bel⟩

end Go.Proofs.Ytkbeihkjhmillaa
