/-
  THE LAW FnExactSystemText, WALKED. (XValidSystemLaw's lines, turned.)
-/
import Derived.Test.YtoblfnoaepbhfaaDoorKinds
import Derived.Test.YtoblfnoaepbhfaaDoorText
namespace Go.Proofs.YtoblfnoaepbhfaaDoor
open Go.RowKit Go.Shelf
open Rep (Rd Own sz)
set_option linter.unusedSimpArgs false
set_option linter.unusedVariables false

set_option maxRecDepth 100000 in
set_option maxHeartbeats 2000000 in
theorem FnExactSystemText_c (x0 : Sys) (v00 v01 v02 : Value) (w : World) (h0 : Rd w [v00, v01, v02] x0) :
    Calls Tryd.prog 3 #[.agg #[v00, v01, v02]] w fun e w' => e = .returned (.bool true) ∧ Below w.heap.size w w' := by
  obtain ⟨x00, x01, x02⟩ := x0
  have z00 := rd_cons rfl h0
  obtain ⟨rfl, _⟩ := rd_i1 z00.1
  have z01 := rd_cons rfl z00.2
  obtain ⟨rfl, _⟩ := rd_i1 z01.1
  obtain ⟨a02, c02, rfl, _⟩ := rd_list z01.2
  clear z00 z01
  have H0 := Lib.hid h0
  clear h0
  have hs := (St.start w).alloc #[.int .i64 x00, .int .i64 x01, .slice a02 x02.length c02] 24 rfl
  go_enter Tryd.func3, Tryd.ntmps3
  go_wp2_with fail
  refine (szSystem_b (x00, x01, x02) _ _ _ (1048576) _ (Rd.mono H0.out hs.bel) (by omega) (by omega)).mono ?_
  rintro e w1 ⟨rfl, hb1⟩
  have hss := hs.step hb1
  rcases less_cases (1048576) (cost_System (x00, x01, x02)) with ⟨e1, g0⟩ | ⟨e1, g0⟩
  · rw [e1]
    clear e1
    go_wp2_with fail
    go_ret
    exact ⟨rfl, hss.bel⟩
  rw [e1]
  clear e1
  have qa00 := hss.cellAt 0 rfl 0 rfl
  have qa01 := hss.cellAt 0 rfl 1 rfl
  have qa02 := hss.cellAt 0 rfl 2 rfl
  have gc0 : cost_System (x00, x01, x02) ≤ 1048576 := by omega
  go_wp2_with fail
  refine (toSystem_b (x00, x01, x02) _ _ _ _ (Rd.mono H0.out hss.bel) gc0).mono ?_
  rintro e w2 ⟨us00, us01, us02, rfl, frs0, hb2⟩
  have hsss := hss.step hb2
  have rds0 := frs0.rd
  have zs00 := rd_cons rfl rds0
  obtain ⟨rfl, _⟩ := rd_i1 zs00.1
  have zs01 := rd_cons rfl zs00.2
  obtain ⟨rfl, _⟩ := rd_i1 zs01.1
  obtain ⟨as02, cs02, rfl, _⟩ := rd_list zs01.2
  clear zs00 zs01
  have Rs0 := Lib.hid rds0
  clear rds0 frs0
  clear qa00 qa01 qa02
  have qa00 := hsss.cellAt 0 rfl 0 rfl
  have qa01 := hsss.cellAt 0 rfl 1 rfl
  have qa02 := hsss.cellAt 0 rfl 2 rfl
  go_wp2_with fail
  refine (sSystemText_c (x00, x01, x02) _ _ _ _ Rs0.out).mono ?_
  rintro e w3 ⟨rfl, hb3⟩
  clear Rs0
  have hssss := hsss.step hb3
  clear qa00 qa01 qa02
  have qa00 := hssss.cellAt 0 rfl 0 rfl
  have qa01 := hssss.cellAt 0 rfl 1 rfl
  have qa02 := hssss.cellAt 0 rfl 2 rfl
  go_wp2_with fail
  refine (toSystem_b (x00, x01, x02) _ _ _ _ (Rd.mono H0.out hssss.bel) gc0).mono ?_
  rintro e w4 ⟨ux00, ux01, ux02, rfl, frx0, hb4⟩
  have hsssss := hssss.step hb4
  have rdx0 := frx0.rd
  have zx00 := rd_cons rfl rdx0
  obtain ⟨rfl, _⟩ := rd_i1 zx00.1
  have zx01 := rd_cons rfl zx00.2
  obtain ⟨rfl, _⟩ := rd_i1 zx01.1
  obtain ⟨ax02, cx02, rfl, _⟩ := rd_list zx01.2
  clear zx00 zx01
  have Rx0 := Lib.hid rdx0
  clear rdx0 frx0
  clear qa00 qa01 qa02
  have qa00 := hsssss.cellAt 0 rfl 0 rfl
  have qa01 := hsssss.cellAt 0 rfl 1 rfl
  have qa02 := hsssss.cellAt 0 rfl 2 rfl
  have hz0 := hsssss.hi
  have hsssssa := hsssss.alloc #[.int .i64 x00, .int .i64 x01, .slice ax02 x02.length cx02] 29 rfl
  have Rx0' := Lib.hid (Rd.mono Rx0.out (belowA _ (.cells #[.int .i64 x00, .int .i64 x01, .slice ax02 x02.length cx02] 29)))
  clear Rx0
  clear qa00 qa01 qa02
  have qa00 := hsssssa.cellAt 0 rfl 0 rfl
  have qa01 := hsssssa.cellAt 0 rfl 1 rfl
  have qa02 := hsssssa.cellAt 0 rfl 2 rfl
  have qx00 := hsssssa.cellAt 1 rfl 0 rfl
  have qx01 := hsssssa.cellAt 1 rfl 1 rfl
  have qx02 := hsssssa.cellAt 1 rfl 2 rfl
  go_wp2_with fail
  refine (SystemText_c (x00, x01, x02) _ _ _ _ Rx0'.out).mono ?_
  rintro e w5 ⟨rfl, hb5⟩
  have Rx0'' := Lib.hid (Rd.mono Rx0'.out hb5)
  clear Rx0'
  have hsssssas := hsssssa.step hb5
  clear qa00 qa01 qa02 qx00 qx01 qx02
  have qa00 := hsssssas.cellAt 0 rfl 0 rfl
  have qa01 := hsssssas.cellAt 0 rfl 1 rfl
  have qa02 := hsssssas.cellAt 0 rfl 2 rfl
  have qx00 := hsssssas.cellAt 1 rfl 0 rfl
  have qx01 := hsssssas.cellAt 1 rfl 1 rfl
  have qx02 := hsssssas.cellAt 1 rfl 2 rfl
  have hr0 : ((⟨(textF (x00, x01, x02)).toArray⟩ : ByteArray).toList == (⟨(textF (x00, x01, x02)).toArray⟩ : ByteArray).toList) = true := by simp
  go_wp2_with fail
  refine wp_region_noPanic (wp_region_el (fun w' => w'.cell? ⟨w.heap.size, 0, none⟩ = some (.int .i64 x00) ∧ w'.cell? ⟨w.heap.size, 1, none⟩ = some (.int .i64 x01) ∧ w'.cell? ⟨w.heap.size, 2, none⟩ = some (.slice a02 x02.length c02) ∧ w'.cell? ⟨w4.heap.size, 0, none⟩ = some (.int .i64 x00) ∧ w'.cell? ⟨w4.heap.size, 1, none⟩ = some (.int .i64 x01) ∧ w'.cell? ⟨w4.heap.size, 2, none⟩ = some (.slice ax02 x02.length cx02)) [(0, 0), (1, 0), (2, 1), (3, 1), (4, 0)] (by kernel_rfl) (by kernel_rfl) (by kernel_rfl) rfl ?_ (fun _ _ _ _ _ h => h) ?_)
  · exact ⟨(hsssssas.drew).cellAt 0 rfl 0 rfl, (hsssssas.drew).cellAt 0 rfl 1 rfl, (hsssssas.drew).cellAt 0 rfl 2 rfl, (hsssssas.drew).cellAt 1 rfl 0 rfl, (hsssssas.drew).cellAt 1 rfl 1 rfl, (hsssssas.drew).cellAt 1 rfl 2 rfl⟩
  have Rx0''' := Lib.hid (Rd.mono Rx0''.out (belowD _))
  clear Rx0''
  have hsssssasd := hsssssas.drew
  (repeat (first | (apply el_skip rfl (by rfl); try simp only [Act.put, List.setIfInBounds_toArray, List.set_cons_zero, List.set_cons_succ]) | (apply el_float rfl (by rfl); (· (intro w' hS; go_simp <;> with_reducible rfl)); (try simp only [Act.put, List.setIfInBounds_toArray, List.set_cons_zero, List.set_cons_succ]))))
  refine el_hard rfl (by rfl) (fun K hK => ?_)
  go_wp2_with (go_at_call 6; refine (toSystem_b (x00, x01, x02) _ _ _ _ (Rd.mono H0.out hsssssasd.bel) gc0).mono ?_; rintro e w6 ⟨uy00, uy01, uy02, rfl, fry0, hb6⟩)
  have Rx0'''' := Lib.hid (Rd.mono Rx0'''.out hb6)
  clear Rx0'''
  have hsssssasds := hsssssasd.step hb6
  have rdy0 := fry0.rd
  have zy00 := rd_cons rfl rdy0
  obtain ⟨rfl, _⟩ := rd_i1 zy00.1
  have zy01 := rd_cons rfl zy00.2
  obtain ⟨rfl, _⟩ := rd_i1 zy01.1
  obtain ⟨ay02, cy02, rfl, _⟩ := rd_list zy01.2
  clear zy00 zy01
  have Ry0 := Lib.hid rdy0
  clear rdy0 fry0
  refine ⟨⟨hsssssasds.cellAt 0 rfl 0 rfl, hsssssasds.cellAt 0 rfl 1 rfl, hsssssasds.cellAt 0 rfl 2 rfl, hsssssasds.cellAt 1 rfl 0 rfl, hsssssasds.cellAt 1 rfl 1 rfl, hsssssasds.cellAt 1 rfl 2 rfl⟩, ?_⟩
  (repeat (first | (apply el_skip rfl (by rfl); try simp only [Act.put, List.setIfInBounds_toArray, List.set_cons_zero, List.set_cons_succ]) | (apply el_float rfl (by rfl); (· (intro w' hS; go_simp <;> with_reducible rfl)); (try simp only [Act.put, List.setIfInBounds_toArray, List.set_cons_zero, List.set_cons_succ]))))
  refine el_hard rfl (by rfl) (fun K hK => ?_)
  go_wp2_with (go_at_call 8; refine (eqSystem_s (x00, x01, x02) _ _ _ _ _ _ _ Rx0''''.out Ry0.out).mono ?_; rintro e w7 ⟨rfl, hb7⟩)
  clear Ry0
  clear Rx0''''
  have hsssssasdss := hsssssasds.step hb7
  refine ⟨⟨hsssssasdss.cellAt 0 rfl 0 rfl, hsssssasdss.cellAt 0 rfl 1 rfl, hsssssasdss.cellAt 0 rfl 2 rfl, hsssssasdss.cellAt 1 rfl 0 rfl, hsssssasdss.cellAt 1 rfl 1 rfl, hsssssasdss.cellAt 1 rfl 2 rfl⟩, ?_⟩
  (repeat (first | (apply el_skip rfl (by rfl); try simp only [Act.put, List.setIfInBounds_toArray, List.set_cons_zero, List.set_cons_succ]) | (apply el_float rfl (by rfl); (· (intro w' hS; go_simp <;> with_reducible rfl)); (try simp only [Act.put, List.setIfInBounds_toArray, List.set_cons_zero, List.set_cons_succ]))))
  refine el_nil (NoPanic.normal ?_)
  clear qa00 qa01 qa02 qx00 qx01 qx02
  have qa00 := hsssssasdss.cellAt 0 rfl 0 rfl
  have qa01 := hsssssasdss.cellAt 0 rfl 1 rfl
  have qa02 := hsssssasdss.cellAt 0 rfl 2 rfl
  have qx00 := hsssssasdss.cellAt 1 rfl 0 rfl
  have qx01 := hsssssasdss.cellAt 1 rfl 1 rfl
  have qx02 := hsssssasdss.cellAt 1 rfl 2 rfl
  go_wp2_with fail
  go_ret
  exact ⟨rfl, hsssssasdss.bel⟩

end Go.Proofs.YtoblfnoaepbhfaaDoor
