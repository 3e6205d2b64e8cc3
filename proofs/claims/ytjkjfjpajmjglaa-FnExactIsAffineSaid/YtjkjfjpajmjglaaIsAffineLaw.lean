/-
  THE LAW FnExactIsAffine, WALKED. (Printed by wip/genlaws.py.)
-/
import Derived.Test.YtjkjfjpajmjglaaKinds
import Derived.Test.YtjkjfjpajmjglaaAffine
namespace Go.Proofs.Ytjkjfjpajmjglaa
open Go.RowKit Go.Shelf
open Rep (Rd Own sz)
set_option linter.unusedSimpArgs false
set_option linter.unusedVariables false

set_option maxRecDepth 100000 in
set_option maxHeartbeats 2000000 in
theorem FnExactIsAffine_c (x0 : Int) (x1 : RelT) (v10 v11 : Value) (w : World) (i0 : I64 x0) (h1 : Rd w [v10, v11] x1) :
    Calls Try.prog 4 #[.int .i64 x0, .agg #[v10, v11]] w fun e w' => e = .returned (.bool true) ∧ Below w.heap.size w w' := by
  obtain ⟨x10, x11⟩ := x1
  have z10 := rd_cons rfl h1
  obtain ⟨rfl, _⟩ := rd_i1 z10.1
  obtain ⟨a11, c11, rfl, _⟩ := rd_list z10.2
  clear z10
  have H1 := Lib.hid h1
  clear h1
  have hs := (St.start w).alloc #[.int .i64 x10, .slice a11 x11.length c11] 45 rfl
  go_enter Try.func4, Try.ntmps4
  go_wp2_with fail
  refine (szRel_b (x10, x11) _ _ (1048576) _ (Rd.mono H1.out hs.bel) (by omega) (by omega)).mono ?_
  rintro e w1 ⟨rfl, hb1⟩
  have hss := hs.step hb1
  rcases less_cases (1048576) (cost_Rel (x10, x11)) with ⟨e1, g1⟩ | ⟨e1, g1⟩
  · rw [e1]
    clear e1
    go_wp2_with fail
    go_ret
    exact ⟨rfl, hss.bel⟩
  rw [e1]
  clear e1
  have qa10 := hss.cellAt 0 rfl 0 rfl
  have qa11 := hss.cellAt 0 rfl 1 rfl
  have gc1 : cost_Rel (x10, x11) ≤ 1048576 := by omega
  go_wp2_with fail
  refine (toRel_b (x10, x11) _ _ _ (Rd.mono H1.out hss.bel) gc1).mono ?_
  rintro e w2 ⟨us10, us11, rfl, frs1, hb2⟩
  have hsss := hss.step hb2
  have rds1 := frs1.rd
  have zs10 := rd_cons rfl rds1
  obtain ⟨rfl, _⟩ := rd_i1 zs10.1
  obtain ⟨as11, cs11, rfl, _⟩ := rd_list zs10.2
  clear zs10
  have Rs1 := Lib.hid rds1
  clear rds1 frs1
  clear qa10 qa11
  have qa10 := hsss.cellAt 0 rfl 0 rfl
  have qa11 := hsss.cellAt 0 rfl 1 rfl
  go_wp2_with fail
  refine (sIsAffine_c x0 (x10, x11) _ _ _ Rs1.out).mono ?_
  rintro e w3 ⟨rfl, hb3⟩
  clear Rs1
  have hssss := hsss.step hb3
  clear qa10 qa11
  have qa10 := hssss.cellAt 0 rfl 0 rfl
  have qa11 := hssss.cellAt 0 rfl 1 rfl
  go_wp2_with fail
  refine (toRel_b (x10, x11) _ _ _ (Rd.mono H1.out hssss.bel) gc1).mono ?_
  rintro e w4 ⟨ux10, ux11, rfl, frx1, hb4⟩
  have hsssss := hssss.step hb4
  have rdx1 := frx1.rd
  have zx10 := rd_cons rfl rdx1
  obtain ⟨rfl, _⟩ := rd_i1 zx10.1
  obtain ⟨ax11, cx11, rfl, _⟩ := rd_list zx10.2
  clear zx10
  have Rx1 := Lib.hid rdx1
  clear rdx1 frx1
  clear qa10 qa11
  have qa10 := hsssss.cellAt 0 rfl 0 rfl
  have qa11 := hsssss.cellAt 0 rfl 1 rfl
  have hz1 := hsssss.hi
  have hsssssa := hsssss.alloc #[.int .i64 x10, .slice ax11 x11.length cx11] 49 rfl
  have Rx1' := Lib.hid (Rd.mono Rx1.out (belowA _ (.cells #[.int .i64 x10, .slice ax11 x11.length cx11] 49)))
  clear Rx1
  clear qa10 qa11
  have qa10 := hsssssa.cellAt 0 rfl 0 rfl
  have qa11 := hsssssa.cellAt 0 rfl 1 rfl
  have qx10 := hsssssa.cellAt 1 rfl 0 rfl
  have qx11 := hsssssa.cellAt 1 rfl 1 rfl
  go_wp2_with fail
  refine (IsAffine_c x0 (x10, x11) _ _ _ Rx1'.out).mono ?_
  rintro e w5 ⟨rfl, hb5⟩
  have Rx1'' := Lib.hid (Rd.mono Rx1'.out hb5)
  clear Rx1'
  have hsssssas := hsssssa.step hb5
  clear qa10 qa11 qx10 qx11
  have qa10 := hsssssas.cellAt 0 rfl 0 rfl
  have qa11 := hsssssas.cellAt 0 rfl 1 rfl
  have qx10 := hsssssas.cellAt 1 rfl 0 rfl
  have qx11 := hsssssas.cellAt 1 rfl 1 rfl
  have hr0 : ((isAffineF x0 (x10, x11)).1 != (isAffineF x0 (x10, x11)).1) = false := by simp
  have hr1 : ((isAffineF x0 (x10, x11)).2 != (isAffineF x0 (x10, x11)).2) = false := by simp
  go_wp2_with fail
  refine wp_region_noPanic (wp_region_el (fun w' => w'.cell? ⟨w.heap.size, 0, none⟩ = some (.int .i64 x10) ∧ w'.cell? ⟨w.heap.size, 1, none⟩ = some (.slice a11 x11.length c11) ∧ w'.cell? ⟨w4.heap.size, 0, none⟩ = some (.int .i64 x10) ∧ w'.cell? ⟨w4.heap.size, 1, none⟩ = some (.slice ax11 x11.length cx11)) [(0, 0), (1, 0), (2, 1), (3, 1), (4, 0)] (by kernel_rfl) (by kernel_rfl) (by kernel_rfl) rfl ?_ (fun _ _ _ _ _ h => h) ?_)
  · exact ⟨(hsssssas.drew).cellAt 0 rfl 0 rfl, (hsssssas.drew).cellAt 0 rfl 1 rfl, (hsssssas.drew).cellAt 1 rfl 0 rfl, (hsssssas.drew).cellAt 1 rfl 1 rfl⟩
  have Rx1''' := Lib.hid (Rd.mono Rx1''.out (belowD _))
  clear Rx1''
  have hsssssasd := hsssssas.drew
  (repeat (first | (apply el_skip rfl (by rfl); try simp only [Act.put, List.setIfInBounds_toArray, List.set_cons_zero, List.set_cons_succ]) | (apply el_float rfl (by rfl); (· (intro w' hS; go_simp <;> with_reducible rfl)); (try simp only [Act.put, List.setIfInBounds_toArray, List.set_cons_zero, List.set_cons_succ]))))
  refine el_hard rfl (by rfl) (fun K hK => ?_)
  go_wp2_with (go_at_call 20; refine (toRel_b (x10, x11) _ _ _ (Rd.mono H1.out hsssssasd.bel) gc1).mono ?_; rintro e w6 ⟨uy10, uy11, rfl, fry1, hb6⟩)
  have Rx1'''' := Lib.hid (Rd.mono Rx1'''.out hb6)
  clear Rx1'''
  have hsssssasds := hsssssasd.step hb6
  have rdy1 := fry1.rd
  have zy10 := rd_cons rfl rdy1
  obtain ⟨rfl, _⟩ := rd_i1 zy10.1
  obtain ⟨ay11, cy11, rfl, _⟩ := rd_list zy10.2
  clear zy10
  have Ry1 := Lib.hid rdy1
  clear rdy1 fry1
  refine ⟨⟨hsssssasds.cellAt 0 rfl 0 rfl, hsssssasds.cellAt 0 rfl 1 rfl, hsssssasds.cellAt 1 rfl 0 rfl, hsssssasds.cellAt 1 rfl 1 rfl⟩, ?_⟩
  (repeat (first | (apply el_skip rfl (by rfl); try simp only [Act.put, List.setIfInBounds_toArray, List.set_cons_zero, List.set_cons_succ]) | (apply el_float rfl (by rfl); (· (intro w' hS; go_simp <;> with_reducible rfl)); (try simp only [Act.put, List.setIfInBounds_toArray, List.set_cons_zero, List.set_cons_succ]))))
  refine el_hard rfl (by rfl) (fun K hK => ?_)
  go_wp2_with (go_at_call 22; refine (eqRel_s (x10, x11) _ _ _ _ _ Rx1''''.out Ry1.out).mono ?_; rintro e w7 ⟨rfl, hb7⟩)
  clear Ry1
  clear Rx1''''
  have hsssssasdss := hsssssasds.step hb7
  refine ⟨⟨hsssssasdss.cellAt 0 rfl 0 rfl, hsssssasdss.cellAt 0 rfl 1 rfl, hsssssasdss.cellAt 1 rfl 0 rfl, hsssssasdss.cellAt 1 rfl 1 rfl⟩, ?_⟩
  (repeat (first | (apply el_skip rfl (by rfl); try simp only [Act.put, List.setIfInBounds_toArray, List.set_cons_zero, List.set_cons_succ]) | (apply el_float rfl (by rfl); (· (intro w' hS; go_simp <;> with_reducible rfl)); (try simp only [Act.put, List.setIfInBounds_toArray, List.set_cons_zero, List.set_cons_succ]))))
  refine el_nil (NoPanic.normal ?_)
  clear qa10 qa11 qx10 qx11
  have qa10 := hsssssasdss.cellAt 0 rfl 0 rfl
  have qa11 := hsssssasdss.cellAt 0 rfl 1 rfl
  have qx10 := hsssssasdss.cellAt 1 rfl 0 rfl
  have qx11 := hsssssasdss.cellAt 1 rfl 1 rfl
  go_wp2_with fail
  go_ret
  exact ⟨rfl, hsssssasdss.bel⟩

end Go.Proofs.Ytjkjfjpajmjglaa
