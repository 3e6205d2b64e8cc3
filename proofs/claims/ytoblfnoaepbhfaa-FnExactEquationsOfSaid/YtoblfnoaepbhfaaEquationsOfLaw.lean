/-
  THE LAW FnExactEquationsOf, WALKED. (Printed by wip/genlawm.py.)
-/
import Derived.Test.YtoblfnoaepbhfaaKinds
import Derived.Test.YtoblfnoaepbhfaaEqB
namespace Go.Proofs.Ytoblfnoaepbhfaa
open Go.RowKit Go.Shelf
open Rep (Rd Own sz)
set_option linter.unusedSimpArgs false
set_option linter.unusedVariables false

set_option maxRecDepth 100000 in
set_option maxHeartbeats 8000000 in
theorem FnExactEquationsOf_c (x0 : Int) (x1 : RelT) (v10 v11 : Value) (w : World) (i0 : I64 x0) (h1 : Rd w [v10, v11] x1) :
    Calls Try.prog 3 #[.int .i64 x0, .agg #[v10, v11]] w fun e w' => e = .returned (.bool true) ∧ Below w.heap.size w w' := by
  have hsm : mc_System (eqsOfF x0 x1).1 ≤ 1000000 := eqsOfF_small x0 x1
  have cS := fun a10 a11 W h1 => sEquationsOf_c x0 x1 a10 a11 W i0 h1
  have cI := fun a10 a11 W h1 => EquationsOf_c x0 x1 a10 a11 W i0 h1
  generalize eqsOfF x0 x1 = R at cS cI hsm
  obtain ⟨⟨r0, r1, r2⟩, code⟩ := R
  have CS := Lib.hid cS
  have CI := Lib.hid cI
  clear cS cI
  obtain ⟨x10, x11⟩ := x1
  have z10 := rd_cons rfl h1
  obtain ⟨rfl, _⟩ := rd_i1 z10.1
  obtain ⟨a11, c11, rfl, _⟩ := rd_list z10.2
  clear z10
  have H1 := Lib.hid h1
  clear h1
  have hs := (St.start w).alloc #[.int .i64 x10, .slice a11 x11.length c11] 24 rfl
  go_enter Try.func3, Try.ntmps3
  go_wp2_with fail
  refine (szRel_b (x10, x11) _ _ (1048576) _ (Rd.mono H1.out hs.bel) (by omega) (by omega)).mono ?_
  rintro e w1 ⟨rfl, hb1⟩
  have hss := hs.step hb1
  have hz1 : w.heap.size + 1 ≤ w1.heap.size := by simpa using hb1.size
  rcases less_cases (1048576) (cost_Rel (x10, x11)) with ⟨e1, g1⟩ | ⟨e1, g1⟩
  · rw [e1]
    clear e1
    go_wp2_with fail
    go_ret
    exact ⟨rfl, hss.bel⟩
  rw [e1]
  clear e1
  have qa10 := hss.cellAt 0 rfl 0 rfl
  have qa11 := hss.cellAt 0 rfl 1 rfl
  have gc1 : cost_Rel (x10, x11) ≤ 1048576 := by omega
  go_wp2_with fail
  refine (toRel_b (x10, x11) _ _ _ (Rd.mono H1.out hss.bel) gc1).mono ?_
  rintro e w2 ⟨us10, us11, rfl, frs1, hb2⟩
  have hsss := hss.step hb2
  have hz2 : w1.heap.size ≤ w2.heap.size := by simpa using hb2.size
  have Js1 := Lib.hid (Fresh.iv frs1)
  have zs10 := rd_cons rfl (Iv.rd Js1.out)
  obtain ⟨rfl, _⟩ := rd_i1 zs10.1
  obtain ⟨as11, cs11, rfl, _⟩ := rd_list zs10.2
  clear zs10
  clear frs1
  clear qa10 qa11
  have qa10 := hsss.cellAt 0 rfl 0 rfl
  have qa11 := hsss.cellAt 0 rfl 1 rfl
  go_wp2_with fail
  refine (CS.out _ _ _ (Iv.rd Js1.out)).mono ?_
  rintro e w3 ⟨uW0, uW1, uW2, rfl, frW, hb3⟩
  have Js1' := Lib.hid (Iv.mono Js1.out hb3)
  clear Js1
  have hssss := hsss.step hb3
  have hz3 : w2.heap.size ≤ w3.heap.size := by simpa using hb3.size
  have JW := Lib.hid (Fresh.iv frW)
  have zW0 := rd_cons rfl (Iv.rd JW.out)
  obtain ⟨rfl, _⟩ := rd_i1 zW0.1
  have zW1 := rd_cons rfl zW0.2
  obtain ⟨rfl, _⟩ := rd_i1 zW1.1
  obtain ⟨aW2, cW2, rfl, _⟩ := rd_list zW1.2
  clear zW0 zW1
  clear frW
  clear Js1'
  clear qa10 qa11
  have qa10 := hssss.cellAt 0 rfl 0 rfl
  have qa11 := hssss.cellAt 0 rfl 1 rfl
  have hssssa := hssss.alloc #[.int .i64 r0, .int .i64 r1, .slice aW2 r2.length cW2] 28 rfl
  have JW' := Lib.hid (Iv.mono JW.out (belowA _ (.cells #[.int .i64 r0, .int .i64 r1, .slice aW2 r2.length cW2] 28)))
  clear JW
  clear qa10 qa11
  have qa10 := hssssa.cellAt 0 rfl 0 rfl
  have qa11 := hssssa.cellAt 0 rfl 1 rfl
  have qw0 := hssssa.cellAt 1 rfl 0 rfl
  have qw1 := hssssa.cellAt 1 rfl 1 rfl
  have qw2 := hssssa.cellAt 1 rfl 2 rfl
  go_wp2_with fail
  refine (toRel_b (x10, x11) _ _ _ (Rd.mono H1.out hssssa.bel) gc1).mono ?_
  rintro e w4 ⟨ux10, ux11, rfl, frx1, hb4⟩
  have JW'' := Lib.hid (Iv.mono JW'.out hb4)
  clear JW'
  have hssssas := hssssa.step hb4
  have hz4 : w3.heap.size + 1 ≤ w4.heap.size := by simpa using hb4.size
  have Jx1 := Lib.hid (Fresh.iv frx1)
  have zx10 := rd_cons rfl (Iv.rd Jx1.out)
  obtain ⟨rfl, _⟩ := rd_i1 zx10.1
  obtain ⟨ax11, cx11, rfl, _⟩ := rd_list zx10.2
  clear zx10
  clear frx1
  clear qa10 qa11 qw0 qw1 qw2
  have qa10 := hssssas.cellAt 0 rfl 0 rfl
  have qa11 := hssssas.cellAt 0 rfl 1 rfl
  have qw0 := hssssas.cellAt 1 rfl 0 rfl
  have qw1 := hssssas.cellAt 1 rfl 1 rfl
  have qw2 := hssssas.cellAt 1 rfl 2 rfl
  have hssssasa := hssssas.alloc #[.int .i64 x10, .slice ax11 x11.length cx11] 31 rfl
  have JW''' := Lib.hid (Iv.mono JW''.out (belowA _ (.cells #[.int .i64 x10, .slice ax11 x11.length cx11] 31)))
  clear JW''
  have Jx1' := Lib.hid (Iv.mono Jx1.out (belowA _ (.cells #[.int .i64 x10, .slice ax11 x11.length cx11] 31)))
  clear Jx1
  clear qa10 qa11 qw0 qw1 qw2
  have qa10 := hssssasa.cellAt 0 rfl 0 rfl
  have qa11 := hssssasa.cellAt 0 rfl 1 rfl
  have qw0 := hssssasa.cellAt 1 rfl 0 rfl
  have qw1 := hssssasa.cellAt 1 rfl 1 rfl
  have qw2 := hssssasa.cellAt 1 rfl 2 rfl
  have qx10 := hssssasa.cellAt 2 rfl 0 rfl
  have qx11 := hssssasa.cellAt 2 rfl 1 rfl
  go_wp2_with fail
  refine (CI.out _ _ _ (Iv.rd Jx1'.out)).mono ?_
  rintro e w5 ⟨uG0, uG1, uG2, rfl, frG, hb5⟩
  have JW'''' := Lib.hid (Iv.mono JW'''.out hb5)
  clear JW'''
  have Jx1'' := Lib.hid (Iv.mono Jx1'.out hb5)
  clear Jx1'
  have hssssasas := hssssasa.step hb5
  have hz5 : w4.heap.size + 1 ≤ w5.heap.size := by simpa using hb5.size
  have JG := Lib.hid (Fresh.iv frG)
  have zG0 := rd_cons rfl (Iv.rd JG.out)
  obtain ⟨rfl, _⟩ := rd_i1 zG0.1
  have zG1 := rd_cons rfl zG0.2
  obtain ⟨rfl, _⟩ := rd_i1 zG1.1
  obtain ⟨aG2, cG2, rfl, _⟩ := rd_list zG1.2
  clear zG0 zG1
  clear frG
  clear qa10 qa11 qw0 qw1 qw2 qx10 qx11
  have qa10 := hssssasas.cellAt 0 rfl 0 rfl
  have qa11 := hssssasas.cellAt 0 rfl 1 rfl
  have qw0 := hssssasas.cellAt 1 rfl 0 rfl
  have qw1 := hssssasas.cellAt 1 rfl 1 rfl
  have qw2 := hssssasas.cellAt 1 rfl 2 rfl
  have qx10 := hssssasas.cellAt 2 rfl 0 rfl
  have qx11 := hssssasas.cellAt 2 rfl 1 rfl
  have hssssasasa := hssssasas.alloc #[.int .i64 r0, .int .i64 r1, .slice aG2 r2.length cG2] 28 rfl
  have JW''''' := Lib.hid (Iv.mono JW''''.out (belowA _ (.cells #[.int .i64 r0, .int .i64 r1, .slice aG2 r2.length cG2] 28)))
  clear JW''''
  have Jx1''' := Lib.hid (Iv.mono Jx1''.out (belowA _ (.cells #[.int .i64 r0, .int .i64 r1, .slice aG2 r2.length cG2] 28)))
  clear Jx1''
  have JG' := Lib.hid (Iv.mono JG.out (belowA _ (.cells #[.int .i64 r0, .int .i64 r1, .slice aG2 r2.length cG2] 28)))
  clear JG
  clear qa10 qa11 qw0 qw1 qw2 qx10 qx11
  have qa10 := hssssasasa.cellAt 0 rfl 0 rfl
  have qa11 := hssssasasa.cellAt 0 rfl 1 rfl
  have qw0 := hssssasasa.cellAt 1 rfl 0 rfl
  have qw1 := hssssasasa.cellAt 1 rfl 1 rfl
  have qw2 := hssssasasa.cellAt 1 rfl 2 rfl
  have qx10 := hssssasasa.cellAt 2 rfl 0 rfl
  have qx11 := hssssasasa.cellAt 2 rfl 1 rfl
  have qg0 := hssssasasa.cellAt 3 rfl 0 rfl
  have qg1 := hssssasasa.cellAt 3 rfl 1 rfl
  have qg2 := hssssasasa.cellAt 3 rfl 2 rfl
  go_wp2_with fail
  refine (eqSystem_s (r0, r1, r2) _ _ _ _ _ _ _ (Iv.rd JG'.out) (Iv.rd JW'''''.out)).mono ?_
  rintro e w6 ⟨rfl, hb6⟩
  have JW'''''' := Lib.hid (Iv.mono JW'''''.out hb6)
  clear JW'''''
  have Jx1'''' := Lib.hid (Iv.mono Jx1'''.out hb6)
  clear Jx1'''
  have JG'' := Lib.hid (Iv.mono JG'.out hb6)
  clear JG'
  have hssssasasas := hssssasasa.step hb6
  have hz6 : w5.heap.size + 1 ≤ w6.heap.size := by simpa using hb6.size
  clear qa10 qa11 qw0 qw1 qw2 qx10 qx11 qg0 qg1 qg2
  have qa10 := hssssasasas.cellAt 0 rfl 0 rfl
  have qa11 := hssssasasas.cellAt 0 rfl 1 rfl
  have qw0 := hssssasasas.cellAt 1 rfl 0 rfl
  have qw1 := hssssasasas.cellAt 1 rfl 1 rfl
  have qw2 := hssssasasas.cellAt 1 rfl 2 rfl
  have qx10 := hssssasasas.cellAt 2 rfl 0 rfl
  have qx11 := hssssasasas.cellAt 2 rfl 1 rfl
  have qg0 := hssssasasas.cellAt 3 rfl 0 rfl
  have qg1 := hssssasasas.cellAt 3 rfl 1 rfl
  have qg2 := hssssasasas.cellAt 3 rfl 2 rfl
  have hcode : (code != code) = false := by simp
  go_wp2_with fail
  refine wp_region_noPanic (wp_region_el (fun w' => w'.cell? ⟨w.heap.size, 0, none⟩ = some (.int .i64 x10) ∧ w'.cell? ⟨w.heap.size, 1, none⟩ = some (.slice a11 x11.length c11) ∧ w'.cell? ⟨w3.heap.size, 0, none⟩ = some (.int .i64 r0) ∧ w'.cell? ⟨w3.heap.size, 1, none⟩ = some (.int .i64 r1) ∧ w'.cell? ⟨w3.heap.size, 2, none⟩ = some (.slice aW2 r2.length cW2) ∧ w'.cell? ⟨w4.heap.size, 0, none⟩ = some (.int .i64 x10) ∧ w'.cell? ⟨w4.heap.size, 1, none⟩ = some (.slice ax11 x11.length cx11) ∧ w'.cell? ⟨w5.heap.size, 0, none⟩ = some (.int .i64 r0) ∧ w'.cell? ⟨w5.heap.size, 1, none⟩ = some (.int .i64 r1) ∧ w'.cell? ⟨w5.heap.size, 2, none⟩ = some (.slice aG2 r2.length cG2)) [(0, 0), (1, 0), (2, 1), (3, 1), (4, 0)] (by kernel_rfl) (by kernel_rfl) (by kernel_rfl) rfl ?_ (fun _ _ _ _ _ h => h) ?_)
  · exact ⟨(hssssasasas.drew).cellAt 0 rfl 0 rfl, (hssssasasas.drew).cellAt 0 rfl 1 rfl, (hssssasasas.drew).cellAt 1 rfl 0 rfl, (hssssasasas.drew).cellAt 1 rfl 1 rfl, (hssssasasas.drew).cellAt 1 rfl 2 rfl, (hssssasasas.drew).cellAt 2 rfl 0 rfl, (hssssasasas.drew).cellAt 2 rfl 1 rfl, (hssssasasas.drew).cellAt 3 rfl 0 rfl, (hssssasasas.drew).cellAt 3 rfl 1 rfl, (hssssasasas.drew).cellAt 3 rfl 2 rfl⟩
  have JW''''''' := Lib.hid (Iv.mono JW''''''.out (belowD _))
  clear JW''''''
  have Jx1''''' := Lib.hid (Iv.mono Jx1''''.out (belowD _))
  clear Jx1''''
  have JG''' := Lib.hid (Iv.mono JG''.out (belowD _))
  clear JG''
  have hssssasasasd := hssssasasas.drew
  (repeat (first | (apply el_skip rfl (by rfl); try simp only [Act.put, List.setIfInBounds_toArray, List.set_cons_zero, List.set_cons_succ]) | (apply el_float rfl (by rfl); (· (intro w' hS; go_simp <;> with_reducible rfl)); (try simp only [Act.put, List.setIfInBounds_toArray, List.set_cons_zero, List.set_cons_succ]))))
  refine el_hard rfl (by rfl) (fun K hK => ?_)
  go_wp2_with (go_at_call 7; refine (toRel_b (x10, x11) _ _ _ (Rd.mono H1.out hssssasasasd.bel) gc1).mono ?_; rintro e w7 ⟨uy10, uy11, rfl, fry1, hb7⟩)
  have JW'''''''' := Lib.hid (Iv.mono JW'''''''.out hb7)
  clear JW'''''''
  have Jx1'''''' := Lib.hid (Iv.mono Jx1'''''.out hb7)
  clear Jx1'''''
  have JG'''' := Lib.hid (Iv.mono JG'''.out hb7)
  clear JG'''
  have hssssasasasds := hssssasasasd.step hb7
  have hz7 : w6.heap.size ≤ w7.heap.size := by simpa using hb7.size
  have Jy1 := Lib.hid (Fresh.iv fry1)
  have zy10 := rd_cons rfl (Iv.rd Jy1.out)
  obtain ⟨rfl, _⟩ := rd_i1 zy10.1
  obtain ⟨ay11, cy11, rfl, _⟩ := rd_list zy10.2
  clear zy10
  clear fry1
  refine ⟨⟨hssssasasasds.cellAt 0 rfl 0 rfl, hssssasasasds.cellAt 0 rfl 1 rfl, hssssasasasds.cellAt 1 rfl 0 rfl, hssssasasasds.cellAt 1 rfl 1 rfl, hssssasasasds.cellAt 1 rfl 2 rfl, hssssasasasds.cellAt 2 rfl 0 rfl, hssssasasasds.cellAt 2 rfl 1 rfl, hssssasasasds.cellAt 3 rfl 0 rfl, hssssasasasds.cellAt 3 rfl 1 rfl, hssssasasasds.cellAt 3 rfl 2 rfl⟩, ?_⟩
  (repeat (first | (apply el_skip rfl (by rfl); try simp only [Act.put, List.setIfInBounds_toArray, List.set_cons_zero, List.set_cons_succ]) | (apply el_float rfl (by rfl); (· (intro w' hS; go_simp <;> with_reducible rfl)); (try simp only [Act.put, List.setIfInBounds_toArray, List.set_cons_zero, List.set_cons_succ]))))
  refine el_hard rfl (by rfl) (fun K hK => ?_)
  go_wp2_with (go_at_call 10; refine (eqRel_s (x10, x11) _ _ _ _ _ (Iv.rd Jx1''''''.out) (Iv.rd Jy1.out)).mono ?_; rintro e w8 ⟨rfl, hb8⟩)
  clear Jy1
  have JW''''''''' := Lib.hid (Iv.mono JW''''''''.out hb8)
  clear JW''''''''
  have Jx1''''''' := Lib.hid (Iv.mono Jx1''''''.out hb8)
  clear Jx1''''''
  have JG''''' := Lib.hid (Iv.mono JG''''.out hb8)
  clear JG''''
  have hssssasasasdss := hssssasasasds.step hb8
  have hz8 : w7.heap.size ≤ w8.heap.size := by simpa using hb8.size
  refine ⟨⟨hssssasasasdss.cellAt 0 rfl 0 rfl, hssssasasasdss.cellAt 0 rfl 1 rfl, hssssasasasdss.cellAt 1 rfl 0 rfl, hssssasasasdss.cellAt 1 rfl 1 rfl, hssssasasasdss.cellAt 1 rfl 2 rfl, hssssasasasdss.cellAt 2 rfl 0 rfl, hssssasasasdss.cellAt 2 rfl 1 rfl, hssssasasasdss.cellAt 3 rfl 0 rfl, hssssasasasdss.cellAt 3 rfl 1 rfl, hssssasasasdss.cellAt 3 rfl 2 rfl⟩, ?_⟩
  (repeat (first | (apply el_skip rfl (by rfl); try simp only [Act.put, List.setIfInBounds_toArray, List.set_cons_zero, List.set_cons_succ]) | (apply el_float rfl (by rfl); (· (intro w' hS; go_simp <;> with_reducible rfl)); (try simp only [Act.put, List.setIfInBounds_toArray, List.set_cons_zero, List.set_cons_succ]))))
  refine el_nil (NoPanic.normal ?_)
  clear qa10 qa11 qw0 qw1 qw2 qx10 qx11 qg0 qg1 qg2
  have qa10 := hssssasasasdss.cellAt 0 rfl 0 rfl
  have qa11 := hssssasasasdss.cellAt 0 rfl 1 rfl
  have qw0 := hssssasasasdss.cellAt 1 rfl 0 rfl
  have qw1 := hssssasasasdss.cellAt 1 rfl 1 rfl
  have qw2 := hssssasasasdss.cellAt 1 rfl 2 rfl
  have qx10 := hssssasasasdss.cellAt 2 rfl 0 rfl
  have qx11 := hssssasasasdss.cellAt 2 rfl 1 rfl
  have qg0 := hssssasasasdss.cellAt 3 rfl 0 rfl
  have qg1 := hssssasasasdss.cellAt 3 rfl 1 rfl
  have qg2 := hssssasasasdss.cellAt 3 rfl 2 rfl
  have mcb1 := mcb_Rel (x10, x11)
  obtain ⟨psx1, hox1, hnx1, hpx1⟩ := Jx1'''''''.out
  have HOx1 := Lib.hid hox1
  clear hox1
  clear Jx1'''''''
  go_wp2_with fail
  refine (markRel_g (x10, x11) _ _ psx1 1 _ HOx1.out hnx1 (by omega) (by omega)).mono ?_
  rintro e w9 ⟨yx1, mx1, rfl, l0x1, l1x1, hyx1, hhx1, hbutx1⟩
  have HYx1 := Lib.hid hyx1
  have HHx1 := Lib.hid hhx1
  clear hyx1 hhx1 HOx1
  have hqx1 : ∀ k, k ∈ psx1 → w3.heap.size + 1 ≤ k ∧ k < w4.heap.size := fun k hk => by have := hpx1 k hk; simpa using this
  have JW'''''''''' := Lib.hid (Iv.but JW'''''''''.out hbutx1 (fun k hk => by have := hqx1 k hk; simp; omega))
  clear JW'''''''''
  have JG'''''' := Lib.hid (Iv.but JG'''''.out hbutx1 (fun k hk => by have := hqx1 k hk; simp; omega))
  clear JG'''''
  have hssssasasasdssm := hssssasasasdss.butIv hbutx1 (fun k hk => by have := hqx1 k hk; omega) (fun x hx hp => by
    have := hqx1 _ hp
    simp only [List.mem_append, List.mem_cons, List.mem_nil_iff, or_false, List.not_mem_nil, false_or, or_assoc] at hx
    rcases hx with rfl | rfl | rfl | rfl <;> (simp only at this; omega))
  have hz9 : w8.heap.size ≤ w9.heap.size := by simpa using hbutx1.size
  clear qa10 qa11 qw0 qw1 qw2 qx10 qx11 qg0 qg1 qg2
  have qa10 := hssssasasasdssm.cellAt 0 rfl 0 rfl
  have qa11 := hssssasasasdssm.cellAt 0 rfl 1 rfl
  have qw0 := hssssasasasdssm.cellAt 1 rfl 0 rfl
  have qw1 := hssssasasasdssm.cellAt 1 rfl 1 rfl
  have qw2 := hssssasasasdssm.cellAt 1 rfl 2 rfl
  have qx10 := hssssasasasdssm.cellAt 2 rfl 0 rfl
  have qx11 := hssssasasasdssm.cellAt 2 rfl 1 rfl
  have qg0 := hssssasasasdssm.cellAt 3 rfl 0 rfl
  have qg1 := hssssasasasdssm.cellAt 3 rfl 1 rfl
  have qg2 := hssssasasasdssm.cellAt 3 rfl 2 rfl
  go_wp2_with fail
  refine (eqSystem_s (r0, r1, r2) _ _ _ _ _ _ _ (Iv.rd JG''''''.out) (Iv.rd JW''''''''''.out)).mono ?_
  rintro e w10 ⟨rfl, hb10⟩
  have JW''''''''''' := Lib.hid (Iv.mono JW''''''''''.out hb10)
  clear JW''''''''''
  have JG''''''' := Lib.hid (Iv.mono JG''''''.out hb10)
  clear JG''''''
  have hssssasasasdssms := hssssasasasdssm.step hb10
  have hz10 : w9.heap.size ≤ w10.heap.size := by simpa using hb10.size
  clear qa10 qa11 qw0 qw1 qw2 qx10 qx11 qg0 qg1 qg2
  have qa10 := hssssasasasdssms.cellAt 0 rfl 0 rfl
  have qa11 := hssssasasasdssms.cellAt 0 rfl 1 rfl
  have qw0 := hssssasasasdssms.cellAt 1 rfl 0 rfl
  have qw1 := hssssasasasdssms.cellAt 1 rfl 1 rfl
  have qw2 := hssssasasasdssms.cellAt 1 rfl 2 rfl
  have qx10 := hssssasasasdssms.cellAt 2 rfl 0 rfl
  have qx11 := hssssasasasdssms.cellAt 2 rfl 1 rfl
  have qg0 := hssssasasasdssms.cellAt 3 rfl 0 rfl
  have qg1 := hssssasasasdssms.cellAt 3 rfl 1 rfl
  have qg2 := hssssasasasdssms.cellAt 3 rfl 2 rfl
  obtain ⟨psG, hoG, hnG, hpG⟩ := JG'''''''.out
  have HOG := Lib.hid hoG
  clear hoG
  clear JG'''''''
  go_wp2_with fail
  refine (markSystem_g (r0, r1, r2) _ _ _ psG 1 _ HOG.out hnG (by omega) (by omega)).mono ?_
  rintro e w11 ⟨yG, mG, rfl, l0G, l1G, hyG, hhG, hbutG⟩
  have HYG := Lib.hid hyG
  have HHG := Lib.hid hhG
  clear hyG hhG HOG
  have hqG : ∀ k, k ∈ psG → w4.heap.size + 1 ≤ k ∧ k < w5.heap.size := fun k hk => by have := hpG k hk; simpa using this
  have JW'''''''''''' := Lib.hid (Iv.but JW'''''''''''.out hbutG (fun k hk => by have := hqG k hk; simp; omega))
  clear JW'''''''''''
  have hssssasasasdssmsm := hssssasasasdssms.butIv hbutG (fun k hk => by have := hqG k hk; omega) (fun x hx hp => by
    have := hqG _ hp
    simp only [List.mem_append, List.mem_cons, List.mem_nil_iff, or_false, List.not_mem_nil, false_or, or_assoc] at hx
    rcases hx with rfl | rfl | rfl | rfl <;> (simp only at this; omega))
  have hz11 : w10.heap.size ≤ w11.heap.size := by simpa using hbutG.size
  clear qa10 qa11 qw0 qw1 qw2 qx10 qx11 qg0 qg1 qg2
  have qa10 := hssssasasasdssmsm.cellAt 0 rfl 0 rfl
  have qa11 := hssssasasasdssmsm.cellAt 0 rfl 1 rfl
  have qw0 := hssssasasasdssmsm.cellAt 1 rfl 0 rfl
  have qw1 := hssssasasasdssmsm.cellAt 1 rfl 1 rfl
  have qw2 := hssssasasasdssmsm.cellAt 1 rfl 2 rfl
  have qx10 := hssssasasasdssmsm.cellAt 2 rfl 0 rfl
  have qx11 := hssssasasasdssmsm.cellAt 2 rfl 1 rfl
  have qg0 := hssssasasasdssmsm.cellAt 3 rfl 0 rfl
  have qg1 := hssssasasasdssmsm.cellAt 3 rfl 1 rfl
  have qg2 := hssssasasasdssmsm.cellAt 3 rfl 2 rfl
  have HYr12 := Lib.hid (Own.rd HYG.out)
  go_wp2_with fail
  refine (heldSystem_g yG _ _ _ 1 mG _ HYr12.out HHG.out (by omega) (by omega) (by omega)).mono ?_
  rintro e w12 ⟨rfl, hb12⟩
  have HYG' := Lib.hid (Own.mono HYG.out hb12)
  clear HYG HYr12
  have HYG := HYG'
  clear HYG'
  have JW''''''''''''' := Lib.hid (Iv.mono JW''''''''''''.out hb12)
  clear JW''''''''''''
  have hssssasasasdssmsms := hssssasasasdssmsm.step hb12
  have hz12 : w11.heap.size ≤ w12.heap.size := by simpa using hb12.size
  clear qa10 qa11 qw0 qw1 qw2 qx10 qx11 qg0 qg1 qg2
  have qa10 := hssssasasasdssmsms.cellAt 0 rfl 0 rfl
  have qa11 := hssssasasasdssmsms.cellAt 0 rfl 1 rfl
  have qw0 := hssssasasasdssmsms.cellAt 1 rfl 0 rfl
  have qw1 := hssssasasasdssmsms.cellAt 1 rfl 1 rfl
  have qw2 := hssssasasasdssmsms.cellAt 1 rfl 2 rfl
  have qx10 := hssssasasasdssmsms.cellAt 2 rfl 0 rfl
  have qx11 := hssssasasasdssmsms.cellAt 2 rfl 1 rfl
  have qg0 := hssssasasasdssmsms.cellAt 3 rfl 0 rfl
  have qg1 := hssssasasasdssmsms.cellAt 3 rfl 1 rfl
  have qg2 := hssssasasasdssmsms.cellAt 3 rfl 2 rfl
  have hmm : (mG != mG) = false := by simp
  have hm0 : ¬ mG < 0 := by omega
  go_wp2_with fail
  refine (toRel_b (x10, x11) _ _ _ (Rd.mono H1.out hssssasasasdssmsms.bel) gc1).mono ?_
  rintro e w13 ⟨ut10, ut11, rfl, frt1, hb13⟩
  have JW'''''''''''''' := Lib.hid (Iv.mono JW'''''''''''''.out hb13)
  clear JW'''''''''''''
  have hssssasasasdssmsmss := hssssasasasdssmsms.step hb13
  have hz13 : w12.heap.size ≤ w13.heap.size := by simpa using hb13.size
  have Jt1 := Lib.hid (Fresh.iv frt1)
  have zt10 := rd_cons rfl (Iv.rd Jt1.out)
  obtain ⟨rfl, _⟩ := rd_i1 zt10.1
  obtain ⟨at11, ct11, rfl, _⟩ := rd_list zt10.2
  clear zt10
  clear frt1
  clear qa10 qa11 qw0 qw1 qw2 qx10 qx11 qg0 qg1 qg2
  have qa10 := hssssasasasdssmsmss.cellAt 0 rfl 0 rfl
  have qa11 := hssssasasasdssmsmss.cellAt 0 rfl 1 rfl
  have qw0 := hssssasasasdssmsmss.cellAt 1 rfl 0 rfl
  have qw1 := hssssasasasdssmsmss.cellAt 1 rfl 1 rfl
  have qw2 := hssssasasasdssmsmss.cellAt 1 rfl 2 rfl
  have qx10 := hssssasasasdssmsmss.cellAt 2 rfl 0 rfl
  have qx11 := hssssasasasdssmsmss.cellAt 2 rfl 1 rfl
  have qg0 := hssssasasasdssmsmss.cellAt 3 rfl 0 rfl
  have qg1 := hssssasasasdssmsmss.cellAt 3 rfl 1 rfl
  have qg2 := hssssasasasdssmsmss.cellAt 3 rfl 2 rfl
  have HYG' := Lib.hid (Own.mono HYG.out hb13)
  clear HYG
  have HYG := HYG'
  clear HYG'
  go_wp2_with fail
  refine (CI.out _ _ _ (Iv.rd Jt1.out)).mono ?_
  rintro e w14 ⟨uK0, uK1, uK2, rfl, frK, hb14⟩
  have JW''''''''''''''' := Lib.hid (Iv.mono JW''''''''''''''.out hb14)
  clear JW''''''''''''''
  have Jt1' := Lib.hid (Iv.mono Jt1.out hb14)
  clear Jt1
  have hssssasasasdssmsmsss := hssssasasasdssmsmss.step hb14
  have hz14 : w13.heap.size ≤ w14.heap.size := by simpa using hb14.size
  have JK := Lib.hid (Fresh.iv frK)
  have zK0 := rd_cons rfl (Iv.rd JK.out)
  obtain ⟨rfl, _⟩ := rd_i1 zK0.1
  have zK1 := rd_cons rfl zK0.2
  obtain ⟨rfl, _⟩ := rd_i1 zK1.1
  obtain ⟨aK2, cK2, rfl, _⟩ := rd_list zK1.2
  clear zK0 zK1
  clear frK
  have HYG' := Lib.hid (Own.mono HYG.out hb14)
  clear HYG
  have HYG := HYG'
  clear HYG'
  clear Jt1'
  clear qa10 qa11 qw0 qw1 qw2 qx10 qx11 qg0 qg1 qg2
  have qa10 := hssssasasasdssmsmsss.cellAt 0 rfl 0 rfl
  have qa11 := hssssasasasdssmsmsss.cellAt 0 rfl 1 rfl
  have qw0 := hssssasasasdssmsmsss.cellAt 1 rfl 0 rfl
  have qw1 := hssssasasasdssmsmsss.cellAt 1 rfl 1 rfl
  have qw2 := hssssasasasdssmsmsss.cellAt 1 rfl 2 rfl
  have qx10 := hssssasasasdssmsmsss.cellAt 2 rfl 0 rfl
  have qx11 := hssssasasasdssmsmsss.cellAt 2 rfl 1 rfl
  have qg0 := hssssasasasdssmsmsss.cellAt 3 rfl 0 rfl
  have qg1 := hssssasasasdssmsmsss.cellAt 3 rfl 1 rfl
  have qg2 := hssssasasasdssmsmsss.cellAt 3 rfl 2 rfl
  have hssssasasasdssmsmsssa := hssssasasasdssmsmsss.alloc #[.int .i64 r0, .int .i64 r1, .slice aK2 r2.length cK2] 28 rfl
  have JW'''''''''''''''' := Lib.hid (Iv.mono JW'''''''''''''''.out (belowA _ (.cells #[.int .i64 r0, .int .i64 r1, .slice aK2 r2.length cK2] 28)))
  clear JW'''''''''''''''
  have JK' := Lib.hid (Iv.mono JK.out (belowA _ (.cells #[.int .i64 r0, .int .i64 r1, .slice aK2 r2.length cK2] 28)))
  clear JK
  clear qa10 qa11 qw0 qw1 qw2 qx10 qx11 qg0 qg1 qg2
  have qa10 := hssssasasasdssmsmsssa.cellAt 0 rfl 0 rfl
  have qa11 := hssssasasasdssmsmsssa.cellAt 0 rfl 1 rfl
  have qw0 := hssssasasasdssmsmsssa.cellAt 1 rfl 0 rfl
  have qw1 := hssssasasasdssmsmsssa.cellAt 1 rfl 1 rfl
  have qw2 := hssssasasasdssmsmsssa.cellAt 1 rfl 2 rfl
  have qx10 := hssssasasasdssmsmsssa.cellAt 2 rfl 0 rfl
  have qx11 := hssssasasasdssmsmsssa.cellAt 2 rfl 1 rfl
  have qg0 := hssssasasasdssmsmsssa.cellAt 3 rfl 0 rfl
  have qg1 := hssssasasasdssmsmsssa.cellAt 3 rfl 1 rfl
  have qg2 := hssssasasasdssmsmsssa.cellAt 3 rfl 2 rfl
  have qh0 := hssssasasasdssmsmsssa.cellAt 4 rfl 0 rfl
  have qh1 := hssssasasasdssmsmsssa.cellAt 4 rfl 1 rfl
  have qh2 := hssssasasasdssmsmsssa.cellAt 4 rfl 2 rfl
  have HYG' := Lib.hid (Own.mono HYG.out (belowA _ (.cells #[.int .i64 r0, .int .i64 r1, .slice aK2 r2.length cK2] 28)))
  clear HYG
  have HYG := HYG'
  clear HYG'
  go_wp2_with fail
  refine (eqSystem_s (r0, r1, r2) _ _ _ _ _ _ _ (Iv.rd JK'.out) (Iv.rd JW''''''''''''''''.out)).mono ?_
  rintro e w15 ⟨rfl, hb15⟩
  have JW''''''''''''''''' := Lib.hid (Iv.mono JW''''''''''''''''.out hb15)
  clear JW''''''''''''''''
  have JK'' := Lib.hid (Iv.mono JK'.out hb15)
  clear JK'
  have hssssasasasdssmsmsssas := hssssasasasdssmsmsssa.step hb15
  have hz15 : w14.heap.size + 1 ≤ w15.heap.size := by simpa using hb15.size
  clear qa10 qa11 qw0 qw1 qw2 qx10 qx11 qg0 qg1 qg2 qh0 qh1 qh2
  have qa10 := hssssasasasdssmsmsssas.cellAt 0 rfl 0 rfl
  have qa11 := hssssasasasdssmsmsssas.cellAt 0 rfl 1 rfl
  have qw0 := hssssasasasdssmsmsssas.cellAt 1 rfl 0 rfl
  have qw1 := hssssasasasdssmsmsssas.cellAt 1 rfl 1 rfl
  have qw2 := hssssasasasdssmsmsssas.cellAt 1 rfl 2 rfl
  have qx10 := hssssasasasdssmsmsssas.cellAt 2 rfl 0 rfl
  have qx11 := hssssasasasdssmsmsssas.cellAt 2 rfl 1 rfl
  have qg0 := hssssasasasdssmsmsssas.cellAt 3 rfl 0 rfl
  have qg1 := hssssasasasdssmsmsssas.cellAt 3 rfl 1 rfl
  have qg2 := hssssasasasdssmsmsssas.cellAt 3 rfl 2 rfl
  have qh0 := hssssasasasdssmsmsssas.cellAt 4 rfl 0 rfl
  have qh1 := hssssasasasdssmsmsssas.cellAt 4 rfl 1 rfl
  have qh2 := hssssasasasdssmsmsssas.cellAt 4 rfl 2 rfl
  have HYG' := Lib.hid (Own.mono HYG.out hb15)
  clear HYG
  have HYG := HYG'
  clear HYG'
  have HYr16 := Lib.hid (Own.rd HYG.out)
  go_wp2_with fail
  refine (heldSystem_g yG _ _ _ 1 mG _ HYr16.out HHG.out (by omega) (by omega) (by omega)).mono ?_
  rintro e w16 ⟨rfl, hb16⟩
  have HYG' := Lib.hid (Own.mono HYG.out hb16)
  clear HYG HYr16
  have HYG := HYG'
  clear HYG'
  have JW'''''''''''''''''' := Lib.hid (Iv.mono JW'''''''''''''''''.out hb16)
  clear JW'''''''''''''''''
  have JK''' := Lib.hid (Iv.mono JK''.out hb16)
  clear JK''
  have hssssasasasdssmsmsssass := hssssasasasdssmsmsssas.step hb16
  have hz16 : w15.heap.size ≤ w16.heap.size := by simpa using hb16.size
  clear qa10 qa11 qw0 qw1 qw2 qx10 qx11 qg0 qg1 qg2 qh0 qh1 qh2
  have qa10 := hssssasasasdssmsmsssass.cellAt 0 rfl 0 rfl
  have qa11 := hssssasasasdssmsmsssass.cellAt 0 rfl 1 rfl
  have qw0 := hssssasasasdssmsmsssass.cellAt 1 rfl 0 rfl
  have qw1 := hssssasasasdssmsmsssass.cellAt 1 rfl 1 rfl
  have qw2 := hssssasasasdssmsmsssass.cellAt 1 rfl 2 rfl
  have qx10 := hssssasasasdssmsmsssass.cellAt 2 rfl 0 rfl
  have qx11 := hssssasasasdssmsmsssass.cellAt 2 rfl 1 rfl
  have qg0 := hssssasasasdssmsmsssass.cellAt 3 rfl 0 rfl
  have qg1 := hssssasasasdssmsmsssass.cellAt 3 rfl 1 rfl
  have qg2 := hssssasasasdssmsmsssass.cellAt 3 rfl 2 rfl
  have qh0 := hssssasasasdssmsmsssass.cellAt 4 rfl 0 rfl
  have qh1 := hssssasasasdssmsmsssass.cellAt 4 rfl 1 rfl
  have qh2 := hssssasasasdssmsmsssass.cellAt 4 rfl 2 rfl
  go_wp2_with fail
  go_ret
  exact ⟨rfl, hssssasasasdssmsmsssass.bel⟩

end Go.Proofs.Ytoblfnoaepbhfaa
