/-
  THE LAW FnExactSolverFor, WALKED. (Printed by wip/genlawm.py.)
-/
import Derived.Test.YtllenfkbfeanmaaGreatKindsSa
import Derived.Test.YtllenfkbfeanmaaGreatMarkTSa
import Derived.Test.YtllenfkbfeanmaaGreatMarkOSa
import Derived.Test.YtllenfkbfeanmaaGreatSolverSSa
namespace Go.Proofs.YtllenfkbfeanmaaGreat
open Go.RowKit Go.Shelf
open Rep (Rd Own sz)
set_option linter.unusedSimpArgs false
set_option linter.unusedVariables false

set_option maxRecDepth 100000 in
set_option maxHeartbeats 8000000 in
theorem FnExactSolverFor_c (x0 : Tmpl) (v00 v01 : Value) (w : World) (h0 : Rd w [v00, v01] x0) :
    Calls Tryz.prog 4 #[.agg #[v00, v01]] w fun e w' => e = .returned (.bool true) ∧ Below w.heap.size w w' := by
  have hsm : mc_Op (solverF x0).1 ≤ 1000000 := solverF_small x0
  have cS := fun a00 a01 W h0 => sSolverFor_c x0 a00 a01 W h0
  have cI := fun a00 a01 W h0 => SolverFor_c x0 a00 a01 W h0
  generalize solverF x0 = R at cS cI hsm
  obtain ⟨⟨r0, r1⟩, idx, code⟩ := R
  have CS := Lib.hid cS
  have CI := Lib.hid cI
  clear cS cI
  obtain ⟨x00, x01⟩ := x0
  have z00 := rd_cons rfl h0
  obtain ⟨rfl, _⟩ := rd_i1 z00.1
  obtain ⟨a01, c01, rfl, _⟩ := rd_list z00.2
  clear z00
  have H0 := Lib.hid h0
  clear h0
  have hs := (St.start w).alloc #[.int .i64 x00, .slice a01 x01.length c01] 53 rfl
  go_enter Tryz.func4, Tryz.ntmps4
  go_wp2_with fail
  refine (szTemplate_b (x00, x01) _ _ (1048576) _ (Rd.mono H0.out hs.bel) (by omega) (by omega)).mono ?_
  rintro e w1 ⟨rfl, hb1⟩
  have hss := hs.step hb1
  have hz1 : w.heap.size + 1 ≤ w1.heap.size := by simpa using hb1.size
  rcases less_cases (1048576) (cost_Template (x00, x01)) with ⟨e1, g0⟩ | ⟨e1, g0⟩
  · rw [e1]
    clear e1
    go_wp2_with fail
    go_ret
    exact ⟨rfl, hss.bel⟩
  rw [e1]
  clear e1
  have qa00 := hss.cellAt 0 rfl 0 rfl
  have qa01 := hss.cellAt 0 rfl 1 rfl
  have gc0 : cost_Template (x00, x01) ≤ 1048576 := by omega
  go_wp2_with fail
  refine (toTemplate_b (x00, x01) _ _ _ (Rd.mono H0.out hss.bel) gc0).mono ?_
  rintro e w2 ⟨us00, us01, rfl, frs0, hb2⟩
  have hsss := hss.step hb2
  have hz2 : w1.heap.size ≤ w2.heap.size := by simpa using hb2.size
  have Js0 := Lib.hid (Fresh.iv frs0)
  have zs00 := rd_cons rfl (Iv.rd Js0.out)
  obtain ⟨rfl, _⟩ := rd_i1 zs00.1
  obtain ⟨as01, cs01, rfl, _⟩ := rd_list zs00.2
  clear zs00
  clear frs0
  clear qa00 qa01
  have qa00 := hsss.cellAt 0 rfl 0 rfl
  have qa01 := hsss.cellAt 0 rfl 1 rfl
  go_wp2_with fail
  refine (CS.out _ _ _ (Iv.rd Js0.out)).mono ?_
  rintro e w3 ⟨uW0, uW1, rfl, frW, hb3⟩
  have Js0' := Lib.hid (Iv.mono Js0.out hb3)
  clear Js0
  have hssss := hsss.step hb3
  have hz3 : w2.heap.size ≤ w3.heap.size := by simpa using hb3.size
  have JW := Lib.hid (Fresh.iv frW)
  have zW0 := rd_cons rfl (Iv.rd JW.out)
  obtain ⟨rfl, _⟩ := rd_i1 zW0.1
  obtain ⟨aW1, cW1, rfl, _⟩ := rd_list zW0.2
  clear zW0
  clear frW
  clear Js0'
  clear qa00 qa01
  have qa00 := hssss.cellAt 0 rfl 0 rfl
  have qa01 := hssss.cellAt 0 rfl 1 rfl
  have hssssa := hssss.alloc #[.int .i64 r0, .slice aW1 r1.length cW1] 34 rfl
  have JW' := Lib.hid (Iv.mono JW.out (belowA _ (.cells #[.int .i64 r0, .slice aW1 r1.length cW1] 34)))
  clear JW
  clear qa00 qa01
  have qa00 := hssssa.cellAt 0 rfl 0 rfl
  have qa01 := hssssa.cellAt 0 rfl 1 rfl
  have qw0 := hssssa.cellAt 1 rfl 0 rfl
  have qw1 := hssssa.cellAt 1 rfl 1 rfl
  go_wp2_with fail
  refine (toTemplate_b (x00, x01) _ _ _ (Rd.mono H0.out hssssa.bel) gc0).mono ?_
  rintro e w4 ⟨ux00, ux01, rfl, frx0, hb4⟩
  have JW'' := Lib.hid (Iv.mono JW'.out hb4)
  clear JW'
  have hssssas := hssssa.step hb4
  have hz4 : w3.heap.size + 1 ≤ w4.heap.size := by simpa using hb4.size
  have Jx0 := Lib.hid (Fresh.iv frx0)
  have zx00 := rd_cons rfl (Iv.rd Jx0.out)
  obtain ⟨rfl, _⟩ := rd_i1 zx00.1
  obtain ⟨ax01, cx01, rfl, _⟩ := rd_list zx00.2
  clear zx00
  clear frx0
  clear qa00 qa01 qw0 qw1
  have qa00 := hssssas.cellAt 0 rfl 0 rfl
  have qa01 := hssssas.cellAt 0 rfl 1 rfl
  have qw0 := hssssas.cellAt 1 rfl 0 rfl
  have qw1 := hssssas.cellAt 1 rfl 1 rfl
  have hssssasa := hssssas.alloc #[.int .i64 x00, .slice ax01 x01.length cx01] 26 rfl
  have JW''' := Lib.hid (Iv.mono JW''.out (belowA _ (.cells #[.int .i64 x00, .slice ax01 x01.length cx01] 26)))
  clear JW''
  have Jx0' := Lib.hid (Iv.mono Jx0.out (belowA _ (.cells #[.int .i64 x00, .slice ax01 x01.length cx01] 26)))
  clear Jx0
  clear qa00 qa01 qw0 qw1
  have qa00 := hssssasa.cellAt 0 rfl 0 rfl
  have qa01 := hssssasa.cellAt 0 rfl 1 rfl
  have qw0 := hssssasa.cellAt 1 rfl 0 rfl
  have qw1 := hssssasa.cellAt 1 rfl 1 rfl
  have qx00 := hssssasa.cellAt 2 rfl 0 rfl
  have qx01 := hssssasa.cellAt 2 rfl 1 rfl
  go_wp2_with fail
  refine (CI.out _ _ _ (Iv.rd Jx0'.out)).mono ?_
  rintro e w5 ⟨uG0, uG1, rfl, frG, hb5⟩
  have JW'''' := Lib.hid (Iv.mono JW'''.out hb5)
  clear JW'''
  have Jx0'' := Lib.hid (Iv.mono Jx0'.out hb5)
  clear Jx0'
  have hssssasas := hssssasa.step hb5
  have hz5 : w4.heap.size + 1 ≤ w5.heap.size := by simpa using hb5.size
  have JG := Lib.hid (Fresh.iv frG)
  have zG0 := rd_cons rfl (Iv.rd JG.out)
  obtain ⟨rfl, _⟩ := rd_i1 zG0.1
  obtain ⟨aG1, cG1, rfl, _⟩ := rd_list zG0.2
  clear zG0
  clear frG
  clear qa00 qa01 qw0 qw1 qx00 qx01
  have qa00 := hssssasas.cellAt 0 rfl 0 rfl
  have qa01 := hssssasas.cellAt 0 rfl 1 rfl
  have qw0 := hssssasas.cellAt 1 rfl 0 rfl
  have qw1 := hssssasas.cellAt 1 rfl 1 rfl
  have qx00 := hssssasas.cellAt 2 rfl 0 rfl
  have qx01 := hssssasas.cellAt 2 rfl 1 rfl
  have hssssasasa := hssssasas.alloc #[.int .i64 r0, .slice aG1 r1.length cG1] 34 rfl
  have JW''''' := Lib.hid (Iv.mono JW''''.out (belowA _ (.cells #[.int .i64 r0, .slice aG1 r1.length cG1] 34)))
  clear JW''''
  have Jx0''' := Lib.hid (Iv.mono Jx0''.out (belowA _ (.cells #[.int .i64 r0, .slice aG1 r1.length cG1] 34)))
  clear Jx0''
  have JG' := Lib.hid (Iv.mono JG.out (belowA _ (.cells #[.int .i64 r0, .slice aG1 r1.length cG1] 34)))
  clear JG
  clear qa00 qa01 qw0 qw1 qx00 qx01
  have qa00 := hssssasasa.cellAt 0 rfl 0 rfl
  have qa01 := hssssasasa.cellAt 0 rfl 1 rfl
  have qw0 := hssssasasa.cellAt 1 rfl 0 rfl
  have qw1 := hssssasasa.cellAt 1 rfl 1 rfl
  have qx00 := hssssasasa.cellAt 2 rfl 0 rfl
  have qx01 := hssssasasa.cellAt 2 rfl 1 rfl
  have qg0 := hssssasasa.cellAt 3 rfl 0 rfl
  have qg1 := hssssasasa.cellAt 3 rfl 1 rfl
  go_wp2_with fail
  refine (eqOp_s (r0, r1) _ _ _ _ _ (Iv.rd JG'.out) (Iv.rd JW'''''.out)).mono ?_
  rintro e w6 ⟨rfl, hb6⟩
  have JW'''''' := Lib.hid (Iv.mono JW'''''.out hb6)
  clear JW'''''
  have Jx0'''' := Lib.hid (Iv.mono Jx0'''.out hb6)
  clear Jx0'''
  have JG'' := Lib.hid (Iv.mono JG'.out hb6)
  clear JG'
  have hssssasasas := hssssasasa.step hb6
  have hz6 : w5.heap.size + 1 ≤ w6.heap.size := by simpa using hb6.size
  clear qa00 qa01 qw0 qw1 qx00 qx01 qg0 qg1
  have qa00 := hssssasasas.cellAt 0 rfl 0 rfl
  have qa01 := hssssasasas.cellAt 0 rfl 1 rfl
  have qw0 := hssssasasas.cellAt 1 rfl 0 rfl
  have qw1 := hssssasasas.cellAt 1 rfl 1 rfl
  have qx00 := hssssasasas.cellAt 2 rfl 0 rfl
  have qx01 := hssssasasas.cellAt 2 rfl 1 rfl
  have qg0 := hssssasasas.cellAt 3 rfl 0 rfl
  have qg1 := hssssasasas.cellAt 3 rfl 1 rfl
  have hcode : (code != code) = false := by simp
  have hidx : (idx != idx) = false := by simp
  go_wp2_with fail
  refine wp_region_noPanic (wp_region_el (fun w' => w'.cell? ⟨w.heap.size, 0, none⟩ = some (.int .i64 x00) ∧ w'.cell? ⟨w.heap.size, 1, none⟩ = some (.slice a01 x01.length c01) ∧ w'.cell? ⟨w3.heap.size, 0, none⟩ = some (.int .i64 r0) ∧ w'.cell? ⟨w3.heap.size, 1, none⟩ = some (.slice aW1 r1.length cW1) ∧ w'.cell? ⟨w4.heap.size, 0, none⟩ = some (.int .i64 x00) ∧ w'.cell? ⟨w4.heap.size, 1, none⟩ = some (.slice ax01 x01.length cx01) ∧ w'.cell? ⟨w5.heap.size, 0, none⟩ = some (.int .i64 r0) ∧ w'.cell? ⟨w5.heap.size, 1, none⟩ = some (.slice aG1 r1.length cG1)) [(0, 0), (1, 0), (2, 1), (3, 1), (4, 0)] (by kernel_rfl) (by kernel_rfl) (by kernel_rfl) rfl ?_ (fun _ _ _ _ _ h => h) ?_)
  · exact ⟨(hssssasasas.drew).cellAt 0 rfl 0 rfl, (hssssasasas.drew).cellAt 0 rfl 1 rfl, (hssssasasas.drew).cellAt 1 rfl 0 rfl, (hssssasasas.drew).cellAt 1 rfl 1 rfl, (hssssasasas.drew).cellAt 2 rfl 0 rfl, (hssssasasas.drew).cellAt 2 rfl 1 rfl, (hssssasasas.drew).cellAt 3 rfl 0 rfl, (hssssasasas.drew).cellAt 3 rfl 1 rfl⟩
  have JW''''''' := Lib.hid (Iv.mono JW''''''.out (belowD _))
  clear JW''''''
  have Jx0''''' := Lib.hid (Iv.mono Jx0''''.out (belowD _))
  clear Jx0''''
  have JG''' := Lib.hid (Iv.mono JG''.out (belowD _))
  clear JG''
  have hssssasasasd := hssssasasas.drew
  (repeat (first | (apply el_skip rfl (by rfl); try simp only [Act.put, List.setIfInBounds_toArray, List.set_cons_zero, List.set_cons_succ]) | (apply el_float rfl (by rfl); (· (intro w' hS; go_simp <;> with_reducible rfl)); (try simp only [Act.put, List.setIfInBounds_toArray, List.set_cons_zero, List.set_cons_succ]))))
  refine el_hard rfl (by rfl) (fun K hK => ?_)
  go_wp2_with (go_at_call 19; refine (toTemplate_b (x00, x01) _ _ _ (Rd.mono H0.out hssssasasasd.bel) gc0).mono ?_; rintro e w7 ⟨uy00, uy01, rfl, fry0, hb7⟩)
  have JW'''''''' := Lib.hid (Iv.mono JW'''''''.out hb7)
  clear JW'''''''
  have Jx0'''''' := Lib.hid (Iv.mono Jx0'''''.out hb7)
  clear Jx0'''''
  have JG'''' := Lib.hid (Iv.mono JG'''.out hb7)
  clear JG'''
  have hssssasasasds := hssssasasasd.step hb7
  have hz7 : w6.heap.size ≤ w7.heap.size := by simpa using hb7.size
  have Jy0 := Lib.hid (Fresh.iv fry0)
  have zy00 := rd_cons rfl (Iv.rd Jy0.out)
  obtain ⟨rfl, _⟩ := rd_i1 zy00.1
  obtain ⟨ay01, cy01, rfl, _⟩ := rd_list zy00.2
  clear zy00
  clear fry0
  refine ⟨⟨hssssasasasds.cellAt 0 rfl 0 rfl, hssssasasasds.cellAt 0 rfl 1 rfl, hssssasasasds.cellAt 1 rfl 0 rfl, hssssasasasds.cellAt 1 rfl 1 rfl, hssssasasasds.cellAt 2 rfl 0 rfl, hssssasasasds.cellAt 2 rfl 1 rfl, hssssasasasds.cellAt 3 rfl 0 rfl, hssssasasasds.cellAt 3 rfl 1 rfl⟩, ?_⟩
  (repeat (first | (apply el_skip rfl (by rfl); try simp only [Act.put, List.setIfInBounds_toArray, List.set_cons_zero, List.set_cons_succ]) | (apply el_float rfl (by rfl); (· (intro w' hS; go_simp <;> with_reducible rfl)); (try simp only [Act.put, List.setIfInBounds_toArray, List.set_cons_zero, List.set_cons_succ]))))
  refine el_hard rfl (by rfl) (fun K hK => ?_)
  go_wp2_with (go_at_call 22; refine (eqTemplate_s (x00, x01) _ _ _ _ _ (Iv.rd Jx0''''''.out) (Iv.rd Jy0.out)).mono ?_; rintro e w8 ⟨rfl, hb8⟩)
  clear Jy0
  have JW''''''''' := Lib.hid (Iv.mono JW''''''''.out hb8)
  clear JW''''''''
  have Jx0''''''' := Lib.hid (Iv.mono Jx0''''''.out hb8)
  clear Jx0''''''
  have JG''''' := Lib.hid (Iv.mono JG''''.out hb8)
  clear JG''''
  have hssssasasasdss := hssssasasasds.step hb8
  have hz8 : w7.heap.size ≤ w8.heap.size := by simpa using hb8.size
  refine ⟨⟨hssssasasasdss.cellAt 0 rfl 0 rfl, hssssasasasdss.cellAt 0 rfl 1 rfl, hssssasasasdss.cellAt 1 rfl 0 rfl, hssssasasasdss.cellAt 1 rfl 1 rfl, hssssasasasdss.cellAt 2 rfl 0 rfl, hssssasasasdss.cellAt 2 rfl 1 rfl, hssssasasasdss.cellAt 3 rfl 0 rfl, hssssasasasdss.cellAt 3 rfl 1 rfl⟩, ?_⟩
  (repeat (first | (apply el_skip rfl (by rfl); try simp only [Act.put, List.setIfInBounds_toArray, List.set_cons_zero, List.set_cons_succ]) | (apply el_float rfl (by rfl); (· (intro w' hS; go_simp <;> with_reducible rfl)); (try simp only [Act.put, List.setIfInBounds_toArray, List.set_cons_zero, List.set_cons_succ]))))
  refine el_nil (NoPanic.normal ?_)
  clear qa00 qa01 qw0 qw1 qx00 qx01 qg0 qg1
  have qa00 := hssssasasasdss.cellAt 0 rfl 0 rfl
  have qa01 := hssssasasasdss.cellAt 0 rfl 1 rfl
  have qw0 := hssssasasasdss.cellAt 1 rfl 0 rfl
  have qw1 := hssssasasasdss.cellAt 1 rfl 1 rfl
  have qx00 := hssssasasasdss.cellAt 2 rfl 0 rfl
  have qx01 := hssssasasasdss.cellAt 2 rfl 1 rfl
  have qg0 := hssssasasasdss.cellAt 3 rfl 0 rfl
  have qg1 := hssssasasasdss.cellAt 3 rfl 1 rfl
  have mcb0 := mcb_Template (x00, x01)
  obtain ⟨psx0, hox0, hnx0, hpx0⟩ := Jx0'''''''.out
  have HOx0 := Lib.hid hox0
  clear hox0
  clear Jx0'''''''
  go_wp2_with fail
  refine (markTemplate_g (x00, x01) _ _ psx0 1 _ HOx0.out hnx0 (by omega) (by omega)).mono ?_
  rintro e w9 ⟨yx0, mx0, rfl, l0x0, l1x0, hyx0, hhx0, hbutx0⟩
  have HYx0 := Lib.hid hyx0
  have HHx0 := Lib.hid hhx0
  clear hyx0 hhx0 HOx0
  have hqx0 : ∀ k, k ∈ psx0 → w3.heap.size + 1 ≤ k ∧ k < w4.heap.size := fun k hk => by have := hpx0 k hk; simpa using this
  have JW'''''''''' := Lib.hid (Iv.but JW'''''''''.out hbutx0 (fun k hk => by have := hqx0 k hk; simp; omega))
  clear JW'''''''''
  have JG'''''' := Lib.hid (Iv.but JG'''''.out hbutx0 (fun k hk => by have := hqx0 k hk; simp; omega))
  clear JG'''''
  have hssssasasasdssm := hssssasasasdss.butIv hbutx0 (fun k hk => by have := hqx0 k hk; omega) (fun x hx hp => by
    have := hqx0 _ hp
    simp only [List.mem_append, List.mem_cons, List.mem_nil_iff, or_false, List.not_mem_nil, false_or, or_assoc] at hx
    rcases hx with rfl | rfl | rfl | rfl <;> (simp only at this; omega))
  have hz9 : w8.heap.size ≤ w9.heap.size := by simpa using hbutx0.size
  clear qa00 qa01 qw0 qw1 qx00 qx01 qg0 qg1
  have qa00 := hssssasasasdssm.cellAt 0 rfl 0 rfl
  have qa01 := hssssasasasdssm.cellAt 0 rfl 1 rfl
  have qw0 := hssssasasasdssm.cellAt 1 rfl 0 rfl
  have qw1 := hssssasasasdssm.cellAt 1 rfl 1 rfl
  have qx00 := hssssasasasdssm.cellAt 2 rfl 0 rfl
  have qx01 := hssssasasasdssm.cellAt 2 rfl 1 rfl
  have qg0 := hssssasasasdssm.cellAt 3 rfl 0 rfl
  have qg1 := hssssasasasdssm.cellAt 3 rfl 1 rfl
  go_wp2_with fail
  refine (eqOp_s (r0, r1) _ _ _ _ _ (Iv.rd JG''''''.out) (Iv.rd JW''''''''''.out)).mono ?_
  rintro e w10 ⟨rfl, hb10⟩
  have JW''''''''''' := Lib.hid (Iv.mono JW''''''''''.out hb10)
  clear JW''''''''''
  have JG''''''' := Lib.hid (Iv.mono JG''''''.out hb10)
  clear JG''''''
  have hssssasasasdssms := hssssasasasdssm.step hb10
  have hz10 : w9.heap.size ≤ w10.heap.size := by simpa using hb10.size
  clear qa00 qa01 qw0 qw1 qx00 qx01 qg0 qg1
  have qa00 := hssssasasasdssms.cellAt 0 rfl 0 rfl
  have qa01 := hssssasasasdssms.cellAt 0 rfl 1 rfl
  have qw0 := hssssasasasdssms.cellAt 1 rfl 0 rfl
  have qw1 := hssssasasasdssms.cellAt 1 rfl 1 rfl
  have qx00 := hssssasasasdssms.cellAt 2 rfl 0 rfl
  have qx01 := hssssasasasdssms.cellAt 2 rfl 1 rfl
  have qg0 := hssssasasasdssms.cellAt 3 rfl 0 rfl
  have qg1 := hssssasasasdssms.cellAt 3 rfl 1 rfl
  obtain ⟨psG, hoG, hnG, hpG⟩ := JG'''''''.out
  have HOG := Lib.hid hoG
  clear hoG
  clear JG'''''''
  go_wp2_with fail
  refine (markOp_g (r0, r1) _ _ psG 1 _ HOG.out hnG (by omega) (by omega)).mono ?_
  rintro e w11 ⟨yG, mG, rfl, l0G, l1G, hyG, hhG, hbutG⟩
  have HYG := Lib.hid hyG
  have HHG := Lib.hid hhG
  clear hyG hhG HOG
  have hqG : ∀ k, k ∈ psG → w4.heap.size + 1 ≤ k ∧ k < w5.heap.size := fun k hk => by have := hpG k hk; simpa using this
  have JW'''''''''''' := Lib.hid (Iv.but JW'''''''''''.out hbutG (fun k hk => by have := hqG k hk; simp; omega))
  clear JW'''''''''''
  have hssssasasasdssmsm := hssssasasasdssms.butIv hbutG (fun k hk => by have := hqG k hk; omega) (fun x hx hp => by
    have := hqG _ hp
    simp only [List.mem_append, List.mem_cons, List.mem_nil_iff, or_false, List.not_mem_nil, false_or, or_assoc] at hx
    rcases hx with rfl | rfl | rfl | rfl <;> (simp only at this; omega))
  have hz11 : w10.heap.size ≤ w11.heap.size := by simpa using hbutG.size
  clear qa00 qa01 qw0 qw1 qx00 qx01 qg0 qg1
  have qa00 := hssssasasasdssmsm.cellAt 0 rfl 0 rfl
  have qa01 := hssssasasasdssmsm.cellAt 0 rfl 1 rfl
  have qw0 := hssssasasasdssmsm.cellAt 1 rfl 0 rfl
  have qw1 := hssssasasasdssmsm.cellAt 1 rfl 1 rfl
  have qx00 := hssssasasasdssmsm.cellAt 2 rfl 0 rfl
  have qx01 := hssssasasasdssmsm.cellAt 2 rfl 1 rfl
  have qg0 := hssssasasasdssmsm.cellAt 3 rfl 0 rfl
  have qg1 := hssssasasasdssmsm.cellAt 3 rfl 1 rfl
  have HYr12 := Lib.hid (Own.rd HYG.out)
  go_wp2_with fail
  refine (heldOp_g yG _ _ 1 mG _ HYr12.out HHG.out (by omega) (by omega) (by omega)).mono ?_
  rintro e w12 ⟨rfl, hb12⟩
  have HYG' := Lib.hid (Own.mono HYG.out hb12)
  clear HYG HYr12
  have HYG := HYG'
  clear HYG'
  have JW''''''''''''' := Lib.hid (Iv.mono JW''''''''''''.out hb12)
  clear JW''''''''''''
  have hssssasasasdssmsms := hssssasasasdssmsm.step hb12
  have hz12 : w11.heap.size ≤ w12.heap.size := by simpa using hb12.size
  clear qa00 qa01 qw0 qw1 qx00 qx01 qg0 qg1
  have qa00 := hssssasasasdssmsms.cellAt 0 rfl 0 rfl
  have qa01 := hssssasasasdssmsms.cellAt 0 rfl 1 rfl
  have qw0 := hssssasasasdssmsms.cellAt 1 rfl 0 rfl
  have qw1 := hssssasasasdssmsms.cellAt 1 rfl 1 rfl
  have qx00 := hssssasasasdssmsms.cellAt 2 rfl 0 rfl
  have qx01 := hssssasasasdssmsms.cellAt 2 rfl 1 rfl
  have qg0 := hssssasasasdssmsms.cellAt 3 rfl 0 rfl
  have qg1 := hssssasasasdssmsms.cellAt 3 rfl 1 rfl
  have hmm : (mG != mG) = false := by simp
  have hm0 : ¬ mG < 0 := by omega
  go_wp2_with fail
  refine (toTemplate_b (x00, x01) _ _ _ (Rd.mono H0.out hssssasasasdssmsms.bel) gc0).mono ?_
  rintro e w13 ⟨ut00, ut01, rfl, frt0, hb13⟩
  have JW'''''''''''''' := Lib.hid (Iv.mono JW'''''''''''''.out hb13)
  clear JW'''''''''''''
  have hssssasasasdssmsmss := hssssasasasdssmsms.step hb13
  have hz13 : w12.heap.size ≤ w13.heap.size := by simpa using hb13.size
  have Jt0 := Lib.hid (Fresh.iv frt0)
  have zt00 := rd_cons rfl (Iv.rd Jt0.out)
  obtain ⟨rfl, _⟩ := rd_i1 zt00.1
  obtain ⟨at01, ct01, rfl, _⟩ := rd_list zt00.2
  clear zt00
  clear frt0
  clear qa00 qa01 qw0 qw1 qx00 qx01 qg0 qg1
  have qa00 := hssssasasasdssmsmss.cellAt 0 rfl 0 rfl
  have qa01 := hssssasasasdssmsmss.cellAt 0 rfl 1 rfl
  have qw0 := hssssasasasdssmsmss.cellAt 1 rfl 0 rfl
  have qw1 := hssssasasasdssmsmss.cellAt 1 rfl 1 rfl
  have qx00 := hssssasasasdssmsmss.cellAt 2 rfl 0 rfl
  have qx01 := hssssasasasdssmsmss.cellAt 2 rfl 1 rfl
  have qg0 := hssssasasasdssmsmss.cellAt 3 rfl 0 rfl
  have qg1 := hssssasasasdssmsmss.cellAt 3 rfl 1 rfl
  have HYG' := Lib.hid (Own.mono HYG.out hb13)
  clear HYG
  have HYG := HYG'
  clear HYG'
  go_wp2_with fail
  refine (CI.out _ _ _ (Iv.rd Jt0.out)).mono ?_
  rintro e w14 ⟨uK0, uK1, rfl, frK, hb14⟩
  have JW''''''''''''''' := Lib.hid (Iv.mono JW''''''''''''''.out hb14)
  clear JW''''''''''''''
  have Jt0' := Lib.hid (Iv.mono Jt0.out hb14)
  clear Jt0
  have hssssasasasdssmsmsss := hssssasasasdssmsmss.step hb14
  have hz14 : w13.heap.size ≤ w14.heap.size := by simpa using hb14.size
  have JK := Lib.hid (Fresh.iv frK)
  have zK0 := rd_cons rfl (Iv.rd JK.out)
  obtain ⟨rfl, _⟩ := rd_i1 zK0.1
  obtain ⟨aK1, cK1, rfl, _⟩ := rd_list zK0.2
  clear zK0
  clear frK
  have HYG' := Lib.hid (Own.mono HYG.out hb14)
  clear HYG
  have HYG := HYG'
  clear HYG'
  clear Jt0'
  clear qa00 qa01 qw0 qw1 qx00 qx01 qg0 qg1
  have qa00 := hssssasasasdssmsmsss.cellAt 0 rfl 0 rfl
  have qa01 := hssssasasasdssmsmsss.cellAt 0 rfl 1 rfl
  have qw0 := hssssasasasdssmsmsss.cellAt 1 rfl 0 rfl
  have qw1 := hssssasasasdssmsmsss.cellAt 1 rfl 1 rfl
  have qx00 := hssssasasasdssmsmsss.cellAt 2 rfl 0 rfl
  have qx01 := hssssasasasdssmsmsss.cellAt 2 rfl 1 rfl
  have qg0 := hssssasasasdssmsmsss.cellAt 3 rfl 0 rfl
  have qg1 := hssssasasasdssmsmsss.cellAt 3 rfl 1 rfl
  have hssssasasasdssmsmsssa := hssssasasasdssmsmsss.alloc #[.int .i64 r0, .slice aK1 r1.length cK1] 34 rfl
  have JW'''''''''''''''' := Lib.hid (Iv.mono JW'''''''''''''''.out (belowA _ (.cells #[.int .i64 r0, .slice aK1 r1.length cK1] 34)))
  clear JW'''''''''''''''
  have JK' := Lib.hid (Iv.mono JK.out (belowA _ (.cells #[.int .i64 r0, .slice aK1 r1.length cK1] 34)))
  clear JK
  clear qa00 qa01 qw0 qw1 qx00 qx01 qg0 qg1
  have qa00 := hssssasasasdssmsmsssa.cellAt 0 rfl 0 rfl
  have qa01 := hssssasasasdssmsmsssa.cellAt 0 rfl 1 rfl
  have qw0 := hssssasasasdssmsmsssa.cellAt 1 rfl 0 rfl
  have qw1 := hssssasasasdssmsmsssa.cellAt 1 rfl 1 rfl
  have qx00 := hssssasasasdssmsmsssa.cellAt 2 rfl 0 rfl
  have qx01 := hssssasasasdssmsmsssa.cellAt 2 rfl 1 rfl
  have qg0 := hssssasasasdssmsmsssa.cellAt 3 rfl 0 rfl
  have qg1 := hssssasasasdssmsmsssa.cellAt 3 rfl 1 rfl
  have qh0 := hssssasasasdssmsmsssa.cellAt 4 rfl 0 rfl
  have qh1 := hssssasasasdssmsmsssa.cellAt 4 rfl 1 rfl
  have HYG' := Lib.hid (Own.mono HYG.out (belowA _ (.cells #[.int .i64 r0, .slice aK1 r1.length cK1] 34)))
  clear HYG
  have HYG := HYG'
  clear HYG'
  go_wp2_with fail
  refine (eqOp_s (r0, r1) _ _ _ _ _ (Iv.rd JK'.out) (Iv.rd JW''''''''''''''''.out)).mono ?_
  rintro e w15 ⟨rfl, hb15⟩
  have JW''''''''''''''''' := Lib.hid (Iv.mono JW''''''''''''''''.out hb15)
  clear JW''''''''''''''''
  have JK'' := Lib.hid (Iv.mono JK'.out hb15)
  clear JK'
  have hssssasasasdssmsmsssas := hssssasasasdssmsmsssa.step hb15
  have hz15 : w14.heap.size + 1 ≤ w15.heap.size := by simpa using hb15.size
  clear qa00 qa01 qw0 qw1 qx00 qx01 qg0 qg1 qh0 qh1
  have qa00 := hssssasasasdssmsmsssas.cellAt 0 rfl 0 rfl
  have qa01 := hssssasasasdssmsmsssas.cellAt 0 rfl 1 rfl
  have qw0 := hssssasasasdssmsmsssas.cellAt 1 rfl 0 rfl
  have qw1 := hssssasasasdssmsmsssas.cellAt 1 rfl 1 rfl
  have qx00 := hssssasasasdssmsmsssas.cellAt 2 rfl 0 rfl
  have qx01 := hssssasasasdssmsmsssas.cellAt 2 rfl 1 rfl
  have qg0 := hssssasasasdssmsmsssas.cellAt 3 rfl 0 rfl
  have qg1 := hssssasasasdssmsmsssas.cellAt 3 rfl 1 rfl
  have qh0 := hssssasasasdssmsmsssas.cellAt 4 rfl 0 rfl
  have qh1 := hssssasasasdssmsmsssas.cellAt 4 rfl 1 rfl
  have HYG' := Lib.hid (Own.mono HYG.out hb15)
  clear HYG
  have HYG := HYG'
  clear HYG'
  have HYr16 := Lib.hid (Own.rd HYG.out)
  go_wp2_with fail
  refine (heldOp_g yG _ _ 1 mG _ HYr16.out HHG.out (by omega) (by omega) (by omega)).mono ?_
  rintro e w16 ⟨rfl, hb16⟩
  have HYG' := Lib.hid (Own.mono HYG.out hb16)
  clear HYG HYr16
  have HYG := HYG'
  clear HYG'
  have JW'''''''''''''''''' := Lib.hid (Iv.mono JW'''''''''''''''''.out hb16)
  clear JW'''''''''''''''''
  have JK''' := Lib.hid (Iv.mono JK''.out hb16)
  clear JK''
  have hssssasasasdssmsmsssass := hssssasasasdssmsmsssas.step hb16
  have hz16 : w15.heap.size ≤ w16.heap.size := by simpa using hb16.size
  clear qa00 qa01 qw0 qw1 qx00 qx01 qg0 qg1 qh0 qh1
  have qa00 := hssssasasasdssmsmsssass.cellAt 0 rfl 0 rfl
  have qa01 := hssssasasasdssmsmsssass.cellAt 0 rfl 1 rfl
  have qw0 := hssssasasasdssmsmsssass.cellAt 1 rfl 0 rfl
  have qw1 := hssssasasasdssmsmsssass.cellAt 1 rfl 1 rfl
  have qx00 := hssssasasasdssmsmsssass.cellAt 2 rfl 0 rfl
  have qx01 := hssssasasasdssmsmsssass.cellAt 2 rfl 1 rfl
  have qg0 := hssssasasasdssmsmsssass.cellAt 3 rfl 0 rfl
  have qg1 := hssssasasasdssmsmsssass.cellAt 3 rfl 1 rfl
  have qh0 := hssssasasasdssmsmsssass.cellAt 4 rfl 0 rfl
  have qh1 := hssssasasasdssmsmsssass.cellAt 4 rfl 1 rfl
  go_wp2_with fail
  go_ret
  exact ⟨rfl, hssssasasasdssmsmsssass.bel⟩

end Go.Proofs.YtllenfkbfeanmaaGreat

