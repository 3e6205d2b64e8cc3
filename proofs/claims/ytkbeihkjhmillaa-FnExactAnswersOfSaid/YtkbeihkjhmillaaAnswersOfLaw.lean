/-
  THE LAW FnExactAnswersOf, WALKED. (Printed by wip/genlawm.py.)
-/
import Derived.Test.YtkbeihkjhmillaaKinds
import Derived.Test.YtkbeihkjhmillaaAnswersT
namespace Go.Proofs.Ytkbeihkjhmillaa
open Go.RowKit Go.Shelf
open Rep (Rd Own sz)
set_option linter.unusedSimpArgs false
set_option linter.unusedVariables false

set_option maxRecDepth 100000 in
set_option maxHeartbeats 4000000 in
theorem FnExactAnswersOf_c (x0 : Sys) (v00 v01 v02 : Value) (w : World) (h0 : Rd w [v00, v01, v02] x0) :
    Calls Try.prog 14 #[.agg #[v00, v01, v02]] w fun e w' => e = .returned (.bool true) ∧ Below w.heap.size w w' := by
  have hsm : mc_Int64SS (answersF x0).1 ≤ 100000000 := answersF_small x0
  have cS := fun a00 a01 a02 W h0 => sAnswersOf_c x0 a00 a01 a02 W h0
  have cI := fun a00 a01 a02 W h0 => AnswersOf_c x0 a00 a01 a02 W h0
  generalize answersF x0 = R at cS cI hsm
  obtain ⟨r0, code⟩ := R
  have CS := Lib.hid cS
  have CI := Lib.hid cI
  clear cS cI
  obtain ⟨x00, x01, x02⟩ := x0
  have z00 := rd_cons rfl h0
  obtain ⟨rfl, _⟩ := rd_i1 z00.1
  have z01 := rd_cons rfl z00.2
  obtain ⟨rfl, _⟩ := rd_i1 z01.1
  obtain ⟨a02, c02, rfl, _⟩ := rd_list z01.2
  clear z00 z01
  have H0 := Lib.hid h0
  clear h0
  have hs := (St.start w).alloc #[.int .i64 x00, .int .i64 x01, .slice a02 x02.length c02] 24 rfl
  go_enter Try.func14, Try.ntmps14
  go_wp2_with fail
  refine (szSystem_b (x00, x01, x02) _ _ _ (1048576) _ (Rd.mono H0.out hs.bel) (by omega) (by omega)).mono ?_
  rintro e w1 ⟨rfl, hb1⟩
  have hss := hs.step hb1
  have hz1 : w.heap.size + 1 ≤ w1.heap.size := by simpa using hb1.size
  rcases less_cases (1048576) (cost_System (x00, x01, x02)) with ⟨e1, g0⟩ | ⟨e1, g0⟩
  · rw [e1]
    clear e1
    go_wp2_with fail
    go_ret
    exact ⟨rfl, hss.bel⟩
  rw [e1]
  clear e1
  have qa00 := hss.cellAt 0 rfl 0 rfl
  have qa01 := hss.cellAt 0 rfl 1 rfl
  have qa02 := hss.cellAt 0 rfl 2 rfl
  have gc0 : cost_System (x00, x01, x02) ≤ 1048576 := by omega
  go_wp2_with fail
  refine (toSystem_b (x00, x01, x02) _ _ _ _ (Rd.mono H0.out hss.bel) gc0).mono ?_
  rintro e w2 ⟨us00, us01, us02, rfl, frs0, hb2⟩
  have hsss := hss.step hb2
  have hz2 : w1.heap.size ≤ w2.heap.size := by simpa using hb2.size
  have Js0 := Lib.hid (Fresh.iv frs0)
  have zs00 := rd_cons rfl (Iv.rd Js0.out)
  obtain ⟨rfl, _⟩ := rd_i1 zs00.1
  have zs01 := rd_cons rfl zs00.2
  obtain ⟨rfl, _⟩ := rd_i1 zs01.1
  obtain ⟨as02, cs02, rfl, _⟩ := rd_list zs01.2
  clear zs00 zs01
  clear frs0
  clear qa00 qa01 qa02
  have qa00 := hsss.cellAt 0 rfl 0 rfl
  have qa01 := hsss.cellAt 0 rfl 1 rfl
  have qa02 := hsss.cellAt 0 rfl 2 rfl
  go_wp2_with fail
  refine (CS.out _ _ _ _ (Iv.rd Js0.out)).mono ?_
  rintro e w3 ⟨uW0, rfl, frW, hb3⟩
  have Js0' := Lib.hid (Iv.mono Js0.out hb3)
  clear Js0
  have hssss := hsss.step hb3
  have hz3 : w2.heap.size ≤ w3.heap.size := by simpa using hb3.size
  have JW := Lib.hid (Fresh.iv frW)
  obtain ⟨aW, cW, rfl, _⟩ := rd_list (Iv.rd JW.out)
  clear frW
  clear Js0'
  clear qa00 qa01 qa02
  have qa00 := hssss.cellAt 0 rfl 0 rfl
  have qa01 := hssss.cellAt 0 rfl 1 rfl
  have qa02 := hssss.cellAt 0 rfl 2 rfl
  go_wp2_with fail
  refine (toSystem_b (x00, x01, x02) _ _ _ _ (Rd.mono H0.out hssss.bel) gc0).mono ?_
  rintro e w4 ⟨ux00, ux01, ux02, rfl, frx0, hb4⟩
  have JW' := Lib.hid (Iv.mono JW.out hb4)
  clear JW
  have hsssss := hssss.step hb4
  have hz4 : w3.heap.size ≤ w4.heap.size := by simpa using hb4.size
  have Jx0 := Lib.hid (Fresh.iv frx0)
  have zx00 := rd_cons rfl (Iv.rd Jx0.out)
  obtain ⟨rfl, _⟩ := rd_i1 zx00.1
  have zx01 := rd_cons rfl zx00.2
  obtain ⟨rfl, _⟩ := rd_i1 zx01.1
  obtain ⟨ax02, cx02, rfl, _⟩ := rd_list zx01.2
  clear zx00 zx01
  clear frx0
  clear qa00 qa01 qa02
  have qa00 := hsssss.cellAt 0 rfl 0 rfl
  have qa01 := hsssss.cellAt 0 rfl 1 rfl
  have qa02 := hsssss.cellAt 0 rfl 2 rfl
  have hsssssa := hsssss.alloc #[.int .i64 x00, .int .i64 x01, .slice ax02 x02.length cx02] 31 rfl
  have JW'' := Lib.hid (Iv.mono JW'.out (belowA _ (.cells #[.int .i64 x00, .int .i64 x01, .slice ax02 x02.length cx02] 31)))
  clear JW'
  have Jx0' := Lib.hid (Iv.mono Jx0.out (belowA _ (.cells #[.int .i64 x00, .int .i64 x01, .slice ax02 x02.length cx02] 31)))
  clear Jx0
  clear qa00 qa01 qa02
  have qa00 := hsssssa.cellAt 0 rfl 0 rfl
  have qa01 := hsssssa.cellAt 0 rfl 1 rfl
  have qa02 := hsssssa.cellAt 0 rfl 2 rfl
  have qx00 := hsssssa.cellAt 1 rfl 0 rfl
  have qx01 := hsssssa.cellAt 1 rfl 1 rfl
  have qx02 := hsssssa.cellAt 1 rfl 2 rfl
  go_wp2_with fail
  refine (CI.out _ _ _ _ (Iv.rd Jx0'.out)).mono ?_
  rintro e w5 ⟨uG0, rfl, frG, hb5⟩
  have JW''' := Lib.hid (Iv.mono JW''.out hb5)
  clear JW''
  have Jx0'' := Lib.hid (Iv.mono Jx0'.out hb5)
  clear Jx0'
  have hsssssas := hsssssa.step hb5
  have hz5 : w4.heap.size + 1 ≤ w5.heap.size := by simpa using hb5.size
  have JG := Lib.hid (Fresh.iv frG)
  obtain ⟨aG, cG, rfl, _⟩ := rd_list (Iv.rd JG.out)
  clear frG
  clear qa00 qa01 qa02 qx00 qx01 qx02
  have qa00 := hsssssas.cellAt 0 rfl 0 rfl
  have qa01 := hsssssas.cellAt 0 rfl 1 rfl
  have qa02 := hsssssas.cellAt 0 rfl 2 rfl
  have qx00 := hsssssas.cellAt 1 rfl 0 rfl
  have qx01 := hsssssas.cellAt 1 rfl 1 rfl
  have qx02 := hsssssas.cellAt 1 rfl 2 rfl
  go_wp2_with fail
  refine (eqInt64SS_s r0 _ _ _ (Iv.rd JG.out) (Iv.rd JW'''.out)).mono ?_
  rintro e w6 ⟨rfl, hb6⟩
  have JW'''' := Lib.hid (Iv.mono JW'''.out hb6)
  clear JW'''
  have Jx0''' := Lib.hid (Iv.mono Jx0''.out hb6)
  clear Jx0''
  have JG' := Lib.hid (Iv.mono JG.out hb6)
  clear JG
  have hsssssass := hsssssas.step hb6
  have hz6 : w5.heap.size ≤ w6.heap.size := by simpa using hb6.size
  clear qa00 qa01 qa02 qx00 qx01 qx02
  have qa00 := hsssssass.cellAt 0 rfl 0 rfl
  have qa01 := hsssssass.cellAt 0 rfl 1 rfl
  have qa02 := hsssssass.cellAt 0 rfl 2 rfl
  have qx00 := hsssssass.cellAt 1 rfl 0 rfl
  have qx01 := hsssssass.cellAt 1 rfl 1 rfl
  have qx02 := hsssssass.cellAt 1 rfl 2 rfl
  have hcode : (code != code) = false := by simp
  go_wp2_with fail
  refine wp_region_noPanic (wp_region_el (fun w' => w'.cell? ⟨w.heap.size, 0, none⟩ = some (.int .i64 x00) ∧ w'.cell? ⟨w.heap.size, 1, none⟩ = some (.int .i64 x01) ∧ w'.cell? ⟨w.heap.size, 2, none⟩ = some (.slice a02 x02.length c02) ∧ w'.cell? ⟨w4.heap.size, 0, none⟩ = some (.int .i64 x00) ∧ w'.cell? ⟨w4.heap.size, 1, none⟩ = some (.int .i64 x01) ∧ w'.cell? ⟨w4.heap.size, 2, none⟩ = some (.slice ax02 x02.length cx02)) [(0, 0), (1, 0), (2, 1), (3, 1), (4, 0)] (by kernel_rfl) (by kernel_rfl) (by kernel_rfl) rfl ?_ (fun _ _ _ _ _ h => h) ?_)
  · exact ⟨(hsssssass.drew).cellAt 0 rfl 0 rfl, (hsssssass.drew).cellAt 0 rfl 1 rfl, (hsssssass.drew).cellAt 0 rfl 2 rfl, (hsssssass.drew).cellAt 1 rfl 0 rfl, (hsssssass.drew).cellAt 1 rfl 1 rfl, (hsssssass.drew).cellAt 1 rfl 2 rfl⟩
  have JW''''' := Lib.hid (Iv.mono JW''''.out (belowD _))
  clear JW''''
  have Jx0'''' := Lib.hid (Iv.mono Jx0'''.out (belowD _))
  clear Jx0'''
  have JG'' := Lib.hid (Iv.mono JG'.out (belowD _))
  clear JG'
  have hsssssassd := hsssssass.drew
  (repeat (first | (apply el_skip rfl (by rfl); try simp only [Act.put, List.setIfInBounds_toArray, List.set_cons_zero, List.set_cons_succ]) | (apply el_float rfl (by rfl); (· (intro w' hS; go_simp <;> with_reducible rfl)); (try simp only [Act.put, List.setIfInBounds_toArray, List.set_cons_zero, List.set_cons_succ]))))
  refine el_hard rfl (by rfl) (fun K hK => ?_)
  go_wp2_with (go_at_call 17; refine (toSystem_b (x00, x01, x02) _ _ _ _ (Rd.mono H0.out hsssssassd.bel) gc0).mono ?_; rintro e w7 ⟨uy00, uy01, uy02, rfl, fry0, hb7⟩)
  have JW'''''' := Lib.hid (Iv.mono JW'''''.out hb7)
  clear JW'''''
  have Jx0''''' := Lib.hid (Iv.mono Jx0''''.out hb7)
  clear Jx0''''
  have JG''' := Lib.hid (Iv.mono JG''.out hb7)
  clear JG''
  have hsssssassds := hsssssassd.step hb7
  have hz7 : w6.heap.size ≤ w7.heap.size := by simpa using hb7.size
  have Jy0 := Lib.hid (Fresh.iv fry0)
  have zy00 := rd_cons rfl (Iv.rd Jy0.out)
  obtain ⟨rfl, _⟩ := rd_i1 zy00.1
  have zy01 := rd_cons rfl zy00.2
  obtain ⟨rfl, _⟩ := rd_i1 zy01.1
  obtain ⟨ay02, cy02, rfl, _⟩ := rd_list zy01.2
  clear zy00 zy01
  clear fry0
  refine ⟨⟨hsssssassds.cellAt 0 rfl 0 rfl, hsssssassds.cellAt 0 rfl 1 rfl, hsssssassds.cellAt 0 rfl 2 rfl, hsssssassds.cellAt 1 rfl 0 rfl, hsssssassds.cellAt 1 rfl 1 rfl, hsssssassds.cellAt 1 rfl 2 rfl⟩, ?_⟩
  (repeat (first | (apply el_skip rfl (by rfl); try simp only [Act.put, List.setIfInBounds_toArray, List.set_cons_zero, List.set_cons_succ]) | (apply el_float rfl (by rfl); (· (intro w' hS; go_simp <;> with_reducible rfl)); (try simp only [Act.put, List.setIfInBounds_toArray, List.set_cons_zero, List.set_cons_succ]))))
  refine el_hard rfl (by rfl) (fun K hK => ?_)
  go_wp2_with (go_at_call 20; refine (eqSystem_s (x00, x01, x02) _ _ _ _ _ _ _ (Iv.rd Jx0'''''.out) (Iv.rd Jy0.out)).mono ?_; rintro e w8 ⟨rfl, hb8⟩)
  clear Jy0
  have JW''''''' := Lib.hid (Iv.mono JW''''''.out hb8)
  clear JW''''''
  have Jx0'''''' := Lib.hid (Iv.mono Jx0'''''.out hb8)
  clear Jx0'''''
  have JG'''' := Lib.hid (Iv.mono JG'''.out hb8)
  clear JG'''
  have hsssssassdss := hsssssassds.step hb8
  have hz8 : w7.heap.size ≤ w8.heap.size := by simpa using hb8.size
  refine ⟨⟨hsssssassdss.cellAt 0 rfl 0 rfl, hsssssassdss.cellAt 0 rfl 1 rfl, hsssssassdss.cellAt 0 rfl 2 rfl, hsssssassdss.cellAt 1 rfl 0 rfl, hsssssassdss.cellAt 1 rfl 1 rfl, hsssssassdss.cellAt 1 rfl 2 rfl⟩, ?_⟩
  (repeat (first | (apply el_skip rfl (by rfl); try simp only [Act.put, List.setIfInBounds_toArray, List.set_cons_zero, List.set_cons_succ]) | (apply el_float rfl (by rfl); (· (intro w' hS; go_simp <;> with_reducible rfl)); (try simp only [Act.put, List.setIfInBounds_toArray, List.set_cons_zero, List.set_cons_succ]))))
  refine el_nil (NoPanic.normal ?_)
  clear qa00 qa01 qa02 qx00 qx01 qx02
  have qa00 := hsssssassdss.cellAt 0 rfl 0 rfl
  have qa01 := hsssssassdss.cellAt 0 rfl 1 rfl
  have qa02 := hsssssassdss.cellAt 0 rfl 2 rfl
  have qx00 := hsssssassdss.cellAt 1 rfl 0 rfl
  have qx01 := hsssssassdss.cellAt 1 rfl 1 rfl
  have qx02 := hsssssassdss.cellAt 1 rfl 2 rfl
  have mcb0 : mc_System (x00, x01, x02) ≤ 1048576 := by rw [mc_cost_System]; exact gc0
  obtain ⟨psx0, hox0, hnx0, hpx0⟩ := Jx0''''''.out
  have HOx0 := Lib.hid hox0
  clear hox0
  clear Jx0''''''
  go_wp2_with fail
  refine (markSystem_g (x00, x01, x02) _ _ _ psx0 1 _ HOx0.out hnx0 (by omega) (by omega)).mono ?_
  rintro e w9 ⟨yx0, mx0, rfl, l0x0, l1x0, hyx0, hhx0, hbutx0⟩
  have HYx0 := Lib.hid hyx0
  have HHx0 := Lib.hid hhx0
  clear hyx0 hhx0 HOx0
  have hqx0 : ∀ k, k ∈ psx0 → w3.heap.size ≤ k ∧ k < w4.heap.size := fun k hk => by have := hpx0 k hk; simpa using this
  have JW'''''''' := Lib.hid (Iv.but JW'''''''.out hbutx0 (fun k hk => by have := hqx0 k hk; simp; omega))
  clear JW'''''''
  have JG''''' := Lib.hid (Iv.but JG''''.out hbutx0 (fun k hk => by have := hqx0 k hk; simp; omega))
  clear JG''''
  have hsssssassdssm := hsssssassdss.butIv hbutx0 (fun k hk => by have := hqx0 k hk; omega) (fun x hx hp => by
    have := hqx0 _ hp
    simp only [List.mem_append, List.mem_cons, List.mem_nil_iff, or_false, List.not_mem_nil, false_or, or_assoc] at hx
    rcases hx with rfl | rfl <;> (simp only at this; omega))
  have hz9 : w8.heap.size ≤ w9.heap.size := by simpa using hbutx0.size
  clear qa00 qa01 qa02 qx00 qx01 qx02
  have qa00 := hsssssassdssm.cellAt 0 rfl 0 rfl
  have qa01 := hsssssassdssm.cellAt 0 rfl 1 rfl
  have qa02 := hsssssassdssm.cellAt 0 rfl 2 rfl
  have qx00 := hsssssassdssm.cellAt 1 rfl 0 rfl
  have qx01 := hsssssassdssm.cellAt 1 rfl 1 rfl
  have qx02 := hsssssassdssm.cellAt 1 rfl 2 rfl
  go_wp2_with fail
  refine (eqInt64SS_s r0 _ _ _ (Iv.rd JG'''''.out) (Iv.rd JW''''''''.out)).mono ?_
  rintro e w10 ⟨rfl, hb10⟩
  have JW''''''''' := Lib.hid (Iv.mono JW''''''''.out hb10)
  clear JW''''''''
  have JG'''''' := Lib.hid (Iv.mono JG'''''.out hb10)
  clear JG'''''
  have hsssssassdssms := hsssssassdssm.step hb10
  have hz10 : w9.heap.size ≤ w10.heap.size := by simpa using hb10.size
  clear qa00 qa01 qa02 qx00 qx01 qx02
  have qa00 := hsssssassdssms.cellAt 0 rfl 0 rfl
  have qa01 := hsssssassdssms.cellAt 0 rfl 1 rfl
  have qa02 := hsssssassdssms.cellAt 0 rfl 2 rfl
  have qx00 := hsssssassdssms.cellAt 1 rfl 0 rfl
  have qx01 := hsssssassdssms.cellAt 1 rfl 1 rfl
  have qx02 := hsssssassdssms.cellAt 1 rfl 2 rfl
  obtain ⟨psG, hoG, hnG, hpG⟩ := JG''''''.out
  have HOG := Lib.hid hoG
  clear hoG
  clear JG''''''
  go_wp2_with fail
  refine (markInt64SS_g r0 _ psG 1 _ HOG.out hnG (by omega) (by omega)).mono ?_
  rintro e w11 ⟨yG, mG, rfl, l0G, l1G, hyG, hhG, hbutG⟩
  have HYG := Lib.hid hyG
  have HHG := Lib.hid hhG
  clear hyG hhG HOG
  have hqG : ∀ k, k ∈ psG → w4.heap.size + 1 ≤ k ∧ k < w5.heap.size := fun k hk => by have := hpG k hk; simpa using this
  have JW'''''''''' := Lib.hid (Iv.but JW'''''''''.out hbutG (fun k hk => by have := hqG k hk; simp; omega))
  clear JW'''''''''
  have hsssssassdssmsm := hsssssassdssms.butIv hbutG (fun k hk => by have := hqG k hk; omega) (fun x hx hp => by
    have := hqG _ hp
    simp only [List.mem_append, List.mem_cons, List.mem_nil_iff, or_false, List.not_mem_nil, false_or, or_assoc] at hx
    rcases hx with rfl | rfl <;> (simp only at this; omega))
  have hz11 : w10.heap.size ≤ w11.heap.size := by simpa using hbutG.size
  clear qa00 qa01 qa02 qx00 qx01 qx02
  have qa00 := hsssssassdssmsm.cellAt 0 rfl 0 rfl
  have qa01 := hsssssassdssmsm.cellAt 0 rfl 1 rfl
  have qa02 := hsssssassdssmsm.cellAt 0 rfl 2 rfl
  have qx00 := hsssssassdssmsm.cellAt 1 rfl 0 rfl
  have qx01 := hsssssassdssmsm.cellAt 1 rfl 1 rfl
  have qx02 := hsssssassdssmsm.cellAt 1 rfl 2 rfl
  have HYr12 := Lib.hid (Own.rd HYG.out)
  go_wp2_with fail
  refine (heldInt64SS_g yG _ 1 mG _ HYr12.out HHG.out (by omega) (by omega) (by omega)).mono ?_
  rintro e w12 ⟨rfl, hb12⟩
  have HYG' := Lib.hid (Own.mono HYG.out hb12)
  clear HYG HYr12
  have HYG := HYG'
  clear HYG'
  have JW''''''''''' := Lib.hid (Iv.mono JW''''''''''.out hb12)
  clear JW''''''''''
  have hsssssassdssmsms := hsssssassdssmsm.step hb12
  have hz12 : w11.heap.size ≤ w12.heap.size := by simpa using hb12.size
  clear qa00 qa01 qa02 qx00 qx01 qx02
  have qa00 := hsssssassdssmsms.cellAt 0 rfl 0 rfl
  have qa01 := hsssssassdssmsms.cellAt 0 rfl 1 rfl
  have qa02 := hsssssassdssmsms.cellAt 0 rfl 2 rfl
  have qx00 := hsssssassdssmsms.cellAt 1 rfl 0 rfl
  have qx01 := hsssssassdssmsms.cellAt 1 rfl 1 rfl
  have qx02 := hsssssassdssmsms.cellAt 1 rfl 2 rfl
  have hmm : (mG != mG) = false := by simp
  have hm0 : ¬ mG < 0 := by omega
  go_wp2_with fail
  refine (toSystem_b (x00, x01, x02) _ _ _ _ (Rd.mono H0.out hsssssassdssmsms.bel) gc0).mono ?_
  rintro e w13 ⟨ut00, ut01, ut02, rfl, frt0, hb13⟩
  have JW'''''''''''' := Lib.hid (Iv.mono JW'''''''''''.out hb13)
  clear JW'''''''''''
  have hsssssassdssmsmss := hsssssassdssmsms.step hb13
  have hz13 : w12.heap.size ≤ w13.heap.size := by simpa using hb13.size
  have Jt0 := Lib.hid (Fresh.iv frt0)
  have zt00 := rd_cons rfl (Iv.rd Jt0.out)
  obtain ⟨rfl, _⟩ := rd_i1 zt00.1
  have zt01 := rd_cons rfl zt00.2
  obtain ⟨rfl, _⟩ := rd_i1 zt01.1
  obtain ⟨at02, ct02, rfl, _⟩ := rd_list zt01.2
  clear zt00 zt01
  clear frt0
  clear qa00 qa01 qa02 qx00 qx01 qx02
  have qa00 := hsssssassdssmsmss.cellAt 0 rfl 0 rfl
  have qa01 := hsssssassdssmsmss.cellAt 0 rfl 1 rfl
  have qa02 := hsssssassdssmsmss.cellAt 0 rfl 2 rfl
  have qx00 := hsssssassdssmsmss.cellAt 1 rfl 0 rfl
  have qx01 := hsssssassdssmsmss.cellAt 1 rfl 1 rfl
  have qx02 := hsssssassdssmsmss.cellAt 1 rfl 2 rfl
  have HYG' := Lib.hid (Own.mono HYG.out hb13)
  clear HYG
  have HYG := HYG'
  clear HYG'
  go_wp2_with fail
  refine (CI.out _ _ _ _ (Iv.rd Jt0.out)).mono ?_
  rintro e w14 ⟨uK0, rfl, frK, hb14⟩
  have JW''''''''''''' := Lib.hid (Iv.mono JW''''''''''''.out hb14)
  clear JW''''''''''''
  have Jt0' := Lib.hid (Iv.mono Jt0.out hb14)
  clear Jt0
  have hsssssassdssmsmsss := hsssssassdssmsmss.step hb14
  have hz14 : w13.heap.size ≤ w14.heap.size := by simpa using hb14.size
  have JK := Lib.hid (Fresh.iv frK)
  obtain ⟨aK, cK, rfl, _⟩ := rd_list (Iv.rd JK.out)
  clear frK
  have HYG' := Lib.hid (Own.mono HYG.out hb14)
  clear HYG
  have HYG := HYG'
  clear HYG'
  clear Jt0'
  clear qa00 qa01 qa02 qx00 qx01 qx02
  have qa00 := hsssssassdssmsmsss.cellAt 0 rfl 0 rfl
  have qa01 := hsssssassdssmsmsss.cellAt 0 rfl 1 rfl
  have qa02 := hsssssassdssmsmsss.cellAt 0 rfl 2 rfl
  have qx00 := hsssssassdssmsmsss.cellAt 1 rfl 0 rfl
  have qx01 := hsssssassdssmsmsss.cellAt 1 rfl 1 rfl
  have qx02 := hsssssassdssmsmsss.cellAt 1 rfl 2 rfl
  go_wp2_with fail
  refine (eqInt64SS_s r0 _ _ _ (Iv.rd JK.out) (Iv.rd JW'''''''''''''.out)).mono ?_
  rintro e w15 ⟨rfl, hb15⟩
  have JW'''''''''''''' := Lib.hid (Iv.mono JW'''''''''''''.out hb15)
  clear JW'''''''''''''
  have JK' := Lib.hid (Iv.mono JK.out hb15)
  clear JK
  have hsssssassdssmsmssss := hsssssassdssmsmsss.step hb15
  have hz15 : w14.heap.size ≤ w15.heap.size := by simpa using hb15.size
  clear qa00 qa01 qa02 qx00 qx01 qx02
  have qa00 := hsssssassdssmsmssss.cellAt 0 rfl 0 rfl
  have qa01 := hsssssassdssmsmssss.cellAt 0 rfl 1 rfl
  have qa02 := hsssssassdssmsmssss.cellAt 0 rfl 2 rfl
  have qx00 := hsssssassdssmsmssss.cellAt 1 rfl 0 rfl
  have qx01 := hsssssassdssmsmssss.cellAt 1 rfl 1 rfl
  have qx02 := hsssssassdssmsmssss.cellAt 1 rfl 2 rfl
  have HYG' := Lib.hid (Own.mono HYG.out hb15)
  clear HYG
  have HYG := HYG'
  clear HYG'
  have HYr16 := Lib.hid (Own.rd HYG.out)
  go_wp2_with fail
  refine (heldInt64SS_g yG _ 1 mG _ HYr16.out HHG.out (by omega) (by omega) (by omega)).mono ?_
  rintro e w16 ⟨rfl, hb16⟩
  have HYG' := Lib.hid (Own.mono HYG.out hb16)
  clear HYG HYr16
  have HYG := HYG'
  clear HYG'
  have JW''''''''''''''' := Lib.hid (Iv.mono JW''''''''''''''.out hb16)
  clear JW''''''''''''''
  have JK'' := Lib.hid (Iv.mono JK'.out hb16)
  clear JK'
  have hsssssassdssmsmsssss := hsssssassdssmsmssss.step hb16
  have hz16 : w15.heap.size ≤ w16.heap.size := by simpa using hb16.size
  clear qa00 qa01 qa02 qx00 qx01 qx02
  have qa00 := hsssssassdssmsmsssss.cellAt 0 rfl 0 rfl
  have qa01 := hsssssassdssmsmsssss.cellAt 0 rfl 1 rfl
  have qa02 := hsssssassdssmsmsssss.cellAt 0 rfl 2 rfl
  have qx00 := hsssssassdssmsmsssss.cellAt 1 rfl 0 rfl
  have qx01 := hsssssassdssmsmsssss.cellAt 1 rfl 1 rfl
  have qx02 := hsssssassdssmsmsssss.cellAt 1 rfl 2 rfl
  go_wp2_with fail
  go_ret
  exact ⟨rfl, hsssssassdssmsmsssss.bel⟩

end Go.Proofs.Ytkbeihkjhmillaa
