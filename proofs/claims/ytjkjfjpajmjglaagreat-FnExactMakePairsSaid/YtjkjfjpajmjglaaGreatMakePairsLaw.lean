/-
  THE LAW FnExactMakePairs, WALKED. (Printed by wip/genlawm.py.)
-/
import Derived.Test.YtjkjfjpajmjglaaGreatKinds
import Derived.Test.YtjkjfjpajmjglaaGreatMarkT
import Derived.Test.YtjkjfjpajmjglaaGreatMarkS
import Derived.Test.YtjkjfjpajmjglaaGreatMakePS
namespace Go.Proofs.YtjkjfjpajmjglaaGreat
open Go.RowKit Go.Shelf
open Rep (Rd Own sz)
set_option linter.unusedSimpArgs false
set_option linter.unusedVariables false

theorem sum_two : ∀ {l : List (List Int)}, (∀ y, y ∈ l → y.length = 2) → (l.map List.length).sum = 2 * l.length
  | [], _ => rfl
  | y :: l, h => by
    have h1 := h y (by simp)
    have h2 := sum_two (l := l) (fun z hz => h z (by simp [hz]))
    simp only [List.map_cons, List.sum_cons, List.length_cons]
    omega
theorem mcRelS_le {n : Nat} : ∀ {P : List RelT}, (∀ r, r ∈ P → mcRelE r ≤ n) → mc_RelS P ≤ n * P.length
  | [], _ => by simp [mc_RelS]
  | r :: P, h => by
    have h1 := h r (by simp)
    have h2 := mcRelS_le (P := P) (fun z hz => h z (by simp [hz]))
    unfold mc_RelS at h2 ⊢
    simp only [List.map_cons, List.sum_cons, List.length_cons, Nat.mul_add, Nat.mul_one]
    omega
theorem mcRelS_pair {size : Int} {V : Nat} {P : List RelT} (h : PairOk size V P) (hs : 1 ≤ size ∧ size ≤ 4) (hV : V ≤ 10) : mc_RelS P ≤ 1000000 := by
  have h1 := mcRelS_le (n := 33) (P := P) (fun r hr => by
    obtain ⟨q, rfl⟩ := h.sel r hr
    unfold mcRelE
    rw [sum_two (fun y hy => (selT_mem2 hs.1 hy).1)]
    have h2 := selT_len q size 2 (sqN size)
    have h3 := (sqN_le hs).2.1
    omega)
  have h2 := tri_ten hV
  rw [h.len] at h1
  omega
theorem makePairsF_small (t : Tmpl) (x : Inst) : mc_RelS (makePairsF t x).1.1 ≤ 1000000 ∧ mc_PairStepS (makePairsF t x).1.2 ≤ 1000000 := by
  have h2 := mcb_PairStepS (makePairsF t x).1.2
  unfold cost_PairStepS at h2
  unfold makePairsF at h2 ⊢
  by_cases h : instOk t x = true
  · rw [if_pos h] at h2 ⊢
    have h3 := pairsF_ok t x
    have h4 := cap_le h
    have h5 := h3.pot
    have h6 := (instOk_get h).2.1
    exact ⟨mcRelS_pair h3.ok (tmplOk_get (instOk_get h).1).1 (by omega), by simp only at h2 ⊢; omega⟩
  · rw [if_neg h]
    exact ⟨by simp [mc_RelS], by simp [mc_PairStepS]⟩

set_option maxRecDepth 100000 in
set_option maxHeartbeats 8000000 in
theorem FnExactMakePairs_c (x0 : Tmpl) (v00 v01 : Value) (x1 : Inst) (v10 v11 : Value) (w : World) (h0 : Rd w [v00, v01] x0) (h1 : Rd w [v10, v11] x1) :
    Calls Tryz.prog 4 #[.agg #[v00, v01], .agg #[v10, v11]] w fun e w' => e = .returned (.bool true) ∧ Below w.heap.size w w' := by
  obtain ⟨hsm, hsm2⟩ : mc_RelS (makePairsF x0 x1).1.1 ≤ 1000000 ∧ mc_PairStepS (makePairsF x0 x1).1.2 ≤ 1000000 := makePairsF_small x0 x1
  have cS := fun a00 a01 a10 a11 W h0 h1 => sMakePairs_c x0 a00 a01 x1 a10 a11 W h0 h1
  have cI := fun a00 a01 a10 a11 W h0 h1 => MakePairs_c x0 a00 a01 x1 a10 a11 W h0 h1
  generalize makePairsF x0 x1 = R at cS cI hsm hsm2
  obtain ⟨⟨r0, r1⟩, code⟩ := R
  have CS := Lib.hid cS
  have CI := Lib.hid cI
  clear cS cI
  obtain ⟨x00, x01⟩ := x0
  have z00 := rd_cons rfl h0
  obtain ⟨rfl, _⟩ := rd_i1 z00.1
  obtain ⟨a01, c01, rfl, _⟩ := rd_list z00.2
  clear z00
  have H0 := Lib.hid h0
  clear h0
  obtain ⟨x10, x11⟩ := x1
  have z10 := rd_cons rfl h1
  obtain ⟨rfl, _⟩ := rd_i1 z10.1
  obtain ⟨a11, c11, rfl, _⟩ := rd_list z10.2
  clear z10
  have H1 := Lib.hid h1
  clear h1
  have hs := ((St.start w).alloc #[.int .i64 x00, .slice a01 x01.length c01] 24 rfl).alloc #[.int .i64 x10, .slice a11 x11.length c11] 27 (n := w.heap.size + 1) (by simp)
  go_enter Tryz.func4, Tryz.ntmps4
  go_wp2_with fail
  refine (szTemplate_b (x00, x01) _ _ (1048576) _ (Rd.mono H0.out hs.bel) (by omega) (by omega)).mono ?_
  rintro e w1 ⟨rfl, hb1⟩
  have hss := hs.step hb1
  have hz1 : w.heap.size + 2 ≤ w1.heap.size := by simpa using hb1.size
  rcases less_cases (1048576) (cost_Template (x00, x01)) with ⟨e1, g0⟩ | ⟨e1, g0⟩
  · rw [e1]
    clear e1
    go_wp2_with fail
    go_ret
    exact ⟨rfl, hss.bel⟩
  rw [e1]
  clear e1
  have qa00 := hss.cellAt 0 rfl 0 rfl
  have qa01 := hss.cellAt 0 rfl 1 rfl
  have qa10 := hss.cellAt 1 rfl 0 rfl
  have qa11 := hss.cellAt 1 rfl 1 rfl
  go_wp2_with fail
  refine (szInstance_b (x10, x11) _ _ (1048576 - (cost_Template (x00, x01))) _ (Rd.mono H1.out hss.bel) (by omega) (by omega)).mono ?_
  rintro e w2 ⟨rfl, hb2⟩
  have hsss := hss.step hb2
  have hz2 : w1.heap.size ≤ w2.heap.size := by simpa using hb2.size
  rcases less_cases (1048576 - (cost_Template (x00, x01))) (cost_Instance (x10, x11)) with ⟨e1, g1⟩ | ⟨e1, g1⟩
  · rw [e1]
    clear e1
    go_wp2_with fail
    go_ret
    exact ⟨rfl, hsss.bel⟩
  rw [e1]
  clear e1
  clear qa00 qa01 qa10 qa11
  have qa00 := hsss.cellAt 0 rfl 0 rfl
  have qa01 := hsss.cellAt 0 rfl 1 rfl
  have qa10 := hsss.cellAt 1 rfl 0 rfl
  have qa11 := hsss.cellAt 1 rfl 1 rfl
  have gc0 : cost_Template (x00, x01) ≤ 1048576 := by omega
  have gc1 : cost_Instance (x10, x11) ≤ 1048576 := by omega
  go_wp2_with fail
  refine wp_region_noPanic (wp_region_el (fun w' => w'.cell? ⟨w.heap.size, 0, none⟩ = some (.int .i64 x00) ∧ w'.cell? ⟨w.heap.size, 1, none⟩ = some (.slice a01 x01.length c01) ∧ w'.cell? ⟨w.heap.size + 1, 0, none⟩ = some (.int .i64 x10) ∧ w'.cell? ⟨w.heap.size + 1, 1, none⟩ = some (.slice a11 x11.length c11)) [(0, 0), (2, 0), (1, 1), (3, 1), (4, 1), (5, 0), (6, 0), (7, 0), (8, 0), (9, 0), (10, 0), (11, 0)] (by kernel_rfl) (by kernel_rfl) (by kernel_rfl) rfl ?_ (fun _ _ _ _ _ h => h) ?_)
  · exact ⟨(hsss.drew).cellAt 0 rfl 0 rfl, (hsss.drew).cellAt 0 rfl 1 rfl, (hsss.drew).cellAt 1 rfl 0 rfl, (hsss.drew).cellAt 1 rfl 1 rfl⟩
  have hsssd := hsss.drew
  (repeat (first | (apply el_skip rfl (by rfl); try simp only [Act.put, List.setIfInBounds_toArray, List.set_cons_zero, List.set_cons_succ]) | (apply el_float rfl (by rfl); (· (intro w' hS; go_simp <;> with_reducible rfl)); (try simp only [Act.put, List.setIfInBounds_toArray, List.set_cons_zero, List.set_cons_succ]))))
  refine el_hard rfl (by rfl) (fun K hK => ?_)
  go_wp2_with (go_at_call 14; refine (toTemplate_b (x00, x01) _ _ _ (Rd.mono H0.out hsssd.bel) gc0).mono ?_; rintro e w3 ⟨us00, us01, rfl, frs0, hb3⟩)
  have hsssds := hsssd.step hb3
  have hz3 : w2.heap.size ≤ w3.heap.size := by simpa using hb3.size
  have Js0 := Lib.hid (Fresh.iv frs0)
  have zs00 := rd_cons rfl (Iv.rd Js0.out)
  obtain ⟨rfl, _⟩ := rd_i1 zs00.1
  obtain ⟨as01, cs01, rfl, _⟩ := rd_list zs00.2
  clear zs00
  clear frs0
  refine ⟨⟨hsssds.cellAt 0 rfl 0 rfl, hsssds.cellAt 0 rfl 1 rfl, hsssds.cellAt 1 rfl 0 rfl, hsssds.cellAt 1 rfl 1 rfl⟩, ?_⟩
  (repeat (first | (apply el_skip rfl (by rfl); try simp only [Act.put, List.setIfInBounds_toArray, List.set_cons_zero, List.set_cons_succ]) | (apply el_float rfl (by rfl); (· (intro w' hS; go_simp <;> with_reducible rfl)); (try simp only [Act.put, List.setIfInBounds_toArray, List.set_cons_zero, List.set_cons_succ]))))
  refine el_hard rfl (by rfl) (fun K hK => ?_)
  go_wp2_with (go_at_call 15; refine (toInstance_b (x10, x11) _ _ _ (Rd.mono H1.out hsssds.bel) gc1).mono ?_; rintro e w4 ⟨us10, us11, rfl, frs1, hb4⟩)
  have Js0' := Lib.hid (Iv.mono Js0.out hb4)
  clear Js0
  have hsssdss := hsssds.step hb4
  have hz4 : w3.heap.size ≤ w4.heap.size := by simpa using hb4.size
  have Js1 := Lib.hid (Fresh.iv frs1)
  have zs10 := rd_cons rfl (Iv.rd Js1.out)
  obtain ⟨rfl, _⟩ := rd_i1 zs10.1
  obtain ⟨as11, cs11, rfl, _⟩ := rd_list zs10.2
  clear zs10
  clear frs1
  refine ⟨⟨hsssdss.cellAt 0 rfl 0 rfl, hsssdss.cellAt 0 rfl 1 rfl, hsssdss.cellAt 1 rfl 0 rfl, hsssdss.cellAt 1 rfl 1 rfl⟩, ?_⟩
  (repeat (first | (apply el_skip rfl (by rfl); try simp only [Act.put, List.setIfInBounds_toArray, List.set_cons_zero, List.set_cons_succ]) | (apply el_float rfl (by rfl); (· (intro w' hS; go_simp <;> with_reducible rfl)); (try simp only [Act.put, List.setIfInBounds_toArray, List.set_cons_zero, List.set_cons_succ]))))
  refine el_hard rfl (by rfl) (fun K hK => ?_)
  go_wp2_with (go_at_call 27; refine (CS.out _ _ _ _ _ (Iv.rd Js0'.out) (Iv.rd Js1.out)).mono ?_; rintro e w5 ⟨uW0, uW1, rfl, frW, hb5⟩)
  have Js0'' := Lib.hid (Iv.mono Js0'.out hb5)
  clear Js0'
  have Js1' := Lib.hid (Iv.mono Js1.out hb5)
  clear Js1
  have hsssdsss := hsssdss.step hb5
  have hz5 : w4.heap.size ≤ w5.heap.size := by simpa using hb5.size
  have JW := Lib.hid (Fresh.iv frW)
  have zW0 := rd_cons rfl (Iv.rd JW.out)
  obtain ⟨aW0, cW0, rfl, _⟩ := rd_list zW0.1
  obtain ⟨aW1, cW1, rfl, _⟩ := rd_list zW0.2
  clear zW0
  clear frW
  clear Js0''
  clear Js1'
  refine ⟨⟨hsssdsss.cellAt 0 rfl 0 rfl, hsssdsss.cellAt 0 rfl 1 rfl, hsssdsss.cellAt 1 rfl 0 rfl, hsssdsss.cellAt 1 rfl 1 rfl⟩, ?_⟩
  (repeat (first | (apply el_skip rfl (by rfl); try simp only [Act.put, List.setIfInBounds_toArray, List.set_cons_zero, List.set_cons_succ]) | (apply el_float rfl (by rfl); (· (intro w' hS; go_simp <;> with_reducible rfl)); (try simp only [Act.put, List.setIfInBounds_toArray, List.set_cons_zero, List.set_cons_succ]))))
  refine el_nil (NoPanic.normal ?_)
  clear qa00 qa01 qa10 qa11
  have qa00 := hsssdsss.cellAt 0 rfl 0 rfl
  have qa01 := hsssdsss.cellAt 0 rfl 1 rfl
  have qa10 := hsssdsss.cellAt 1 rfl 0 rfl
  have qa11 := hsssdsss.cellAt 1 rfl 1 rfl
  go_wp2_with fail
  refine (toTemplate_b (x00, x01) _ _ _ (Rd.mono H0.out hsssdsss.bel) gc0).mono ?_
  rintro e w6 ⟨ux00, ux01, rfl, frx0, hb6⟩
  have JW' := Lib.hid (Iv.mono JW.out hb6)
  clear JW
  have hsssdssss := hsssdsss.step hb6
  have hz6 : w5.heap.size ≤ w6.heap.size := by simpa using hb6.size
  have Jx0 := Lib.hid (Fresh.iv frx0)
  have zx00 := rd_cons rfl (Iv.rd Jx0.out)
  obtain ⟨rfl, _⟩ := rd_i1 zx00.1
  obtain ⟨ax01, cx01, rfl, _⟩ := rd_list zx00.2
  clear zx00
  clear frx0
  clear qa00 qa01 qa10 qa11
  have qa00 := hsssdssss.cellAt 0 rfl 0 rfl
  have qa01 := hsssdssss.cellAt 0 rfl 1 rfl
  have qa10 := hsssdssss.cellAt 1 rfl 0 rfl
  have qa11 := hsssdssss.cellAt 1 rfl 1 rfl
  have hsssdssssa := hsssdssss.alloc #[.int .i64 x00, .slice ax01 x01.length cx01] 36 rfl
  have JW'' := Lib.hid (Iv.mono JW'.out (belowA _ (.cells #[.int .i64 x00, .slice ax01 x01.length cx01] 36)))
  clear JW'
  have Jx0' := Lib.hid (Iv.mono Jx0.out (belowA _ (.cells #[.int .i64 x00, .slice ax01 x01.length cx01] 36)))
  clear Jx0
  clear qa00 qa01 qa10 qa11
  have qa00 := hsssdssssa.cellAt 0 rfl 0 rfl
  have qa01 := hsssdssssa.cellAt 0 rfl 1 rfl
  have qa10 := hsssdssssa.cellAt 1 rfl 0 rfl
  have qa11 := hsssdssssa.cellAt 1 rfl 1 rfl
  have qx00 := hsssdssssa.cellAt 2 rfl 0 rfl
  have qx01 := hsssdssssa.cellAt 2 rfl 1 rfl
  go_wp2_with fail
  refine (toInstance_b (x10, x11) _ _ _ (Rd.mono H1.out hsssdssssa.bel) gc1).mono ?_
  rintro e w7 ⟨ux10, ux11, rfl, frx1, hb7⟩
  have JW''' := Lib.hid (Iv.mono JW''.out hb7)
  clear JW''
  have Jx0'' := Lib.hid (Iv.mono Jx0'.out hb7)
  clear Jx0'
  have hsssdssssas := hsssdssssa.step hb7
  have hz7 : w6.heap.size + 1 ≤ w7.heap.size := by simpa using hb7.size
  have Jx1 := Lib.hid (Fresh.iv frx1)
  have zx10 := rd_cons rfl (Iv.rd Jx1.out)
  obtain ⟨rfl, _⟩ := rd_i1 zx10.1
  obtain ⟨ax11, cx11, rfl, _⟩ := rd_list zx10.2
  clear zx10
  clear frx1
  clear qa00 qa01 qa10 qa11 qx00 qx01
  have qa00 := hsssdssssas.cellAt 0 rfl 0 rfl
  have qa01 := hsssdssssas.cellAt 0 rfl 1 rfl
  have qa10 := hsssdssssas.cellAt 1 rfl 0 rfl
  have qa11 := hsssdssssas.cellAt 1 rfl 1 rfl
  have qx00 := hsssdssssas.cellAt 2 rfl 0 rfl
  have qx01 := hsssdssssas.cellAt 2 rfl 1 rfl
  have hsssdssssasa := hsssdssssas.alloc #[.int .i64 x10, .slice ax11 x11.length cx11] 40 rfl
  have JW'''' := Lib.hid (Iv.mono JW'''.out (belowA _ (.cells #[.int .i64 x10, .slice ax11 x11.length cx11] 40)))
  clear JW'''
  have Jx0''' := Lib.hid (Iv.mono Jx0''.out (belowA _ (.cells #[.int .i64 x10, .slice ax11 x11.length cx11] 40)))
  clear Jx0''
  have Jx1' := Lib.hid (Iv.mono Jx1.out (belowA _ (.cells #[.int .i64 x10, .slice ax11 x11.length cx11] 40)))
  clear Jx1
  clear qa00 qa01 qa10 qa11 qx00 qx01
  have qa00 := hsssdssssasa.cellAt 0 rfl 0 rfl
  have qa01 := hsssdssssasa.cellAt 0 rfl 1 rfl
  have qa10 := hsssdssssasa.cellAt 1 rfl 0 rfl
  have qa11 := hsssdssssasa.cellAt 1 rfl 1 rfl
  have qx00 := hsssdssssasa.cellAt 2 rfl 0 rfl
  have qx01 := hsssdssssasa.cellAt 2 rfl 1 rfl
  have qx10 := hsssdssssasa.cellAt 3 rfl 0 rfl
  have qx11 := hsssdssssasa.cellAt 3 rfl 1 rfl
  go_wp2_with fail
  refine (CI.out _ _ _ _ _ (Iv.rd Jx0'''.out) (Iv.rd Jx1'.out)).mono ?_
  rintro e w8 ⟨uG0, uG1, rfl, frG, hb8⟩
  have JW''''' := Lib.hid (Iv.mono JW''''.out hb8)
  clear JW''''
  have Jx0'''' := Lib.hid (Iv.mono Jx0'''.out hb8)
  clear Jx0'''
  have Jx1'' := Lib.hid (Iv.mono Jx1'.out hb8)
  clear Jx1'
  have hsssdssssasas := hsssdssssasa.step hb8
  have hz8 : w7.heap.size + 1 ≤ w8.heap.size := by simpa using hb8.size
  have JG := Lib.hid (Fresh.iv frG)
  have zG0 := rd_cons rfl (Iv.rd JG.out)
  obtain ⟨aG0, cG0, rfl, _⟩ := rd_list zG0.1
  obtain ⟨aG1, cG1, rfl, _⟩ := rd_list zG0.2
  clear zG0
  clear frG
  clear qa00 qa01 qa10 qa11 qx00 qx01 qx10 qx11
  have qa00 := hsssdssssasas.cellAt 0 rfl 0 rfl
  have qa01 := hsssdssssasas.cellAt 0 rfl 1 rfl
  have qa10 := hsssdssssasas.cellAt 1 rfl 0 rfl
  have qa11 := hsssdssssasas.cellAt 1 rfl 1 rfl
  have qx00 := hsssdssssasas.cellAt 2 rfl 0 rfl
  have qx01 := hsssdssssasas.cellAt 2 rfl 1 rfl
  have qx10 := hsssdssssasas.cellAt 3 rfl 0 rfl
  have qx11 := hsssdssssasas.cellAt 3 rfl 1 rfl
  go_wp2_with fail
  refine (eqRelS_s r0 _ _ _ (rd_cons rfl (Iv.rd JG.out)).1 (rd_cons rfl (Iv.rd JW'''''.out)).1).mono ?_
  rintro e w9 ⟨rfl, hb9⟩
  have JW'''''' := Lib.hid (Iv.mono JW'''''.out hb9)
  clear JW'''''
  have Jx0''''' := Lib.hid (Iv.mono Jx0''''.out hb9)
  clear Jx0''''
  have Jx1''' := Lib.hid (Iv.mono Jx1''.out hb9)
  clear Jx1''
  have JG' := Lib.hid (Iv.mono JG.out hb9)
  clear JG
  have hsssdssssasass := hsssdssssasas.step hb9
  have hz9 : w8.heap.size ≤ w9.heap.size := by simpa using hb9.size
  clear qa00 qa01 qa10 qa11 qx00 qx01 qx10 qx11
  have qa00 := hsssdssssasass.cellAt 0 rfl 0 rfl
  have qa01 := hsssdssssasass.cellAt 0 rfl 1 rfl
  have qa10 := hsssdssssasass.cellAt 1 rfl 0 rfl
  have qa11 := hsssdssssasass.cellAt 1 rfl 1 rfl
  have qx00 := hsssdssssasass.cellAt 2 rfl 0 rfl
  have qx01 := hsssdssssasass.cellAt 2 rfl 1 rfl
  have qx10 := hsssdssssasass.cellAt 3 rfl 0 rfl
  have qx11 := hsssdssssasass.cellAt 3 rfl 1 rfl
  go_wp2_with fail
  refine (eqPairStepS_s r1 _ _ _ (rd_cons rfl (Iv.rd JG'.out)).2 (rd_cons rfl (Iv.rd JW''''''.out)).2).mono ?_
  rintro e w10 ⟨rfl, hb10⟩
  have JW''''''' := Lib.hid (Iv.mono JW''''''.out hb10)
  clear JW''''''
  have Jx0'''''' := Lib.hid (Iv.mono Jx0'''''.out hb10)
  clear Jx0'''''
  have Jx1'''' := Lib.hid (Iv.mono Jx1'''.out hb10)
  clear Jx1'''
  have JG'' := Lib.hid (Iv.mono JG'.out hb10)
  clear JG'
  have hsssdssssasasss := hsssdssssasass.step hb10
  have hz10 : w9.heap.size ≤ w10.heap.size := by simpa using hb10.size
  clear qa00 qa01 qa10 qa11 qx00 qx01 qx10 qx11
  have qa00 := hsssdssssasasss.cellAt 0 rfl 0 rfl
  have qa01 := hsssdssssasasss.cellAt 0 rfl 1 rfl
  have qa10 := hsssdssssasasss.cellAt 1 rfl 0 rfl
  have qa11 := hsssdssssasasss.cellAt 1 rfl 1 rfl
  have qx00 := hsssdssssasasss.cellAt 2 rfl 0 rfl
  have qx01 := hsssdssssasasss.cellAt 2 rfl 1 rfl
  have qx10 := hsssdssssasasss.cellAt 3 rfl 0 rfl
  have qx11 := hsssdssssasasss.cellAt 3 rfl 1 rfl
  have hcode : (code != code) = false := by simp
  go_wp2_with fail
  refine wp_region_noPanic (wp_region_el (fun w' => w'.cell? ⟨w.heap.size, 0, none⟩ = some (.int .i64 x00) ∧ w'.cell? ⟨w.heap.size, 1, none⟩ = some (.slice a01 x01.length c01) ∧ w'.cell? ⟨w.heap.size + 1, 0, none⟩ = some (.int .i64 x10) ∧ w'.cell? ⟨w.heap.size + 1, 1, none⟩ = some (.slice a11 x11.length c11) ∧ w'.cell? ⟨w6.heap.size, 0, none⟩ = some (.int .i64 x00) ∧ w'.cell? ⟨w6.heap.size, 1, none⟩ = some (.slice ax01 x01.length cx01) ∧ w'.cell? ⟨w7.heap.size, 0, none⟩ = some (.int .i64 x10) ∧ w'.cell? ⟨w7.heap.size, 1, none⟩ = some (.slice ax11 x11.length cx11)) [(0, 0), (1, 0), (2, 1), (3, 1), (4, 0)] (by kernel_rfl) (by kernel_rfl) (by kernel_rfl) rfl ?_ (fun _ _ _ _ _ h => h) ?_)
  · exact ⟨(hsssdssssasasss.drew).cellAt 0 rfl 0 rfl, (hsssdssssasasss.drew).cellAt 0 rfl 1 rfl, (hsssdssssasasss.drew).cellAt 1 rfl 0 rfl, (hsssdssssasasss.drew).cellAt 1 rfl 1 rfl, (hsssdssssasasss.drew).cellAt 2 rfl 0 rfl, (hsssdssssasasss.drew).cellAt 2 rfl 1 rfl, (hsssdssssasasss.drew).cellAt 3 rfl 0 rfl, (hsssdssssasasss.drew).cellAt 3 rfl 1 rfl⟩
  have JW'''''''' := Lib.hid (Iv.mono JW'''''''.out (belowD _))
  clear JW'''''''
  have Jx0''''''' := Lib.hid (Iv.mono Jx0''''''.out (belowD _))
  clear Jx0''''''
  have Jx1''''' := Lib.hid (Iv.mono Jx1''''.out (belowD _))
  clear Jx1''''
  have JG''' := Lib.hid (Iv.mono JG''.out (belowD _))
  clear JG''
  have hsssdssssasasssd := hsssdssssasasss.drew
  (repeat (first | (apply el_skip rfl (by rfl); try simp only [Act.put, List.setIfInBounds_toArray, List.set_cons_zero, List.set_cons_succ]) | (apply el_float rfl (by rfl); (· (intro w' hS; go_simp <;> with_reducible rfl)); (try simp only [Act.put, List.setIfInBounds_toArray, List.set_cons_zero, List.set_cons_succ]))))
  refine el_hard rfl (by rfl) (fun K hK => ?_)
  go_wp2_with (go_at_call 14; refine (toTemplate_b (x00, x01) _ _ _ (Rd.mono H0.out hsssdssssasasssd.bel) gc0).mono ?_; rintro e w11 ⟨uy00, uy01, rfl, fry0, hb11⟩)
  have JW''''''''' := Lib.hid (Iv.mono JW''''''''.out hb11)
  clear JW''''''''
  have Jx0'''''''' := Lib.hid (Iv.mono Jx0'''''''.out hb11)
  clear Jx0'''''''
  have Jx1'''''' := Lib.hid (Iv.mono Jx1'''''.out hb11)
  clear Jx1'''''
  have JG'''' := Lib.hid (Iv.mono JG'''.out hb11)
  clear JG'''
  have hsssdssssasasssds := hsssdssssasasssd.step hb11
  have hz11 : w10.heap.size ≤ w11.heap.size := by simpa using hb11.size
  have Jy0 := Lib.hid (Fresh.iv fry0)
  have zy00 := rd_cons rfl (Iv.rd Jy0.out)
  obtain ⟨rfl, _⟩ := rd_i1 zy00.1
  obtain ⟨ay01, cy01, rfl, _⟩ := rd_list zy00.2
  clear zy00
  clear fry0
  refine ⟨⟨hsssdssssasasssds.cellAt 0 rfl 0 rfl, hsssdssssasasssds.cellAt 0 rfl 1 rfl, hsssdssssasasssds.cellAt 1 rfl 0 rfl, hsssdssssasasssds.cellAt 1 rfl 1 rfl, hsssdssssasasssds.cellAt 2 rfl 0 rfl, hsssdssssasasssds.cellAt 2 rfl 1 rfl, hsssdssssasasssds.cellAt 3 rfl 0 rfl, hsssdssssasasssds.cellAt 3 rfl 1 rfl⟩, ?_⟩
  (repeat (first | (apply el_skip rfl (by rfl); try simp only [Act.put, List.setIfInBounds_toArray, List.set_cons_zero, List.set_cons_succ]) | (apply el_float rfl (by rfl); (· (intro w' hS; go_simp <;> with_reducible rfl)); (try simp only [Act.put, List.setIfInBounds_toArray, List.set_cons_zero, List.set_cons_succ]))))
  refine el_hard rfl (by rfl) (fun K hK => ?_)
  go_wp2_with (go_at_call 19; refine (eqTemplate_s (x00, x01) _ _ _ _ _ (Iv.rd Jx0''''''''.out) (Iv.rd Jy0.out)).mono ?_; rintro e w12 ⟨rfl, hb12⟩)
  clear Jy0
  have JW'''''''''' := Lib.hid (Iv.mono JW'''''''''.out hb12)
  clear JW'''''''''
  have Jx0''''''''' := Lib.hid (Iv.mono Jx0''''''''.out hb12)
  clear Jx0''''''''
  have Jx1''''''' := Lib.hid (Iv.mono Jx1''''''.out hb12)
  clear Jx1''''''
  have JG''''' := Lib.hid (Iv.mono JG''''.out hb12)
  clear JG''''
  have hsssdssssasasssdss := hsssdssssasasssds.step hb12
  have hz12 : w11.heap.size ≤ w12.heap.size := by simpa using hb12.size
  refine ⟨⟨hsssdssssasasssdss.cellAt 0 rfl 0 rfl, hsssdssssasasssdss.cellAt 0 rfl 1 rfl, hsssdssssasasssdss.cellAt 1 rfl 0 rfl, hsssdssssasasssdss.cellAt 1 rfl 1 rfl, hsssdssssasasssdss.cellAt 2 rfl 0 rfl, hsssdssssasasssdss.cellAt 2 rfl 1 rfl, hsssdssssasasssdss.cellAt 3 rfl 0 rfl, hsssdssssasasssdss.cellAt 3 rfl 1 rfl⟩, ?_⟩
  (repeat (first | (apply el_skip rfl (by rfl); try simp only [Act.put, List.setIfInBounds_toArray, List.set_cons_zero, List.set_cons_succ]) | (apply el_float rfl (by rfl); (· (intro w' hS; go_simp <;> with_reducible rfl)); (try simp only [Act.put, List.setIfInBounds_toArray, List.set_cons_zero, List.set_cons_succ]))))
  refine el_nil (NoPanic.normal ?_)
  clear qa00 qa01 qa10 qa11 qx00 qx01 qx10 qx11
  have qa00 := hsssdssssasasssdss.cellAt 0 rfl 0 rfl
  have qa01 := hsssdssssasasssdss.cellAt 0 rfl 1 rfl
  have qa10 := hsssdssssasasssdss.cellAt 1 rfl 0 rfl
  have qa11 := hsssdssssasasssdss.cellAt 1 rfl 1 rfl
  have qx00 := hsssdssssasasssdss.cellAt 2 rfl 0 rfl
  have qx01 := hsssdssssasasssdss.cellAt 2 rfl 1 rfl
  have qx10 := hsssdssssasasssdss.cellAt 3 rfl 0 rfl
  have qx11 := hsssdssssasasssdss.cellAt 3 rfl 1 rfl
  go_wp2_with fail
  refine wp_region_noPanic (wp_region_el (fun w' => w'.cell? ⟨w.heap.size, 0, none⟩ = some (.int .i64 x00) ∧ w'.cell? ⟨w.heap.size, 1, none⟩ = some (.slice a01 x01.length c01) ∧ w'.cell? ⟨w.heap.size + 1, 0, none⟩ = some (.int .i64 x10) ∧ w'.cell? ⟨w.heap.size + 1, 1, none⟩ = some (.slice a11 x11.length c11) ∧ w'.cell? ⟨w6.heap.size, 0, none⟩ = some (.int .i64 x00) ∧ w'.cell? ⟨w6.heap.size, 1, none⟩ = some (.slice ax01 x01.length cx01) ∧ w'.cell? ⟨w7.heap.size, 0, none⟩ = some (.int .i64 x10) ∧ w'.cell? ⟨w7.heap.size, 1, none⟩ = some (.slice ax11 x11.length cx11)) [(0, 0), (1, 0), (2, 1), (3, 1), (4, 0)] (by kernel_rfl) (by kernel_rfl) (by kernel_rfl) rfl ?_ (fun _ _ _ _ _ h => h) ?_)
  · exact ⟨(hsssdssssasasssdss.drew).cellAt 0 rfl 0 rfl, (hsssdssssasasssdss.drew).cellAt 0 rfl 1 rfl, (hsssdssssasasssdss.drew).cellAt 1 rfl 0 rfl, (hsssdssssasasssdss.drew).cellAt 1 rfl 1 rfl, (hsssdssssasasssdss.drew).cellAt 2 rfl 0 rfl, (hsssdssssasasssdss.drew).cellAt 2 rfl 1 rfl, (hsssdssssasasssdss.drew).cellAt 3 rfl 0 rfl, (hsssdssssasasssdss.drew).cellAt 3 rfl 1 rfl⟩
  have JW''''''''''' := Lib.hid (Iv.mono JW''''''''''.out (belowD _))
  clear JW''''''''''
  have Jx0'''''''''' := Lib.hid (Iv.mono Jx0'''''''''.out (belowD _))
  clear Jx0'''''''''
  have Jx1'''''''' := Lib.hid (Iv.mono Jx1'''''''.out (belowD _))
  clear Jx1'''''''
  have JG'''''' := Lib.hid (Iv.mono JG'''''.out (belowD _))
  clear JG'''''
  have hsssdssssasasssdssd := hsssdssssasasssdss.drew
  (repeat (first | (apply el_skip rfl (by rfl); try simp only [Act.put, List.setIfInBounds_toArray, List.set_cons_zero, List.set_cons_succ]) | (apply el_float rfl (by rfl); (· (intro w' hS; go_simp <;> with_reducible rfl)); (try simp only [Act.put, List.setIfInBounds_toArray, List.set_cons_zero, List.set_cons_succ]))))
  refine el_hard rfl (by rfl) (fun K hK => ?_)
  go_wp2_with (go_at_call 15; refine (toInstance_b (x10, x11) _ _ _ (Rd.mono H1.out hsssdssssasasssdssd.bel) gc1).mono ?_; rintro e w13 ⟨uy10, uy11, rfl, fry1, hb13⟩)
  have JW'''''''''''' := Lib.hid (Iv.mono JW'''''''''''.out hb13)
  clear JW'''''''''''
  have Jx0''''''''''' := Lib.hid (Iv.mono Jx0''''''''''.out hb13)
  clear Jx0''''''''''
  have Jx1''''''''' := Lib.hid (Iv.mono Jx1''''''''.out hb13)
  clear Jx1''''''''
  have JG''''''' := Lib.hid (Iv.mono JG''''''.out hb13)
  clear JG''''''
  have hsssdssssasasssdssds := hsssdssssasasssdssd.step hb13
  have hz13 : w12.heap.size ≤ w13.heap.size := by simpa using hb13.size
  have Jy1 := Lib.hid (Fresh.iv fry1)
  have zy10 := rd_cons rfl (Iv.rd Jy1.out)
  obtain ⟨rfl, _⟩ := rd_i1 zy10.1
  obtain ⟨ay11, cy11, rfl, _⟩ := rd_list zy10.2
  clear zy10
  clear fry1
  refine ⟨⟨hsssdssssasasssdssds.cellAt 0 rfl 0 rfl, hsssdssssasasssdssds.cellAt 0 rfl 1 rfl, hsssdssssasasssdssds.cellAt 1 rfl 0 rfl, hsssdssssasasssdssds.cellAt 1 rfl 1 rfl, hsssdssssasasssdssds.cellAt 2 rfl 0 rfl, hsssdssssasasssdssds.cellAt 2 rfl 1 rfl, hsssdssssasasssdssds.cellAt 3 rfl 0 rfl, hsssdssssasasssdssds.cellAt 3 rfl 1 rfl⟩, ?_⟩
  (repeat (first | (apply el_skip rfl (by rfl); try simp only [Act.put, List.setIfInBounds_toArray, List.set_cons_zero, List.set_cons_succ]) | (apply el_float rfl (by rfl); (· (intro w' hS; go_simp <;> with_reducible rfl)); (try simp only [Act.put, List.setIfInBounds_toArray, List.set_cons_zero, List.set_cons_succ]))))
  refine el_hard rfl (by rfl) (fun K hK => ?_)
  go_wp2_with (go_at_call 20; refine (eqInstance_s (x10, x11) _ _ _ _ _ (Iv.rd Jx1'''''''''.out) (Iv.rd Jy1.out)).mono ?_; rintro e w14 ⟨rfl, hb14⟩)
  clear Jy1
  have JW''''''''''''' := Lib.hid (Iv.mono JW''''''''''''.out hb14)
  clear JW''''''''''''
  have Jx0'''''''''''' := Lib.hid (Iv.mono Jx0'''''''''''.out hb14)
  clear Jx0'''''''''''
  have Jx1'''''''''' := Lib.hid (Iv.mono Jx1'''''''''.out hb14)
  clear Jx1'''''''''
  have JG'''''''' := Lib.hid (Iv.mono JG'''''''.out hb14)
  clear JG'''''''
  have hsssdssssasasssdssdss := hsssdssssasasssdssds.step hb14
  have hz14 : w13.heap.size ≤ w14.heap.size := by simpa using hb14.size
  refine ⟨⟨hsssdssssasasssdssdss.cellAt 0 rfl 0 rfl, hsssdssssasasssdssdss.cellAt 0 rfl 1 rfl, hsssdssssasasssdssdss.cellAt 1 rfl 0 rfl, hsssdssssasasssdssdss.cellAt 1 rfl 1 rfl, hsssdssssasasssdssdss.cellAt 2 rfl 0 rfl, hsssdssssasasssdssdss.cellAt 2 rfl 1 rfl, hsssdssssasasssdssdss.cellAt 3 rfl 0 rfl, hsssdssssasasssdssdss.cellAt 3 rfl 1 rfl⟩, ?_⟩
  (repeat (first | (apply el_skip rfl (by rfl); try simp only [Act.put, List.setIfInBounds_toArray, List.set_cons_zero, List.set_cons_succ]) | (apply el_float rfl (by rfl); (· (intro w' hS; go_simp <;> with_reducible rfl)); (try simp only [Act.put, List.setIfInBounds_toArray, List.set_cons_zero, List.set_cons_succ]))))
  refine el_nil (NoPanic.normal ?_)
  clear qa00 qa01 qa10 qa11 qx00 qx01 qx10 qx11
  have qa00 := hsssdssssasasssdssdss.cellAt 0 rfl 0 rfl
  have qa01 := hsssdssssasasssdssdss.cellAt 0 rfl 1 rfl
  have qa10 := hsssdssssasasssdssdss.cellAt 1 rfl 0 rfl
  have qa11 := hsssdssssasasssdssdss.cellAt 1 rfl 1 rfl
  have qx00 := hsssdssssasasssdssdss.cellAt 2 rfl 0 rfl
  have qx01 := hsssdssssasasssdssdss.cellAt 2 rfl 1 rfl
  have qx10 := hsssdssssasasssdssdss.cellAt 3 rfl 0 rfl
  have qx11 := hsssdssssasasssdssdss.cellAt 3 rfl 1 rfl
  have mcb0 := mcb_Template (x00, x01)
  obtain ⟨psx0, hox0, hnx0, hpx0⟩ := Jx0''''''''''''.out
  have HOx0 := Lib.hid hox0
  clear hox0
  clear Jx0''''''''''''
  go_wp2_with fail
  refine (markTemplate_g (x00, x01) _ _ psx0 1 _ HOx0.out hnx0 (by omega) (by omega)).mono ?_
  rintro e w15 ⟨yx0, mx0, rfl, l0x0, l1x0, hyx0, hhx0, hbutx0⟩
  have HYx0 := Lib.hid hyx0
  have HHx0 := Lib.hid hhx0
  clear hyx0 hhx0 HOx0
  have hqx0 : ∀ k, k ∈ psx0 → w5.heap.size ≤ k ∧ k < w6.heap.size := fun k hk => by have := hpx0 k hk; simpa using this
  have JW'''''''''''''' := Lib.hid (Iv.but JW'''''''''''''.out hbutx0 (fun k hk => by have := hqx0 k hk; simp; omega))
  clear JW'''''''''''''
  have Jx1''''''''''' := Lib.hid (Iv.but Jx1''''''''''.out hbutx0 (fun k hk => by have := hqx0 k hk; simp; omega))
  clear Jx1''''''''''
  have JG''''''''' := Lib.hid (Iv.but JG''''''''.out hbutx0 (fun k hk => by have := hqx0 k hk; simp; omega))
  clear JG''''''''
  have hsssdssssasasssdssdssm := hsssdssssasasssdssdss.butIv hbutx0 (fun k hk => by have := hqx0 k hk; omega) (fun x hx hp => by
    have := hqx0 _ hp
    simp only [List.mem_append, List.mem_cons, List.mem_nil_iff, or_false, List.not_mem_nil, false_or, or_assoc] at hx
    rcases hx with rfl | rfl | rfl | rfl <;> (simp only at this; omega))
  have hz15 : w14.heap.size ≤ w15.heap.size := by simpa using hbutx0.size
  clear qa00 qa01 qa10 qa11 qx00 qx01 qx10 qx11
  have qa00 := hsssdssssasasssdssdssm.cellAt 0 rfl 0 rfl
  have qa01 := hsssdssssasasssdssdssm.cellAt 0 rfl 1 rfl
  have qa10 := hsssdssssasasssdssdssm.cellAt 1 rfl 0 rfl
  have qa11 := hsssdssssasasssdssdssm.cellAt 1 rfl 1 rfl
  have qx00 := hsssdssssasasssdssdssm.cellAt 2 rfl 0 rfl
  have qx01 := hsssdssssasasssdssdssm.cellAt 2 rfl 1 rfl
  have qx10 := hsssdssssasasssdssdssm.cellAt 3 rfl 0 rfl
  have qx11 := hsssdssssasasssdssdssm.cellAt 3 rfl 1 rfl
  have mcb1 := mcb_Instance (x10, x11)
  obtain ⟨psx1, hox1, hnx1, hpx1⟩ := Jx1'''''''''''.out
  have HOx1 := Lib.hid hox1
  clear hox1
  clear Jx1'''''''''''
  go_wp2_with fail
  refine (markInstance_g (x10, x11) _ _ psx1 mx0 _ HOx1.out hnx1 (by omega) (by omega)).mono ?_
  rintro e w16 ⟨yx1, mx1, rfl, l0x1, l1x1, hyx1, hhx1, hbutx1⟩
  have HYx1 := Lib.hid hyx1
  have HHx1 := Lib.hid hhx1
  clear hyx1 hhx1 HOx1
  have hqx1 : ∀ k, k ∈ psx1 → w6.heap.size + 1 ≤ k ∧ k < w7.heap.size := fun k hk => by have := hpx1 k hk; simpa using this
  have JW''''''''''''''' := Lib.hid (Iv.but JW''''''''''''''.out hbutx1 (fun k hk => by have := hqx1 k hk; simp; omega))
  clear JW''''''''''''''
  have JG'''''''''' := Lib.hid (Iv.but JG'''''''''.out hbutx1 (fun k hk => by have := hqx1 k hk; simp; omega))
  clear JG'''''''''
  have hsssdssssasasssdssdssmm := hsssdssssasasssdssdssm.butIv hbutx1 (fun k hk => by have := hqx1 k hk; omega) (fun x hx hp => by
    have := hqx1 _ hp
    simp only [List.mem_append, List.mem_cons, List.mem_nil_iff, or_false, List.not_mem_nil, false_or, or_assoc] at hx
    rcases hx with rfl | rfl | rfl | rfl <;> (simp only at this; omega))
  have hz16 : w15.heap.size ≤ w16.heap.size := by simpa using hbutx1.size
  clear qa00 qa01 qa10 qa11 qx00 qx01 qx10 qx11
  have qa00 := hsssdssssasasssdssdssmm.cellAt 0 rfl 0 rfl
  have qa01 := hsssdssssasasssdssdssmm.cellAt 0 rfl 1 rfl
  have qa10 := hsssdssssasasssdssdssmm.cellAt 1 rfl 0 rfl
  have qa11 := hsssdssssasasssdssdssmm.cellAt 1 rfl 1 rfl
  have qx00 := hsssdssssasasssdssdssmm.cellAt 2 rfl 0 rfl
  have qx01 := hsssdssssasasssdssdssmm.cellAt 2 rfl 1 rfl
  have qx10 := hsssdssssasasssdssdssmm.cellAt 3 rfl 0 rfl
  have qx11 := hsssdssssasasssdssdssmm.cellAt 3 rfl 1 rfl
  go_wp2_with fail
  refine (eqRelS_s r0 _ _ _ (rd_cons rfl (Iv.rd JG''''''''''.out)).1 (rd_cons rfl (Iv.rd JW'''''''''''''''.out)).1).mono ?_
  rintro e w17 ⟨rfl, hb17⟩
  have JW'''''''''''''''' := Lib.hid (Iv.mono JW'''''''''''''''.out hb17)
  clear JW'''''''''''''''
  have JG''''''''''' := Lib.hid (Iv.mono JG''''''''''.out hb17)
  clear JG''''''''''
  have hsssdssssasasssdssdssmms := hsssdssssasasssdssdssmm.step hb17
  have hz17 : w16.heap.size ≤ w17.heap.size := by simpa using hb17.size
  clear qa00 qa01 qa10 qa11 qx00 qx01 qx10 qx11
  have qa00 := hsssdssssasasssdssdssmms.cellAt 0 rfl 0 rfl
  have qa01 := hsssdssssasasssdssdssmms.cellAt 0 rfl 1 rfl
  have qa10 := hsssdssssasasssdssdssmms.cellAt 1 rfl 0 rfl
  have qa11 := hsssdssssasasssdssdssmms.cellAt 1 rfl 1 rfl
  have qx00 := hsssdssssasasssdssdssmms.cellAt 2 rfl 0 rfl
  have qx01 := hsssdssssasasssdssdssmms.cellAt 2 rfl 1 rfl
  have qx10 := hsssdssssasasssdssdssmms.cellAt 3 rfl 0 rfl
  have qx11 := hsssdssssasasssdssdssmms.cellAt 3 rfl 1 rfl
  go_wp2_with fail
  refine (eqPairStepS_s r1 _ _ _ (rd_cons rfl (Iv.rd JG'''''''''''.out)).2 (rd_cons rfl (Iv.rd JW''''''''''''''''.out)).2).mono ?_
  rintro e w18 ⟨rfl, hb18⟩
  have JW''''''''''''''''' := Lib.hid (Iv.mono JW''''''''''''''''.out hb18)
  clear JW''''''''''''''''
  have JG'''''''''''' := Lib.hid (Iv.mono JG'''''''''''.out hb18)
  clear JG'''''''''''
  have hsssdssssasasssdssdssmmss := hsssdssssasasssdssdssmms.step hb18
  have hz18 : w17.heap.size ≤ w18.heap.size := by simpa using hb18.size
  clear qa00 qa01 qa10 qa11 qx00 qx01 qx10 qx11
  have qa00 := hsssdssssasasssdssdssmmss.cellAt 0 rfl 0 rfl
  have qa01 := hsssdssssasasssdssdssmmss.cellAt 0 rfl 1 rfl
  have qa10 := hsssdssssasasssdssdssmmss.cellAt 1 rfl 0 rfl
  have qa11 := hsssdssssasasssdssdssmmss.cellAt 1 rfl 1 rfl
  have qx00 := hsssdssssasasssdssdssmmss.cellAt 2 rfl 0 rfl
  have qx01 := hsssdssssasasssdssdssmmss.cellAt 2 rfl 1 rfl
  have qx10 := hsssdssssasasssdssdssmmss.cellAt 3 rfl 0 rfl
  have qx11 := hsssdssssasasssdssdssmmss.cellAt 3 rfl 1 rfl
  obtain ⟨psG, hoG, hnG, hpG⟩ := JG''''''''''''.out
  obtain ⟨pG0, pG1, hpe, ho0, ho1⟩ := own_cons rfl hoG
  rw [hpe] at hnG hpG
  have HO0 := Lib.hid ho0
  have HO1 := Lib.hid ho1
  clear hoG ho0 ho1 hpe
  have hnG2 := List.nodup_append.1 hnG
  clear JG''''''''''''
  go_wp2_with fail
  refine (markRelS_g r0 _ pG0 1 _ HO0.out hnG2.1 (by omega) (by omega)).mono ?_
  rintro e w19 ⟨yG, mG, rfl, l0G0, l1G0, hyG0, hhG0, hbutG0⟩
  have HYG := Lib.hid hyG0
  have HHG := Lib.hid hhG0
  clear hyG0 hhG0 HO0
  have hqG0 : ∀ k, k ∈ pG0 → w7.heap.size + 1 ≤ k ∧ k < w8.heap.size := fun k hk => by have := hpG k (List.mem_append.2 (.inl hk)); simpa using this
  have HO1' := Lib.hid (Own.but HO1.out hbutG0 (fun z hz hz1 => hnG2.2.2 z hz1 z hz rfl))
  clear HO1
  have HO1 := HO1'
  clear HO1'
  have JW'''''''''''''''''' := Lib.hid (Iv.but JW'''''''''''''''''.out hbutG0 (fun k hk => by have := hqG0 k hk; simp; omega))
  clear JW'''''''''''''''''
  have hsssdssssasasssdssdssmmssm := hsssdssssasasssdssdssmmss.butIv hbutG0 (fun k hk => by have := hqG0 k hk; omega) (fun x hx hp => by
    have := hqG0 _ hp
    simp only [List.mem_append, List.mem_cons, List.mem_nil_iff, or_false, List.not_mem_nil, false_or, or_assoc] at hx
    rcases hx with rfl | rfl | rfl | rfl <;> (simp only at this; omega))
  have hz19 : w18.heap.size ≤ w19.heap.size := by simpa using hbutG0.size
  clear qa00 qa01 qa10 qa11 qx00 qx01 qx10 qx11
  have qa00 := hsssdssssasasssdssdssmmssm.cellAt 0 rfl 0 rfl
  have qa01 := hsssdssssasasssdssdssmmssm.cellAt 0 rfl 1 rfl
  have qa10 := hsssdssssasasssdssdssmmssm.cellAt 1 rfl 0 rfl
  have qa11 := hsssdssssasasssdssdssmmssm.cellAt 1 rfl 1 rfl
  have qx00 := hsssdssssasasssdssdssmmssm.cellAt 2 rfl 0 rfl
  have qx01 := hsssdssssasasssdssdssmmssm.cellAt 2 rfl 1 rfl
  have qx10 := hsssdssssasasssdssdssmmssm.cellAt 3 rfl 0 rfl
  have qx11 := hsssdssssasasssdssdssmmssm.cellAt 3 rfl 1 rfl
  go_wp2_with fail
  refine (markPairStepS_g r1 _ pG1 mG _ HO1.out hnG2.2.1 (by omega) (by omega)).mono ?_
  rintro e w20 ⟨yG1, mG1, rfl, l0G1, l1G1, hyG1, hhG1, hbutG1⟩
  have HYG1 := Lib.hid hyG1
  have HHG1 := Lib.hid hhG1
  clear hyG1 hhG1 HO1
  have hqG1 : ∀ k, k ∈ pG1 → w7.heap.size + 1 ≤ k ∧ k < w8.heap.size := fun k hk => by have := hpG k (List.mem_append.2 (.inr hk)); simpa using this
  have HYG' := Lib.hid (Own.but HYG.out hbutG1 (fun z hz hz1 => hnG2.2.2 z hz z hz1 rfl))
  clear HYG
  have HYG := HYG'
  clear HYG'
  have JW''''''''''''''''''' := Lib.hid (Iv.but JW''''''''''''''''''.out hbutG1 (fun k hk => by have := hqG1 k hk; simp; omega))
  clear JW''''''''''''''''''
  have hsssdssssasasssdssdssmmssmm := hsssdssssasasssdssdssmmssm.butIv hbutG1 (fun k hk => by have := hqG1 k hk; omega) (fun x hx hp => by
    have := hqG1 _ hp
    simp only [List.mem_append, List.mem_cons, List.mem_nil_iff, or_false, List.not_mem_nil, false_or, or_assoc] at hx
    rcases hx with rfl | rfl | rfl | rfl <;> (simp only at this; omega))
  have hz20 : w19.heap.size ≤ w20.heap.size := by simpa using hbutG1.size
  clear qa00 qa01 qa10 qa11 qx00 qx01 qx10 qx11
  have qa00 := hsssdssssasasssdssdssmmssmm.cellAt 0 rfl 0 rfl
  have qa01 := hsssdssssasasssdssdssmmssmm.cellAt 0 rfl 1 rfl
  have qa10 := hsssdssssasasssdssdssmmssmm.cellAt 1 rfl 0 rfl
  have qa11 := hsssdssssasasssdssdssmmssmm.cellAt 1 rfl 1 rfl
  have qx00 := hsssdssssasasssdssdssmmssmm.cellAt 2 rfl 0 rfl
  have qx01 := hsssdssssasasssdssdssmmssmm.cellAt 2 rfl 1 rfl
  have qx10 := hsssdssssasasssdssdssmmssmm.cellAt 3 rfl 0 rfl
  have qx11 := hsssdssssasasssdssdssmmssmm.cellAt 3 rfl 1 rfl
  have HYr21 := Lib.hid (Own.rd HYG.out)
  go_wp2_with fail
  refine (heldRelS_g yG _ 1 mG _ HYr21.out HHG.out (by omega) (by omega) (by omega)).mono ?_
  rintro e w21 ⟨rfl, hb21⟩
  clear HYr21
  have HYG' := Lib.hid (Own.mono HYG.out hb21)
  clear HYG
  have HYG := HYG'
  clear HYG'
  have HYG' := Lib.hid (Own.mono HYG1.out hb21)
  clear HYG1
  have HYG1 := HYG'
  clear HYG'
  have JW'''''''''''''''''''' := Lib.hid (Iv.mono JW'''''''''''''''''''.out hb21)
  clear JW'''''''''''''''''''
  have hsssdssssasasssdssdssmmssmms := hsssdssssasasssdssdssmmssmm.step hb21
  have hz21 : w20.heap.size ≤ w21.heap.size := by simpa using hb21.size
  clear qa00 qa01 qa10 qa11 qx00 qx01 qx10 qx11
  have qa00 := hsssdssssasasssdssdssmmssmms.cellAt 0 rfl 0 rfl
  have qa01 := hsssdssssasasssdssdssmmssmms.cellAt 0 rfl 1 rfl
  have qa10 := hsssdssssasasssdssdssmmssmms.cellAt 1 rfl 0 rfl
  have qa11 := hsssdssssasasssdssdssmmssmms.cellAt 1 rfl 1 rfl
  have qx00 := hsssdssssasasssdssdssmmssmms.cellAt 2 rfl 0 rfl
  have qx01 := hsssdssssasasssdssdssmmssmms.cellAt 2 rfl 1 rfl
  have qx10 := hsssdssssasasssdssdssmmssmms.cellAt 3 rfl 0 rfl
  have qx11 := hsssdssssasasssdssdssmmssmms.cellAt 3 rfl 1 rfl
  have hm021 : ¬ mG < 0 := by omega
  have HYr22 := Lib.hid (Own.rd HYG1.out)
  go_wp2_with fail
  refine (heldPairStepS_g yG1 _ mG mG1 _ HYr22.out HHG1.out (by omega) (by omega) (by omega)).mono ?_
  rintro e w22 ⟨rfl, hb22⟩
  clear HYr22
  have HYG' := Lib.hid (Own.mono HYG.out hb22)
  clear HYG
  have HYG := HYG'
  clear HYG'
  have HYG' := Lib.hid (Own.mono HYG1.out hb22)
  clear HYG1
  have HYG1 := HYG'
  clear HYG'
  have JW''''''''''''''''''''' := Lib.hid (Iv.mono JW''''''''''''''''''''.out hb22)
  clear JW''''''''''''''''''''
  have hsssdssssasasssdssdssmmssmmss := hsssdssssasasssdssdssmmssmms.step hb22
  have hz22 : w21.heap.size ≤ w22.heap.size := by simpa using hb22.size
  clear qa00 qa01 qa10 qa11 qx00 qx01 qx10 qx11
  have qa00 := hsssdssssasasssdssdssmmssmmss.cellAt 0 rfl 0 rfl
  have qa01 := hsssdssssasasssdssdssmmssmmss.cellAt 0 rfl 1 rfl
  have qa10 := hsssdssssasasssdssdssmmssmmss.cellAt 1 rfl 0 rfl
  have qa11 := hsssdssssasasssdssdssmmssmmss.cellAt 1 rfl 1 rfl
  have qx00 := hsssdssssasasssdssdssmmssmmss.cellAt 2 rfl 0 rfl
  have qx01 := hsssdssssasasssdssdssmmssmmss.cellAt 2 rfl 1 rfl
  have qx10 := hsssdssssasasssdssdssmmssmmss.cellAt 3 rfl 0 rfl
  have qx11 := hsssdssssasasssdssdssmmssmmss.cellAt 3 rfl 1 rfl
  have hm022 : ¬ mG1 < 0 := by omega
  have hmm : (mG1 != mG1) = false := by simp
  go_wp2_with fail
  refine wp_region_noPanic (wp_region_el (fun w' => w'.cell? ⟨w.heap.size, 0, none⟩ = some (.int .i64 x00) ∧ w'.cell? ⟨w.heap.size, 1, none⟩ = some (.slice a01 x01.length c01) ∧ w'.cell? ⟨w.heap.size + 1, 0, none⟩ = some (.int .i64 x10) ∧ w'.cell? ⟨w.heap.size + 1, 1, none⟩ = some (.slice a11 x11.length c11) ∧ w'.cell? ⟨w6.heap.size, 0, none⟩ = some (.int .i64 x00) ∧ w'.cell? ⟨w6.heap.size, 1, none⟩ = some (.slice ax01 x01.length cx01) ∧ w'.cell? ⟨w7.heap.size, 0, none⟩ = some (.int .i64 x10) ∧ w'.cell? ⟨w7.heap.size, 1, none⟩ = some (.slice ax11 x11.length cx11)) [(0, 0), (2, 0), (1, 1), (3, 1), (4, 1), (5, 0), (6, 0), (7, 0), (8, 0), (9, 0), (10, 0), (11, 0)] (by kernel_rfl) (by kernel_rfl) (by kernel_rfl) rfl ?_ (fun _ _ _ _ _ h => h) ?_)
  · exact ⟨(hsssdssssasasssdssdssmmssmmss.drew).cellAt 0 rfl 0 rfl, (hsssdssssasasssdssdssmmssmmss.drew).cellAt 0 rfl 1 rfl, (hsssdssssasasssdssdssmmssmmss.drew).cellAt 1 rfl 0 rfl, (hsssdssssasasssdssdssmmssmmss.drew).cellAt 1 rfl 1 rfl, (hsssdssssasasssdssdssmmssmmss.drew).cellAt 2 rfl 0 rfl, (hsssdssssasasssdssdssmmssmmss.drew).cellAt 2 rfl 1 rfl, (hsssdssssasasssdssdssmmssmmss.drew).cellAt 3 rfl 0 rfl, (hsssdssssasasssdssdssmmssmmss.drew).cellAt 3 rfl 1 rfl⟩
  have JW'''''''''''''''''''''' := Lib.hid (Iv.mono JW'''''''''''''''''''''.out (belowD _))
  clear JW'''''''''''''''''''''
  have hsssdssssasasssdssdssmmssmmssd := hsssdssssasasssdssdssmmssmmss.drew
  (repeat (first | (apply el_skip rfl (by rfl); try simp only [Act.put, List.setIfInBounds_toArray, List.set_cons_zero, List.set_cons_succ]) | (apply el_float rfl (by rfl); (· (intro w' hS; go_simp <;> with_reducible rfl)); (try simp only [Act.put, List.setIfInBounds_toArray, List.set_cons_zero, List.set_cons_succ]))))
  have HYG' := Lib.hid (Own.mono HYG.out (belowD _))
  clear HYG
  have HYG := HYG'
  clear HYG'
  have HYG' := Lib.hid (Own.mono HYG1.out (belowD _))
  clear HYG1
  have HYG1 := HYG'
  clear HYG'
  refine el_hard rfl (by rfl) (fun K hK => ?_)
  go_wp2_with (go_at_call 14; refine (toTemplate_b (x00, x01) _ _ _ (Rd.mono H0.out hsssdssssasasssdssdssmmssmmssd.bel) gc0).mono ?_; rintro e w23 ⟨ut00, ut01, rfl, frt0, hb23⟩)
  have JW''''''''''''''''''''''' := Lib.hid (Iv.mono JW''''''''''''''''''''''.out hb23)
  clear JW''''''''''''''''''''''
  have hsssdssssasasssdssdssmmssmmssds := hsssdssssasasssdssdssmmssmmssd.step hb23
  have hz23 : w22.heap.size ≤ w23.heap.size := by simpa using hb23.size
  have Jt0 := Lib.hid (Fresh.iv frt0)
  have zt00 := rd_cons rfl (Iv.rd Jt0.out)
  obtain ⟨rfl, _⟩ := rd_i1 zt00.1
  obtain ⟨at01, ct01, rfl, _⟩ := rd_list zt00.2
  clear zt00
  clear frt0
  refine ⟨⟨hsssdssssasasssdssdssmmssmmssds.cellAt 0 rfl 0 rfl, hsssdssssasasssdssdssmmssmmssds.cellAt 0 rfl 1 rfl, hsssdssssasasssdssdssmmssmmssds.cellAt 1 rfl 0 rfl, hsssdssssasasssdssdssmmssmmssds.cellAt 1 rfl 1 rfl, hsssdssssasasssdssdssmmssmmssds.cellAt 2 rfl 0 rfl, hsssdssssasasssdssdssmmssmmssds.cellAt 2 rfl 1 rfl, hsssdssssasasssdssdssmmssmmssds.cellAt 3 rfl 0 rfl, hsssdssssasasssdssdssmmssmmssds.cellAt 3 rfl 1 rfl⟩, ?_⟩
  (repeat (first | (apply el_skip rfl (by rfl); try simp only [Act.put, List.setIfInBounds_toArray, List.set_cons_zero, List.set_cons_succ]) | (apply el_float rfl (by rfl); (· (intro w' hS; go_simp <;> with_reducible rfl)); (try simp only [Act.put, List.setIfInBounds_toArray, List.set_cons_zero, List.set_cons_succ]))))
  have HYG' := Lib.hid (Own.mono HYG.out hb23)
  clear HYG
  have HYG := HYG'
  clear HYG'
  have HYG' := Lib.hid (Own.mono HYG1.out hb23)
  clear HYG1
  have HYG1 := HYG'
  clear HYG'
  refine el_hard rfl (by rfl) (fun K hK => ?_)
  go_wp2_with (go_at_call 15; refine (toInstance_b (x10, x11) _ _ _ (Rd.mono H1.out hsssdssssasasssdssdssmmssmmssds.bel) gc1).mono ?_; rintro e w24 ⟨ut10, ut11, rfl, frt1, hb24⟩)
  have JW'''''''''''''''''''''''' := Lib.hid (Iv.mono JW'''''''''''''''''''''''.out hb24)
  clear JW'''''''''''''''''''''''
  have Jt0' := Lib.hid (Iv.mono Jt0.out hb24)
  clear Jt0
  have hsssdssssasasssdssdssmmssmmssdss := hsssdssssasasssdssdssmmssmmssds.step hb24
  have hz24 : w23.heap.size ≤ w24.heap.size := by simpa using hb24.size
  have Jt1 := Lib.hid (Fresh.iv frt1)
  have zt10 := rd_cons rfl (Iv.rd Jt1.out)
  obtain ⟨rfl, _⟩ := rd_i1 zt10.1
  obtain ⟨at11, ct11, rfl, _⟩ := rd_list zt10.2
  clear zt10
  clear frt1
  refine ⟨⟨hsssdssssasasssdssdssmmssmmssdss.cellAt 0 rfl 0 rfl, hsssdssssasasssdssdssmmssmmssdss.cellAt 0 rfl 1 rfl, hsssdssssasasssdssdssmmssmmssdss.cellAt 1 rfl 0 rfl, hsssdssssasasssdssdssmmssmmssdss.cellAt 1 rfl 1 rfl, hsssdssssasasssdssdssmmssmmssdss.cellAt 2 rfl 0 rfl, hsssdssssasasssdssdssmmssmmssdss.cellAt 2 rfl 1 rfl, hsssdssssasasssdssdssmmssmmssdss.cellAt 3 rfl 0 rfl, hsssdssssasasssdssdssmmssmmssdss.cellAt 3 rfl 1 rfl⟩, ?_⟩
  (repeat (first | (apply el_skip rfl (by rfl); try simp only [Act.put, List.setIfInBounds_toArray, List.set_cons_zero, List.set_cons_succ]) | (apply el_float rfl (by rfl); (· (intro w' hS; go_simp <;> with_reducible rfl)); (try simp only [Act.put, List.setIfInBounds_toArray, List.set_cons_zero, List.set_cons_succ]))))
  have HYG' := Lib.hid (Own.mono HYG.out hb24)
  clear HYG
  have HYG := HYG'
  clear HYG'
  have HYG' := Lib.hid (Own.mono HYG1.out hb24)
  clear HYG1
  have HYG1 := HYG'
  clear HYG'
  refine el_hard rfl (by rfl) (fun K hK => ?_)
  go_wp2_with (go_at_call 28; refine (CI.out _ _ _ _ _ (Iv.rd Jt0'.out) (Iv.rd Jt1.out)).mono ?_; rintro e w25 ⟨uK0, uK1, rfl, frK, hb25⟩)
  have JW''''''''''''''''''''''''' := Lib.hid (Iv.mono JW''''''''''''''''''''''''.out hb25)
  clear JW''''''''''''''''''''''''
  have Jt0'' := Lib.hid (Iv.mono Jt0'.out hb25)
  clear Jt0'
  have Jt1' := Lib.hid (Iv.mono Jt1.out hb25)
  clear Jt1
  have hsssdssssasasssdssdssmmssmmssdsss := hsssdssssasasssdssdssmmssmmssdss.step hb25
  have hz25 : w24.heap.size ≤ w25.heap.size := by simpa using hb25.size
  have JK := Lib.hid (Fresh.iv frK)
  have zK0 := rd_cons rfl (Iv.rd JK.out)
  obtain ⟨aK0, cK0, rfl, _⟩ := rd_list zK0.1
  obtain ⟨aK1, cK1, rfl, _⟩ := rd_list zK0.2
  clear zK0
  clear frK
  have HYG' := Lib.hid (Own.mono HYG.out hb25)
  clear HYG
  have HYG := HYG'
  clear HYG'
  have HYG' := Lib.hid (Own.mono HYG1.out hb25)
  clear HYG1
  have HYG1 := HYG'
  clear HYG'
  clear Jt0''
  clear Jt1'
  refine ⟨⟨hsssdssssasasssdssdssmmssmmssdsss.cellAt 0 rfl 0 rfl, hsssdssssasasssdssdssmmssmmssdsss.cellAt 0 rfl 1 rfl, hsssdssssasasssdssdssmmssmmssdsss.cellAt 1 rfl 0 rfl, hsssdssssasasssdssdssmmssmmssdsss.cellAt 1 rfl 1 rfl, hsssdssssasasssdssdssmmssmmssdsss.cellAt 2 rfl 0 rfl, hsssdssssasasssdssdssmmssmmssdsss.cellAt 2 rfl 1 rfl, hsssdssssasasssdssdssmmssmmssdsss.cellAt 3 rfl 0 rfl, hsssdssssasasssdssdssmmssmmssdsss.cellAt 3 rfl 1 rfl⟩, ?_⟩
  (repeat (first | (apply el_skip rfl (by rfl); try simp only [Act.put, List.setIfInBounds_toArray, List.set_cons_zero, List.set_cons_succ]) | (apply el_float rfl (by rfl); (· (intro w' hS; go_simp <;> with_reducible rfl)); (try simp only [Act.put, List.setIfInBounds_toArray, List.set_cons_zero, List.set_cons_succ]))))
  refine el_nil (NoPanic.normal ?_)
  clear qa00 qa01 qa10 qa11 qx00 qx01 qx10 qx11
  have qa00 := hsssdssssasasssdssdssmmssmmssdsss.cellAt 0 rfl 0 rfl
  have qa01 := hsssdssssasasssdssdssmmssmmssdsss.cellAt 0 rfl 1 rfl
  have qa10 := hsssdssssasasssdssdssmmssmmssdsss.cellAt 1 rfl 0 rfl
  have qa11 := hsssdssssasasssdssdssmmssmmssdsss.cellAt 1 rfl 1 rfl
  have qx00 := hsssdssssasasssdssdssmmssmmssdsss.cellAt 2 rfl 0 rfl
  have qx01 := hsssdssssasasssdssdssmmssmmssdsss.cellAt 2 rfl 1 rfl
  have qx10 := hsssdssssasasssdssdssmmssmmssdsss.cellAt 3 rfl 0 rfl
  have qx11 := hsssdssssasasssdssdssmmssmmssdsss.cellAt 3 rfl 1 rfl
  go_wp2_with fail
  refine (eqRelS_s r0 _ _ _ (rd_cons rfl (Iv.rd JK.out)).1 (rd_cons rfl (Iv.rd JW'''''''''''''''''''''''''.out)).1).mono ?_
  rintro e w26 ⟨rfl, hb26⟩
  have JW'''''''''''''''''''''''''' := Lib.hid (Iv.mono JW'''''''''''''''''''''''''.out hb26)
  clear JW'''''''''''''''''''''''''
  have JK' := Lib.hid (Iv.mono JK.out hb26)
  clear JK
  have hsssdssssasasssdssdssmmssmmssdssss := hsssdssssasasssdssdssmmssmmssdsss.step hb26
  have hz26 : w25.heap.size ≤ w26.heap.size := by simpa using hb26.size
  clear qa00 qa01 qa10 qa11 qx00 qx01 qx10 qx11
  have qa00 := hsssdssssasasssdssdssmmssmmssdssss.cellAt 0 rfl 0 rfl
  have qa01 := hsssdssssasasssdssdssmmssmmssdssss.cellAt 0 rfl 1 rfl
  have qa10 := hsssdssssasasssdssdssmmssmmssdssss.cellAt 1 rfl 0 rfl
  have qa11 := hsssdssssasasssdssdssmmssmmssdssss.cellAt 1 rfl 1 rfl
  have qx00 := hsssdssssasasssdssdssmmssmmssdssss.cellAt 2 rfl 0 rfl
  have qx01 := hsssdssssasasssdssdssmmssmmssdssss.cellAt 2 rfl 1 rfl
  have qx10 := hsssdssssasasssdssdssmmssmmssdssss.cellAt 3 rfl 0 rfl
  have qx11 := hsssdssssasasssdssdssmmssmmssdssss.cellAt 3 rfl 1 rfl
  have HYG' := Lib.hid (Own.mono HYG.out hb26)
  clear HYG
  have HYG := HYG'
  clear HYG'
  have HYG' := Lib.hid (Own.mono HYG1.out hb26)
  clear HYG1
  have HYG1 := HYG'
  clear HYG'
  go_wp2_with fail
  refine (eqPairStepS_s r1 _ _ _ (rd_cons rfl (Iv.rd JK'.out)).2 (rd_cons rfl (Iv.rd JW''''''''''''''''''''''''''.out)).2).mono ?_
  rintro e w27 ⟨rfl, hb27⟩
  have JW''''''''''''''''''''''''''' := Lib.hid (Iv.mono JW''''''''''''''''''''''''''.out hb27)
  clear JW''''''''''''''''''''''''''
  have JK'' := Lib.hid (Iv.mono JK'.out hb27)
  clear JK'
  have hsssdssssasasssdssdssmmssmmssdsssss := hsssdssssasasssdssdssmmssmmssdssss.step hb27
  have hz27 : w26.heap.size ≤ w27.heap.size := by simpa using hb27.size
  clear qa00 qa01 qa10 qa11 qx00 qx01 qx10 qx11
  have qa00 := hsssdssssasasssdssdssmmssmmssdsssss.cellAt 0 rfl 0 rfl
  have qa01 := hsssdssssasasssdssdssmmssmmssdsssss.cellAt 0 rfl 1 rfl
  have qa10 := hsssdssssasasssdssdssmmssmmssdsssss.cellAt 1 rfl 0 rfl
  have qa11 := hsssdssssasasssdssdssmmssmmssdsssss.cellAt 1 rfl 1 rfl
  have qx00 := hsssdssssasasssdssdssmmssmmssdsssss.cellAt 2 rfl 0 rfl
  have qx01 := hsssdssssasasssdssdssmmssmmssdsssss.cellAt 2 rfl 1 rfl
  have qx10 := hsssdssssasasssdssdssmmssmmssdsssss.cellAt 3 rfl 0 rfl
  have qx11 := hsssdssssasasssdssdssmmssmmssdsssss.cellAt 3 rfl 1 rfl
  have HYG' := Lib.hid (Own.mono HYG.out hb27)
  clear HYG
  have HYG := HYG'
  clear HYG'
  have HYG' := Lib.hid (Own.mono HYG1.out hb27)
  clear HYG1
  have HYG1 := HYG'
  clear HYG'
  have HYr28 := Lib.hid (Own.rd HYG.out)
  go_wp2_with fail
  refine (heldRelS_g yG _ 1 mG _ HYr28.out HHG.out (by omega) (by omega) (by omega)).mono ?_
  rintro e w28 ⟨rfl, hb28⟩
  clear HYr28
  have HYG' := Lib.hid (Own.mono HYG.out hb28)
  clear HYG
  have HYG := HYG'
  clear HYG'
  have HYG' := Lib.hid (Own.mono HYG1.out hb28)
  clear HYG1
  have HYG1 := HYG'
  clear HYG'
  have JW'''''''''''''''''''''''''''' := Lib.hid (Iv.mono JW'''''''''''''''''''''''''''.out hb28)
  clear JW'''''''''''''''''''''''''''
  have JK''' := Lib.hid (Iv.mono JK''.out hb28)
  clear JK''
  have hsssdssssasasssdssdssmmssmmssdssssss := hsssdssssasasssdssdssmmssmmssdsssss.step hb28
  have hz28 : w27.heap.size ≤ w28.heap.size := by simpa using hb28.size
  clear qa00 qa01 qa10 qa11 qx00 qx01 qx10 qx11
  have qa00 := hsssdssssasasssdssdssmmssmmssdssssss.cellAt 0 rfl 0 rfl
  have qa01 := hsssdssssasasssdssdssmmssmmssdssssss.cellAt 0 rfl 1 rfl
  have qa10 := hsssdssssasasssdssdssmmssmmssdssssss.cellAt 1 rfl 0 rfl
  have qa11 := hsssdssssasasssdssdssmmssmmssdssssss.cellAt 1 rfl 1 rfl
  have qx00 := hsssdssssasasssdssdssmmssmmssdssssss.cellAt 2 rfl 0 rfl
  have qx01 := hsssdssssasasssdssdssmmssmmssdssssss.cellAt 2 rfl 1 rfl
  have qx10 := hsssdssssasasssdssdssmmssmmssdssssss.cellAt 3 rfl 0 rfl
  have qx11 := hsssdssssasasssdssdssmmssmmssdssssss.cellAt 3 rfl 1 rfl
  have hm028 : ¬ mG < 0 := by omega
  have HYr29 := Lib.hid (Own.rd HYG1.out)
  go_wp2_with fail
  refine (heldPairStepS_g yG1 _ mG mG1 _ HYr29.out HHG1.out (by omega) (by omega) (by omega)).mono ?_
  rintro e w29 ⟨rfl, hb29⟩
  clear HYr29
  have HYG' := Lib.hid (Own.mono HYG.out hb29)
  clear HYG
  have HYG := HYG'
  clear HYG'
  have HYG' := Lib.hid (Own.mono HYG1.out hb29)
  clear HYG1
  have HYG1 := HYG'
  clear HYG'
  have JW''''''''''''''''''''''''''''' := Lib.hid (Iv.mono JW''''''''''''''''''''''''''''.out hb29)
  clear JW''''''''''''''''''''''''''''
  have JK'''' := Lib.hid (Iv.mono JK'''.out hb29)
  clear JK'''
  have hsssdssssasasssdssdssmmssmmssdsssssss := hsssdssssasasssdssdssmmssmmssdssssss.step hb29
  have hz29 : w28.heap.size ≤ w29.heap.size := by simpa using hb29.size
  clear qa00 qa01 qa10 qa11 qx00 qx01 qx10 qx11
  have qa00 := hsssdssssasasssdssdssmmssmmssdsssssss.cellAt 0 rfl 0 rfl
  have qa01 := hsssdssssasasssdssdssmmssmmssdsssssss.cellAt 0 rfl 1 rfl
  have qa10 := hsssdssssasasssdssdssmmssmmssdsssssss.cellAt 1 rfl 0 rfl
  have qa11 := hsssdssssasasssdssdssmmssmmssdsssssss.cellAt 1 rfl 1 rfl
  have qx00 := hsssdssssasasssdssdssmmssmmssdsssssss.cellAt 2 rfl 0 rfl
  have qx01 := hsssdssssasasssdssdssmmssmmssdsssssss.cellAt 2 rfl 1 rfl
  have qx10 := hsssdssssasasssdssdssmmssmmssdsssssss.cellAt 3 rfl 0 rfl
  have qx11 := hsssdssssasasssdssdssmmssmmssdsssssss.cellAt 3 rfl 1 rfl
  have hm029 : ¬ mG1 < 0 := by omega
  go_wp2_with fail
  go_ret
  exact ⟨rfl, hsssdssssasasssdssdssmmssmmssdsssssss.bel⟩

end Go.Proofs.YtjkjfjpajmjglaaGreat
