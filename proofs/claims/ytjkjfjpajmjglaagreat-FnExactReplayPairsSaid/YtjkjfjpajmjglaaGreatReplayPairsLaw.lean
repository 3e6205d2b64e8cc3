/-
  THE LAW FnExactReplayPairs, WALKED. (Printed by wip/genlawm.py.)
-/
import Derived.Test.YtjkjfjpajmjglaaGreatKinds
import Derived.Test.YtjkjfjpajmjglaaGreatMarkT
import Derived.Test.YtjkjfjpajmjglaaGreatMarkS
import Derived.Test.YtjkjfjpajmjglaaGreatReplayQS
namespace Go.Proofs.YtjkjfjpajmjglaaGreat
open Go.RowKit Go.Shelf
open Rep (Rd Own sz)
set_option linter.unusedSimpArgs false
set_option linter.unusedVariables false

theorem sum_two : ∀ {l : List (List Int)}, (∀ y, y ∈ l → y.length = 2) → (l.map List.length).sum = 2 * l.length
  | [], _ => rfl
  | y :: l, h => by
    have h1 := h y (by simp)
    have h2 := sum_two (l := l) (fun z hz => h z (by simp [hz]))
    simp only [List.map_cons, List.sum_cons, List.length_cons]
    omega
theorem mcRelS_le {n : Nat} : ∀ {P : List RelT}, (∀ r, r ∈ P → mcRelE r ≤ n) → mc_RelS P ≤ n * P.length
  | [], _ => by simp [mc_RelS]
  | r :: P, h => by
    have h1 := h r (by simp)
    have h2 := mcRelS_le (P := P) (fun z hz => h z (by simp [hz]))
    unfold mc_RelS at h2 ⊢
    simp only [List.map_cons, List.sum_cons, List.length_cons, Nat.mul_add, Nat.mul_one]
    omega
theorem mcRelS_pair {size : Int} {V : Nat} {P : List RelT} (h : PairOk size V P) (hs : 1 ≤ size ∧ size ≤ 4) (hV : V ≤ 10) : mc_RelS P ≤ 1000000 := by
  have h1 := mcRelS_le (n := 33) (P := P) (fun r hr => by
    obtain ⟨q, rfl⟩ := h.sel r hr
    unfold mcRelE
    rw [sum_two (fun y hy => (selT_mem2 hs.1 hy).1)]
    have h2 := selT_len q size 2 (sqN size)
    have h3 := (sqN_le hs).2.1
    omega)
  have h2 := tri_ten hV
  rw [h.len] at h1
  omega
theorem replayPF_small (t : Tmpl) (x : Inst) (steps : List (Int × Int × Int)) : mc_RelS (replayPF t x steps).1 ≤ 1000000 := by
  unfold replayPF
  by_cases h : instOk t x = true
  · rw [if_pos h]
    have h6 := (instOk_get h).2.1
    rcases replayP_ok t.1 x.1 (by omega) steps 0 (fstP t x x.1.toNat) (fst_ok _) with h7 | h7
    · rw [h7]; simp [mc_RelS]
    · exact mcRelS_pair h7 (tmplOk_get (instOk_get h).1).1 (by omega)
  · rw [if_neg h]
    simp [mc_RelS]

set_option maxRecDepth 100000 in
set_option maxHeartbeats 8000000 in
theorem FnExactReplayPairs_c (x0 : Tmpl) (v00 v01 : Value) (x1 : Inst) (v10 v11 : Value) (x2 : List ((Int × Int × Int))) (v20 : Value) (w : World) (h0 : Rd w [v00, v01] x0) (h1 : Rd w [v10, v11] x1) (h2 : Rd w [v20] x2) :
    Calls Tryz.prog 3 #[.agg #[v00, v01], .agg #[v10, v11], v20] w fun e w' => e = .returned (.bool true) ∧ Below w.heap.size w w' := by
  have hsm : mc_RelS (replayPF x0 x1 x2).1 ≤ 1000000 := replayPF_small x0 x1 x2
  have cS := fun a00 a01 a10 a11 a20 W h0 h1 h2 zs => sReplayPairs_c x0 a00 a01 x1 a10 a11 x2 a20 W h0 h1 h2 zs
  have cI := fun a00 a01 a10 a11 a20 W h0 h1 h2 zs => ReplayPairs_c x0 a00 a01 x1 a10 a11 x2 a20 W h0 h1 h2 zs
  generalize replayPF x0 x1 x2 = R at cS cI hsm
  obtain ⟨r0, idx, code⟩ := R
  have CS := Lib.hid cS
  have CI := Lib.hid cI
  clear cS cI
  obtain ⟨x00, x01⟩ := x0
  have z00 := rd_cons rfl h0
  obtain ⟨rfl, _⟩ := rd_i1 z00.1
  obtain ⟨a01, c01, rfl, _⟩ := rd_list z00.2
  clear z00
  have H0 := Lib.hid h0
  clear h0
  obtain ⟨x10, x11⟩ := x1
  have z10 := rd_cons rfl h1
  obtain ⟨rfl, _⟩ := rd_i1 z10.1
  obtain ⟨a11, c11, rfl, _⟩ := rd_list z10.2
  clear z10
  have H1 := Lib.hid h1
  clear h1
  obtain ⟨a2, c2, rfl, _⟩ := rd_list h2
  have H2 := Lib.hid h2
  clear h2
  have hs := ((St.start w).alloc #[.int .i64 x00, .slice a01 x01.length c01] 24 rfl).alloc #[.int .i64 x10, .slice a11 x11.length c11] 27 (n := w.heap.size + 1) (by simp)
  go_enter Tryz.func3, Tryz.ntmps3
  go_wp2_with fail
  refine (szTemplate_b (x00, x01) _ _ (1048576) _ (Rd.mono H0.out hs.bel) (by omega) (by omega)).mono ?_
  rintro e w1 ⟨rfl, hb1⟩
  have hss := hs.step hb1
  have hz1 : w.heap.size + 2 ≤ w1.heap.size := by simpa using hb1.size
  rcases less_cases (1048576) (cost_Template (x00, x01)) with ⟨e1, g0⟩ | ⟨e1, g0⟩
  · rw [e1]
    clear e1
    go_wp2_with fail
    go_ret
    exact ⟨rfl, hss.bel⟩
  rw [e1]
  clear e1
  have qa00 := hss.cellAt 0 rfl 0 rfl
  have qa01 := hss.cellAt 0 rfl 1 rfl
  have qa10 := hss.cellAt 1 rfl 0 rfl
  have qa11 := hss.cellAt 1 rfl 1 rfl
  go_wp2_with fail
  refine (szInstance_b (x10, x11) _ _ (1048576 - (cost_Template (x00, x01))) _ (Rd.mono H1.out hss.bel) (by omega) (by omega)).mono ?_
  rintro e w2 ⟨rfl, hb2⟩
  have hsss := hss.step hb2
  have hz2 : w1.heap.size ≤ w2.heap.size := by simpa using hb2.size
  rcases less_cases (1048576 - (cost_Template (x00, x01))) (cost_Instance (x10, x11)) with ⟨e1, g1⟩ | ⟨e1, g1⟩
  · rw [e1]
    clear e1
    go_wp2_with fail
    go_ret
    exact ⟨rfl, hsss.bel⟩
  rw [e1]
  clear e1
  clear qa00 qa01 qa10 qa11
  have qa00 := hsss.cellAt 0 rfl 0 rfl
  have qa01 := hsss.cellAt 0 rfl 1 rfl
  have qa10 := hsss.cellAt 1 rfl 0 rfl
  have qa11 := hsss.cellAt 1 rfl 1 rfl
  go_wp2_with fail
  refine (szPairStepS_b x2 _ (1048576 - (cost_Template (x00, x01)) - (cost_Instance (x10, x11))) _ (Rd.mono H2.out hsss.bel) (by omega) (by omega)).mono ?_
  rintro e w3 ⟨rfl, hb3⟩
  have hssss := hsss.step hb3
  have hz3 : w2.heap.size ≤ w3.heap.size := by simpa using hb3.size
  rcases less_cases (1048576 - (cost_Template (x00, x01)) - (cost_Instance (x10, x11))) (cost_PairStepS x2) with ⟨e1, g2⟩ | ⟨e1, g2⟩
  · rw [e1]
    clear e1
    go_wp2_with fail
    go_ret
    exact ⟨rfl, hssss.bel⟩
  rw [e1]
  clear e1
  clear qa00 qa01 qa10 qa11
  have qa00 := hssss.cellAt 0 rfl 0 rfl
  have qa01 := hssss.cellAt 0 rfl 1 rfl
  have qa10 := hssss.cellAt 1 rfl 0 rfl
  have qa11 := hssss.cellAt 1 rfl 1 rfl
  have gc0 : cost_Template (x00, x01) ≤ 1048576 := by omega
  have gc1 : cost_Instance (x10, x11) ≤ 1048576 := by omega
  have gc2 : cost_PairStepS x2 ≤ 1048576 := by omega
  go_wp2_with fail
  refine wp_region_noPanic (wp_region_el (fun w' => w'.cell? ⟨w.heap.size, 0, none⟩ = some (.int .i64 x00) ∧ w'.cell? ⟨w.heap.size, 1, none⟩ = some (.slice a01 x01.length c01) ∧ w'.cell? ⟨w.heap.size + 1, 0, none⟩ = some (.int .i64 x10) ∧ w'.cell? ⟨w.heap.size + 1, 1, none⟩ = some (.slice a11 x11.length c11)) [(0, 0), (2, 0), (4, 0), (1, 1), (3, 1), (5, 1), (6, 1), (7, 0), (8, 0), (9, 0), (10, 0), (11, 0), (12, 0), (13, 0)] (by kernel_rfl) (by kernel_rfl) (by kernel_rfl) rfl ?_ (fun _ _ _ _ _ h => h) ?_)
  · exact ⟨(hssss.drew).cellAt 0 rfl 0 rfl, (hssss.drew).cellAt 0 rfl 1 rfl, (hssss.drew).cellAt 1 rfl 0 rfl, (hssss.drew).cellAt 1 rfl 1 rfl⟩
  have hssssd := hssss.drew
  (repeat (first | (apply el_skip rfl (by rfl); try simp only [Act.put, List.setIfInBounds_toArray, List.set_cons_zero, List.set_cons_succ]) | (apply el_float rfl (by rfl); (· (intro w' hS; go_simp <;> with_reducible rfl)); (try simp only [Act.put, List.setIfInBounds_toArray, List.set_cons_zero, List.set_cons_succ]))))
  refine el_hard rfl (by rfl) (fun K hK => ?_)
  go_wp2_with (go_at_call 14; refine (toTemplate_b (x00, x01) _ _ _ (Rd.mono H0.out hssssd.bel) gc0).mono ?_; rintro e w4 ⟨us00, us01, rfl, frs0, hb4⟩)
  have hssssds := hssssd.step hb4
  have hz4 : w3.heap.size ≤ w4.heap.size := by simpa using hb4.size
  have Js0 := Lib.hid (Fresh.iv frs0)
  have zs00 := rd_cons rfl (Iv.rd Js0.out)
  obtain ⟨rfl, _⟩ := rd_i1 zs00.1
  obtain ⟨as01, cs01, rfl, _⟩ := rd_list zs00.2
  clear zs00
  clear frs0
  refine ⟨⟨hssssds.cellAt 0 rfl 0 rfl, hssssds.cellAt 0 rfl 1 rfl, hssssds.cellAt 1 rfl 0 rfl, hssssds.cellAt 1 rfl 1 rfl⟩, ?_⟩
  (repeat (first | (apply el_skip rfl (by rfl); try simp only [Act.put, List.setIfInBounds_toArray, List.set_cons_zero, List.set_cons_succ]) | (apply el_float rfl (by rfl); (· (intro w' hS; go_simp <;> with_reducible rfl)); (try simp only [Act.put, List.setIfInBounds_toArray, List.set_cons_zero, List.set_cons_succ]))))
  refine el_hard rfl (by rfl) (fun K hK => ?_)
  go_wp2_with (go_at_call 15; refine (toInstance_b (x10, x11) _ _ _ (Rd.mono H1.out hssssds.bel) gc1).mono ?_; rintro e w5 ⟨us10, us11, rfl, frs1, hb5⟩)
  have Js0' := Lib.hid (Iv.mono Js0.out hb5)
  clear Js0
  have hssssdss := hssssds.step hb5
  have hz5 : w4.heap.size ≤ w5.heap.size := by simpa using hb5.size
  have Js1 := Lib.hid (Fresh.iv frs1)
  have zs10 := rd_cons rfl (Iv.rd Js1.out)
  obtain ⟨rfl, _⟩ := rd_i1 zs10.1
  obtain ⟨as11, cs11, rfl, _⟩ := rd_list zs10.2
  clear zs10
  clear frs1
  refine ⟨⟨hssssdss.cellAt 0 rfl 0 rfl, hssssdss.cellAt 0 rfl 1 rfl, hssssdss.cellAt 1 rfl 0 rfl, hssssdss.cellAt 1 rfl 1 rfl⟩, ?_⟩
  (repeat (first | (apply el_skip rfl (by rfl); try simp only [Act.put, List.setIfInBounds_toArray, List.set_cons_zero, List.set_cons_succ]) | (apply el_float rfl (by rfl); (· (intro w' hS; go_simp <;> with_reducible rfl)); (try simp only [Act.put, List.setIfInBounds_toArray, List.set_cons_zero, List.set_cons_succ]))))
  refine el_hard rfl (by rfl) (fun K hK => ?_)
  go_wp2_with (go_at_call 16; refine (toPairStepS_b x2 _ _ (Rd.mono H2.out hssssdss.bel) gc2).mono ?_; rintro e w6 ⟨us20, rfl, frs2, hb6⟩)
  have Js0'' := Lib.hid (Iv.mono Js0'.out hb6)
  clear Js0'
  have Js1' := Lib.hid (Iv.mono Js1.out hb6)
  clear Js1
  have hssssdsss := hssssdss.step hb6
  have hz6 : w5.heap.size ≤ w6.heap.size := by simpa using hb6.size
  have Js2 := Lib.hid (Fresh.iv frs2)
  obtain ⟨as2, cs2, rfl, _⟩ := rd_list (Iv.rd Js2.out)
  clear frs2
  refine ⟨⟨hssssdsss.cellAt 0 rfl 0 rfl, hssssdsss.cellAt 0 rfl 1 rfl, hssssdsss.cellAt 1 rfl 0 rfl, hssssdsss.cellAt 1 rfl 1 rfl⟩, ?_⟩
  (repeat (first | (apply el_skip rfl (by rfl); try simp only [Act.put, List.setIfInBounds_toArray, List.set_cons_zero, List.set_cons_succ]) | (apply el_float rfl (by rfl); (· (intro w' hS; go_simp <;> with_reducible rfl)); (try simp only [Act.put, List.setIfInBounds_toArray, List.set_cons_zero, List.set_cons_succ]))))
  refine el_hard rfl (by rfl) (fun K hK => ?_)
  go_wp2_with (go_at_call 13; refine (CS.out _ _ _ _ _ _ (Iv.rd Js0''.out) (Iv.rd Js1'.out) (Iv.rd Js2.out) (by unfold cost_PairStepS at gc2; omega)).mono ?_; rintro e w7 ⟨uW0, rfl, frW, hb7⟩)
  have Js0''' := Lib.hid (Iv.mono Js0''.out hb7)
  clear Js0''
  have Js1'' := Lib.hid (Iv.mono Js1'.out hb7)
  clear Js1'
  have Js2' := Lib.hid (Iv.mono Js2.out hb7)
  clear Js2
  have hssssdssss := hssssdsss.step hb7
  have hz7 : w6.heap.size ≤ w7.heap.size := by simpa using hb7.size
  have JW := Lib.hid (Fresh.iv frW)
  obtain ⟨aW, cW, rfl, _⟩ := rd_list (Iv.rd JW.out)
  clear frW
  clear Js0'''
  clear Js1''
  clear Js2'
  refine ⟨⟨hssssdssss.cellAt 0 rfl 0 rfl, hssssdssss.cellAt 0 rfl 1 rfl, hssssdssss.cellAt 1 rfl 0 rfl, hssssdssss.cellAt 1 rfl 1 rfl⟩, ?_⟩
  (repeat (first | (apply el_skip rfl (by rfl); try simp only [Act.put, List.setIfInBounds_toArray, List.set_cons_zero, List.set_cons_succ]) | (apply el_float rfl (by rfl); (· (intro w' hS; go_simp <;> with_reducible rfl)); (try simp only [Act.put, List.setIfInBounds_toArray, List.set_cons_zero, List.set_cons_succ]))))
  refine el_nil (NoPanic.normal ?_)
  clear qa00 qa01 qa10 qa11
  have qa00 := hssssdssss.cellAt 0 rfl 0 rfl
  have qa01 := hssssdssss.cellAt 0 rfl 1 rfl
  have qa10 := hssssdssss.cellAt 1 rfl 0 rfl
  have qa11 := hssssdssss.cellAt 1 rfl 1 rfl
  go_wp2_with fail
  refine (toTemplate_b (x00, x01) _ _ _ (Rd.mono H0.out hssssdssss.bel) gc0).mono ?_
  rintro e w8 ⟨ux00, ux01, rfl, frx0, hb8⟩
  have JW' := Lib.hid (Iv.mono JW.out hb8)
  clear JW
  have hssssdsssss := hssssdssss.step hb8
  have hz8 : w7.heap.size ≤ w8.heap.size := by simpa using hb8.size
  have Jx0 := Lib.hid (Fresh.iv frx0)
  have zx00 := rd_cons rfl (Iv.rd Jx0.out)
  obtain ⟨rfl, _⟩ := rd_i1 zx00.1
  obtain ⟨ax01, cx01, rfl, _⟩ := rd_list zx00.2
  clear zx00
  clear frx0
  clear qa00 qa01 qa10 qa11
  have qa00 := hssssdsssss.cellAt 0 rfl 0 rfl
  have qa01 := hssssdsssss.cellAt 0 rfl 1 rfl
  have qa10 := hssssdsssss.cellAt 1 rfl 0 rfl
  have qa11 := hssssdsssss.cellAt 1 rfl 1 rfl
  have hssssdsssssa := hssssdsssss.alloc #[.int .i64 x00, .slice ax01 x01.length cx01] 36 rfl
  have JW'' := Lib.hid (Iv.mono JW'.out (belowA _ (.cells #[.int .i64 x00, .slice ax01 x01.length cx01] 36)))
  clear JW'
  have Jx0' := Lib.hid (Iv.mono Jx0.out (belowA _ (.cells #[.int .i64 x00, .slice ax01 x01.length cx01] 36)))
  clear Jx0
  clear qa00 qa01 qa10 qa11
  have qa00 := hssssdsssssa.cellAt 0 rfl 0 rfl
  have qa01 := hssssdsssssa.cellAt 0 rfl 1 rfl
  have qa10 := hssssdsssssa.cellAt 1 rfl 0 rfl
  have qa11 := hssssdsssssa.cellAt 1 rfl 1 rfl
  have qx00 := hssssdsssssa.cellAt 2 rfl 0 rfl
  have qx01 := hssssdsssssa.cellAt 2 rfl 1 rfl
  go_wp2_with fail
  refine (toInstance_b (x10, x11) _ _ _ (Rd.mono H1.out hssssdsssssa.bel) gc1).mono ?_
  rintro e w9 ⟨ux10, ux11, rfl, frx1, hb9⟩
  have JW''' := Lib.hid (Iv.mono JW''.out hb9)
  clear JW''
  have Jx0'' := Lib.hid (Iv.mono Jx0'.out hb9)
  clear Jx0'
  have hssssdsssssas := hssssdsssssa.step hb9
  have hz9 : w8.heap.size + 1 ≤ w9.heap.size := by simpa using hb9.size
  have Jx1 := Lib.hid (Fresh.iv frx1)
  have zx10 := rd_cons rfl (Iv.rd Jx1.out)
  obtain ⟨rfl, _⟩ := rd_i1 zx10.1
  obtain ⟨ax11, cx11, rfl, _⟩ := rd_list zx10.2
  clear zx10
  clear frx1
  clear qa00 qa01 qa10 qa11 qx00 qx01
  have qa00 := hssssdsssssas.cellAt 0 rfl 0 rfl
  have qa01 := hssssdsssssas.cellAt 0 rfl 1 rfl
  have qa10 := hssssdsssssas.cellAt 1 rfl 0 rfl
  have qa11 := hssssdsssssas.cellAt 1 rfl 1 rfl
  have qx00 := hssssdsssssas.cellAt 2 rfl 0 rfl
  have qx01 := hssssdsssssas.cellAt 2 rfl 1 rfl
  have hssssdsssssasa := hssssdsssssas.alloc #[.int .i64 x10, .slice ax11 x11.length cx11] 40 rfl
  have JW'''' := Lib.hid (Iv.mono JW'''.out (belowA _ (.cells #[.int .i64 x10, .slice ax11 x11.length cx11] 40)))
  clear JW'''
  have Jx0''' := Lib.hid (Iv.mono Jx0''.out (belowA _ (.cells #[.int .i64 x10, .slice ax11 x11.length cx11] 40)))
  clear Jx0''
  have Jx1' := Lib.hid (Iv.mono Jx1.out (belowA _ (.cells #[.int .i64 x10, .slice ax11 x11.length cx11] 40)))
  clear Jx1
  clear qa00 qa01 qa10 qa11 qx00 qx01
  have qa00 := hssssdsssssasa.cellAt 0 rfl 0 rfl
  have qa01 := hssssdsssssasa.cellAt 0 rfl 1 rfl
  have qa10 := hssssdsssssasa.cellAt 1 rfl 0 rfl
  have qa11 := hssssdsssssasa.cellAt 1 rfl 1 rfl
  have qx00 := hssssdsssssasa.cellAt 2 rfl 0 rfl
  have qx01 := hssssdsssssasa.cellAt 2 rfl 1 rfl
  have qx10 := hssssdsssssasa.cellAt 3 rfl 0 rfl
  have qx11 := hssssdsssssasa.cellAt 3 rfl 1 rfl
  go_wp2_with fail
  refine (toPairStepS_b x2 _ _ (Rd.mono H2.out hssssdsssssasa.bel) gc2).mono ?_
  rintro e w10 ⟨ux20, rfl, frx2, hb10⟩
  have JW''''' := Lib.hid (Iv.mono JW''''.out hb10)
  clear JW''''
  have Jx0'''' := Lib.hid (Iv.mono Jx0'''.out hb10)
  clear Jx0'''
  have Jx1'' := Lib.hid (Iv.mono Jx1'.out hb10)
  clear Jx1'
  have hssssdsssssasas := hssssdsssssasa.step hb10
  have hz10 : w9.heap.size + 1 ≤ w10.heap.size := by simpa using hb10.size
  have Jx2 := Lib.hid (Fresh.iv frx2)
  obtain ⟨ax2, cx2, rfl, _⟩ := rd_list (Iv.rd Jx2.out)
  clear frx2
  clear qa00 qa01 qa10 qa11 qx00 qx01 qx10 qx11
  have qa00 := hssssdsssssasas.cellAt 0 rfl 0 rfl
  have qa01 := hssssdsssssasas.cellAt 0 rfl 1 rfl
  have qa10 := hssssdsssssasas.cellAt 1 rfl 0 rfl
  have qa11 := hssssdsssssasas.cellAt 1 rfl 1 rfl
  have qx00 := hssssdsssssasas.cellAt 2 rfl 0 rfl
  have qx01 := hssssdsssssasas.cellAt 2 rfl 1 rfl
  have qx10 := hssssdsssssasas.cellAt 3 rfl 0 rfl
  have qx11 := hssssdsssssasas.cellAt 3 rfl 1 rfl
  go_wp2_with fail
  refine (CI.out _ _ _ _ _ _ (Iv.rd Jx0''''.out) (Iv.rd Jx1''.out) (Iv.rd Jx2.out) (by unfold cost_PairStepS at gc2; omega)).mono ?_
  rintro e w11 ⟨uG0, rfl, frG, hb11⟩
  have JW'''''' := Lib.hid (Iv.mono JW'''''.out hb11)
  clear JW'''''
  have Jx0''''' := Lib.hid (Iv.mono Jx0''''.out hb11)
  clear Jx0''''
  have Jx1''' := Lib.hid (Iv.mono Jx1''.out hb11)
  clear Jx1''
  have Jx2' := Lib.hid (Iv.mono Jx2.out hb11)
  clear Jx2
  have hssssdsssssasass := hssssdsssssasas.step hb11
  have hz11 : w10.heap.size ≤ w11.heap.size := by simpa using hb11.size
  have JG := Lib.hid (Fresh.iv frG)
  obtain ⟨aG, cG, rfl, _⟩ := rd_list (Iv.rd JG.out)
  clear frG
  clear qa00 qa01 qa10 qa11 qx00 qx01 qx10 qx11
  have qa00 := hssssdsssssasass.cellAt 0 rfl 0 rfl
  have qa01 := hssssdsssssasass.cellAt 0 rfl 1 rfl
  have qa10 := hssssdsssssasass.cellAt 1 rfl 0 rfl
  have qa11 := hssssdsssssasass.cellAt 1 rfl 1 rfl
  have qx00 := hssssdsssssasass.cellAt 2 rfl 0 rfl
  have qx01 := hssssdsssssasass.cellAt 2 rfl 1 rfl
  have qx10 := hssssdsssssasass.cellAt 3 rfl 0 rfl
  have qx11 := hssssdsssssasass.cellAt 3 rfl 1 rfl
  go_wp2_with fail
  refine (eqRelS_s r0 _ _ _ (Iv.rd JG.out) (Iv.rd JW''''''.out)).mono ?_
  rintro e w12 ⟨rfl, hb12⟩
  have JW''''''' := Lib.hid (Iv.mono JW''''''.out hb12)
  clear JW''''''
  have Jx0'''''' := Lib.hid (Iv.mono Jx0'''''.out hb12)
  clear Jx0'''''
  have Jx1'''' := Lib.hid (Iv.mono Jx1'''.out hb12)
  clear Jx1'''
  have Jx2'' := Lib.hid (Iv.mono Jx2'.out hb12)
  clear Jx2'
  have JG' := Lib.hid (Iv.mono JG.out hb12)
  clear JG
  have hssssdsssssasasss := hssssdsssssasass.step hb12
  have hz12 : w11.heap.size ≤ w12.heap.size := by simpa using hb12.size
  clear qa00 qa01 qa10 qa11 qx00 qx01 qx10 qx11
  have qa00 := hssssdsssssasasss.cellAt 0 rfl 0 rfl
  have qa01 := hssssdsssssasasss.cellAt 0 rfl 1 rfl
  have qa10 := hssssdsssssasasss.cellAt 1 rfl 0 rfl
  have qa11 := hssssdsssssasasss.cellAt 1 rfl 1 rfl
  have qx00 := hssssdsssssasasss.cellAt 2 rfl 0 rfl
  have qx01 := hssssdsssssasasss.cellAt 2 rfl 1 rfl
  have qx10 := hssssdsssssasasss.cellAt 3 rfl 0 rfl
  have qx11 := hssssdsssssasasss.cellAt 3 rfl 1 rfl
  have hcode : (code != code) = false := by simp
  have hidx : (idx != idx) = false := by simp
  go_wp2_with fail
  refine wp_region_noPanic (wp_region_el (fun w' => w'.cell? ⟨w.heap.size, 0, none⟩ = some (.int .i64 x00) ∧ w'.cell? ⟨w.heap.size, 1, none⟩ = some (.slice a01 x01.length c01) ∧ w'.cell? ⟨w.heap.size + 1, 0, none⟩ = some (.int .i64 x10) ∧ w'.cell? ⟨w.heap.size + 1, 1, none⟩ = some (.slice a11 x11.length c11) ∧ w'.cell? ⟨w8.heap.size, 0, none⟩ = some (.int .i64 x00) ∧ w'.cell? ⟨w8.heap.size, 1, none⟩ = some (.slice ax01 x01.length cx01) ∧ w'.cell? ⟨w9.heap.size, 0, none⟩ = some (.int .i64 x10) ∧ w'.cell? ⟨w9.heap.size, 1, none⟩ = some (.slice ax11 x11.length cx11)) [(0, 0), (1, 0), (2, 1), (3, 1), (4, 0)] (by kernel_rfl) (by kernel_rfl) (by kernel_rfl) rfl ?_ (fun _ _ _ _ _ h => h) ?_)
  · exact ⟨(hssssdsssssasasss.drew).cellAt 0 rfl 0 rfl, (hssssdsssssasasss.drew).cellAt 0 rfl 1 rfl, (hssssdsssssasasss.drew).cellAt 1 rfl 0 rfl, (hssssdsssssasasss.drew).cellAt 1 rfl 1 rfl, (hssssdsssssasasss.drew).cellAt 2 rfl 0 rfl, (hssssdsssssasasss.drew).cellAt 2 rfl 1 rfl, (hssssdsssssasasss.drew).cellAt 3 rfl 0 rfl, (hssssdsssssasasss.drew).cellAt 3 rfl 1 rfl⟩
  have JW'''''''' := Lib.hid (Iv.mono JW'''''''.out (belowD _))
  clear JW'''''''
  have Jx0''''''' := Lib.hid (Iv.mono Jx0''''''.out (belowD _))
  clear Jx0''''''
  have Jx1''''' := Lib.hid (Iv.mono Jx1''''.out (belowD _))
  clear Jx1''''
  have Jx2''' := Lib.hid (Iv.mono Jx2''.out (belowD _))
  clear Jx2''
  have JG'' := Lib.hid (Iv.mono JG'.out (belowD _))
  clear JG'
  have hssssdsssssasasssd := hssssdsssssasasss.drew
  (repeat (first | (apply el_skip rfl (by rfl); try simp only [Act.put, List.setIfInBounds_toArray, List.set_cons_zero, List.set_cons_succ]) | (apply el_float rfl (by rfl); (· (intro w' hS; go_simp <;> with_reducible rfl)); (try simp only [Act.put, List.setIfInBounds_toArray, List.set_cons_zero, List.set_cons_succ]))))
  refine el_hard rfl (by rfl) (fun K hK => ?_)
  go_wp2_with (go_at_call 14; refine (toTemplate_b (x00, x01) _ _ _ (Rd.mono H0.out hssssdsssssasasssd.bel) gc0).mono ?_; rintro e w13 ⟨uy00, uy01, rfl, fry0, hb13⟩)
  have JW''''''''' := Lib.hid (Iv.mono JW''''''''.out hb13)
  clear JW''''''''
  have Jx0'''''''' := Lib.hid (Iv.mono Jx0'''''''.out hb13)
  clear Jx0'''''''
  have Jx1'''''' := Lib.hid (Iv.mono Jx1'''''.out hb13)
  clear Jx1'''''
  have Jx2'''' := Lib.hid (Iv.mono Jx2'''.out hb13)
  clear Jx2'''
  have JG''' := Lib.hid (Iv.mono JG''.out hb13)
  clear JG''
  have hssssdsssssasasssds := hssssdsssssasasssd.step hb13
  have hz13 : w12.heap.size ≤ w13.heap.size := by simpa using hb13.size
  have Jy0 := Lib.hid (Fresh.iv fry0)
  have zy00 := rd_cons rfl (Iv.rd Jy0.out)
  obtain ⟨rfl, _⟩ := rd_i1 zy00.1
  obtain ⟨ay01, cy01, rfl, _⟩ := rd_list zy00.2
  clear zy00
  clear fry0
  refine ⟨⟨hssssdsssssasasssds.cellAt 0 rfl 0 rfl, hssssdsssssasasssds.cellAt 0 rfl 1 rfl, hssssdsssssasasssds.cellAt 1 rfl 0 rfl, hssssdsssssasasssds.cellAt 1 rfl 1 rfl, hssssdsssssasasssds.cellAt 2 rfl 0 rfl, hssssdsssssasasssds.cellAt 2 rfl 1 rfl, hssssdsssssasasssds.cellAt 3 rfl 0 rfl, hssssdsssssasasssds.cellAt 3 rfl 1 rfl⟩, ?_⟩
  (repeat (first | (apply el_skip rfl (by rfl); try simp only [Act.put, List.setIfInBounds_toArray, List.set_cons_zero, List.set_cons_succ]) | (apply el_float rfl (by rfl); (· (intro w' hS; go_simp <;> with_reducible rfl)); (try simp only [Act.put, List.setIfInBounds_toArray, List.set_cons_zero, List.set_cons_succ]))))
  refine el_hard rfl (by rfl) (fun K hK => ?_)
  go_wp2_with (go_at_call 19; refine (eqTemplate_s (x00, x01) _ _ _ _ _ (Iv.rd Jx0''''''''.out) (Iv.rd Jy0.out)).mono ?_; rintro e w14 ⟨rfl, hb14⟩)
  clear Jy0
  have JW'''''''''' := Lib.hid (Iv.mono JW'''''''''.out hb14)
  clear JW'''''''''
  have Jx0''''''''' := Lib.hid (Iv.mono Jx0''''''''.out hb14)
  clear Jx0''''''''
  have Jx1''''''' := Lib.hid (Iv.mono Jx1''''''.out hb14)
  clear Jx1''''''
  have Jx2''''' := Lib.hid (Iv.mono Jx2''''.out hb14)
  clear Jx2''''
  have JG'''' := Lib.hid (Iv.mono JG'''.out hb14)
  clear JG'''
  have hssssdsssssasasssdss := hssssdsssssasasssds.step hb14
  have hz14 : w13.heap.size ≤ w14.heap.size := by simpa using hb14.size
  refine ⟨⟨hssssdsssssasasssdss.cellAt 0 rfl 0 rfl, hssssdsssssasasssdss.cellAt 0 rfl 1 rfl, hssssdsssssasasssdss.cellAt 1 rfl 0 rfl, hssssdsssssasasssdss.cellAt 1 rfl 1 rfl, hssssdsssssasasssdss.cellAt 2 rfl 0 rfl, hssssdsssssasasssdss.cellAt 2 rfl 1 rfl, hssssdsssssasasssdss.cellAt 3 rfl 0 rfl, hssssdsssssasasssdss.cellAt 3 rfl 1 rfl⟩, ?_⟩
  (repeat (first | (apply el_skip rfl (by rfl); try simp only [Act.put, List.setIfInBounds_toArray, List.set_cons_zero, List.set_cons_succ]) | (apply el_float rfl (by rfl); (· (intro w' hS; go_simp <;> with_reducible rfl)); (try simp only [Act.put, List.setIfInBounds_toArray, List.set_cons_zero, List.set_cons_succ]))))
  refine el_nil (NoPanic.normal ?_)
  clear qa00 qa01 qa10 qa11 qx00 qx01 qx10 qx11
  have qa00 := hssssdsssssasasssdss.cellAt 0 rfl 0 rfl
  have qa01 := hssssdsssssasasssdss.cellAt 0 rfl 1 rfl
  have qa10 := hssssdsssssasasssdss.cellAt 1 rfl 0 rfl
  have qa11 := hssssdsssssasasssdss.cellAt 1 rfl 1 rfl
  have qx00 := hssssdsssssasasssdss.cellAt 2 rfl 0 rfl
  have qx01 := hssssdsssssasasssdss.cellAt 2 rfl 1 rfl
  have qx10 := hssssdsssssasasssdss.cellAt 3 rfl 0 rfl
  have qx11 := hssssdsssssasasssdss.cellAt 3 rfl 1 rfl
  go_wp2_with fail
  refine wp_region_noPanic (wp_region_el (fun w' => w'.cell? ⟨w.heap.size, 0, none⟩ = some (.int .i64 x00) ∧ w'.cell? ⟨w.heap.size, 1, none⟩ = some (.slice a01 x01.length c01) ∧ w'.cell? ⟨w.heap.size + 1, 0, none⟩ = some (.int .i64 x10) ∧ w'.cell? ⟨w.heap.size + 1, 1, none⟩ = some (.slice a11 x11.length c11) ∧ w'.cell? ⟨w8.heap.size, 0, none⟩ = some (.int .i64 x00) ∧ w'.cell? ⟨w8.heap.size, 1, none⟩ = some (.slice ax01 x01.length cx01) ∧ w'.cell? ⟨w9.heap.size, 0, none⟩ = some (.int .i64 x10) ∧ w'.cell? ⟨w9.heap.size, 1, none⟩ = some (.slice ax11 x11.length cx11)) [(0, 0), (1, 0), (2, 1), (3, 1), (4, 0)] (by kernel_rfl) (by kernel_rfl) (by kernel_rfl) rfl ?_ (fun _ _ _ _ _ h => h) ?_)
  · exact ⟨(hssssdsssssasasssdss.drew).cellAt 0 rfl 0 rfl, (hssssdsssssasasssdss.drew).cellAt 0 rfl 1 rfl, (hssssdsssssasasssdss.drew).cellAt 1 rfl 0 rfl, (hssssdsssssasasssdss.drew).cellAt 1 rfl 1 rfl, (hssssdsssssasasssdss.drew).cellAt 2 rfl 0 rfl, (hssssdsssssasasssdss.drew).cellAt 2 rfl 1 rfl, (hssssdsssssasasssdss.drew).cellAt 3 rfl 0 rfl, (hssssdsssssasasssdss.drew).cellAt 3 rfl 1 rfl⟩
  have JW''''''''''' := Lib.hid (Iv.mono JW''''''''''.out (belowD _))
  clear JW''''''''''
  have Jx0'''''''''' := Lib.hid (Iv.mono Jx0'''''''''.out (belowD _))
  clear Jx0'''''''''
  have Jx1'''''''' := Lib.hid (Iv.mono Jx1'''''''.out (belowD _))
  clear Jx1'''''''
  have Jx2'''''' := Lib.hid (Iv.mono Jx2'''''.out (belowD _))
  clear Jx2'''''
  have JG''''' := Lib.hid (Iv.mono JG''''.out (belowD _))
  clear JG''''
  have hssssdsssssasasssdssd := hssssdsssssasasssdss.drew
  (repeat (first | (apply el_skip rfl (by rfl); try simp only [Act.put, List.setIfInBounds_toArray, List.set_cons_zero, List.set_cons_succ]) | (apply el_float rfl (by rfl); (· (intro w' hS; go_simp <;> with_reducible rfl)); (try simp only [Act.put, List.setIfInBounds_toArray, List.set_cons_zero, List.set_cons_succ]))))
  refine el_hard rfl (by rfl) (fun K hK => ?_)
  go_wp2_with (go_at_call 15; refine (toInstance_b (x10, x11) _ _ _ (Rd.mono H1.out hssssdsssssasasssdssd.bel) gc1).mono ?_; rintro e w15 ⟨uy10, uy11, rfl, fry1, hb15⟩)
  have JW'''''''''''' := Lib.hid (Iv.mono JW'''''''''''.out hb15)
  clear JW'''''''''''
  have Jx0''''''''''' := Lib.hid (Iv.mono Jx0''''''''''.out hb15)
  clear Jx0''''''''''
  have Jx1''''''''' := Lib.hid (Iv.mono Jx1''''''''.out hb15)
  clear Jx1''''''''
  have Jx2''''''' := Lib.hid (Iv.mono Jx2''''''.out hb15)
  clear Jx2''''''
  have JG'''''' := Lib.hid (Iv.mono JG'''''.out hb15)
  clear JG'''''
  have hssssdsssssasasssdssds := hssssdsssssasasssdssd.step hb15
  have hz15 : w14.heap.size ≤ w15.heap.size := by simpa using hb15.size
  have Jy1 := Lib.hid (Fresh.iv fry1)
  have zy10 := rd_cons rfl (Iv.rd Jy1.out)
  obtain ⟨rfl, _⟩ := rd_i1 zy10.1
  obtain ⟨ay11, cy11, rfl, _⟩ := rd_list zy10.2
  clear zy10
  clear fry1
  refine ⟨⟨hssssdsssssasasssdssds.cellAt 0 rfl 0 rfl, hssssdsssssasasssdssds.cellAt 0 rfl 1 rfl, hssssdsssssasasssdssds.cellAt 1 rfl 0 rfl, hssssdsssssasasssdssds.cellAt 1 rfl 1 rfl, hssssdsssssasasssdssds.cellAt 2 rfl 0 rfl, hssssdsssssasasssdssds.cellAt 2 rfl 1 rfl, hssssdsssssasasssdssds.cellAt 3 rfl 0 rfl, hssssdsssssasasssdssds.cellAt 3 rfl 1 rfl⟩, ?_⟩
  (repeat (first | (apply el_skip rfl (by rfl); try simp only [Act.put, List.setIfInBounds_toArray, List.set_cons_zero, List.set_cons_succ]) | (apply el_float rfl (by rfl); (· (intro w' hS; go_simp <;> with_reducible rfl)); (try simp only [Act.put, List.setIfInBounds_toArray, List.set_cons_zero, List.set_cons_succ]))))
  refine el_hard rfl (by rfl) (fun K hK => ?_)
  go_wp2_with (go_at_call 20; refine (eqInstance_s (x10, x11) _ _ _ _ _ (Iv.rd Jx1'''''''''.out) (Iv.rd Jy1.out)).mono ?_; rintro e w16 ⟨rfl, hb16⟩)
  clear Jy1
  have JW''''''''''''' := Lib.hid (Iv.mono JW''''''''''''.out hb16)
  clear JW''''''''''''
  have Jx0'''''''''''' := Lib.hid (Iv.mono Jx0'''''''''''.out hb16)
  clear Jx0'''''''''''
  have Jx1'''''''''' := Lib.hid (Iv.mono Jx1'''''''''.out hb16)
  clear Jx1'''''''''
  have Jx2'''''''' := Lib.hid (Iv.mono Jx2'''''''.out hb16)
  clear Jx2'''''''
  have JG''''''' := Lib.hid (Iv.mono JG''''''.out hb16)
  clear JG''''''
  have hssssdsssssasasssdssdss := hssssdsssssasasssdssds.step hb16
  have hz16 : w15.heap.size ≤ w16.heap.size := by simpa using hb16.size
  refine ⟨⟨hssssdsssssasasssdssdss.cellAt 0 rfl 0 rfl, hssssdsssssasasssdssdss.cellAt 0 rfl 1 rfl, hssssdsssssasasssdssdss.cellAt 1 rfl 0 rfl, hssssdsssssasasssdssdss.cellAt 1 rfl 1 rfl, hssssdsssssasasssdssdss.cellAt 2 rfl 0 rfl, hssssdsssssasasssdssdss.cellAt 2 rfl 1 rfl, hssssdsssssasasssdssdss.cellAt 3 rfl 0 rfl, hssssdsssssasasssdssdss.cellAt 3 rfl 1 rfl⟩, ?_⟩
  (repeat (first | (apply el_skip rfl (by rfl); try simp only [Act.put, List.setIfInBounds_toArray, List.set_cons_zero, List.set_cons_succ]) | (apply el_float rfl (by rfl); (· (intro w' hS; go_simp <;> with_reducible rfl)); (try simp only [Act.put, List.setIfInBounds_toArray, List.set_cons_zero, List.set_cons_succ]))))
  refine el_nil (NoPanic.normal ?_)
  clear qa00 qa01 qa10 qa11 qx00 qx01 qx10 qx11
  have qa00 := hssssdsssssasasssdssdss.cellAt 0 rfl 0 rfl
  have qa01 := hssssdsssssasasssdssdss.cellAt 0 rfl 1 rfl
  have qa10 := hssssdsssssasasssdssdss.cellAt 1 rfl 0 rfl
  have qa11 := hssssdsssssasasssdssdss.cellAt 1 rfl 1 rfl
  have qx00 := hssssdsssssasasssdssdss.cellAt 2 rfl 0 rfl
  have qx01 := hssssdsssssasasssdssdss.cellAt 2 rfl 1 rfl
  have qx10 := hssssdsssssasasssdssdss.cellAt 3 rfl 0 rfl
  have qx11 := hssssdsssssasasssdssdss.cellAt 3 rfl 1 rfl
  go_wp2_with fail
  refine (toPairStepS_b x2 _ _ (Rd.mono H2.out hssssdsssssasasssdssdss.bel) gc2).mono ?_
  rintro e w17 ⟨uy20, rfl, fry2, hb17⟩
  have JW'''''''''''''' := Lib.hid (Iv.mono JW'''''''''''''.out hb17)
  clear JW'''''''''''''
  have Jx0''''''''''''' := Lib.hid (Iv.mono Jx0''''''''''''.out hb17)
  clear Jx0''''''''''''
  have Jx1''''''''''' := Lib.hid (Iv.mono Jx1''''''''''.out hb17)
  clear Jx1''''''''''
  have Jx2''''''''' := Lib.hid (Iv.mono Jx2''''''''.out hb17)
  clear Jx2''''''''
  have JG'''''''' := Lib.hid (Iv.mono JG'''''''.out hb17)
  clear JG'''''''
  have hssssdsssssasasssdssdsss := hssssdsssssasasssdssdss.step hb17
  have hz17 : w16.heap.size ≤ w17.heap.size := by simpa using hb17.size
  have Jy2 := Lib.hid (Fresh.iv fry2)
  obtain ⟨ay2, cy2, rfl, _⟩ := rd_list (Iv.rd Jy2.out)
  clear fry2
  clear qa00 qa01 qa10 qa11 qx00 qx01 qx10 qx11
  have qa00 := hssssdsssssasasssdssdsss.cellAt 0 rfl 0 rfl
  have qa01 := hssssdsssssasasssdssdsss.cellAt 0 rfl 1 rfl
  have qa10 := hssssdsssssasasssdssdsss.cellAt 1 rfl 0 rfl
  have qa11 := hssssdsssssasasssdssdsss.cellAt 1 rfl 1 rfl
  have qx00 := hssssdsssssasasssdssdsss.cellAt 2 rfl 0 rfl
  have qx01 := hssssdsssssasasssdssdsss.cellAt 2 rfl 1 rfl
  have qx10 := hssssdsssssasasssdssdsss.cellAt 3 rfl 0 rfl
  have qx11 := hssssdsssssasasssdssdsss.cellAt 3 rfl 1 rfl
  go_wp2_with fail
  refine (eqPairStepS_s x2 _ _ _ (Iv.rd Jx2'''''''''.out) (Iv.rd Jy2.out)).mono ?_
  rintro e w18 ⟨rfl, hb18⟩
  clear Jy2
  have JW''''''''''''''' := Lib.hid (Iv.mono JW''''''''''''''.out hb18)
  clear JW''''''''''''''
  have Jx0'''''''''''''' := Lib.hid (Iv.mono Jx0'''''''''''''.out hb18)
  clear Jx0'''''''''''''
  have Jx1'''''''''''' := Lib.hid (Iv.mono Jx1'''''''''''.out hb18)
  clear Jx1'''''''''''
  have Jx2'''''''''' := Lib.hid (Iv.mono Jx2'''''''''.out hb18)
  clear Jx2'''''''''
  have JG''''''''' := Lib.hid (Iv.mono JG''''''''.out hb18)
  clear JG''''''''
  have hssssdsssssasasssdssdssss := hssssdsssssasasssdssdsss.step hb18
  have hz18 : w17.heap.size ≤ w18.heap.size := by simpa using hb18.size
  clear qa00 qa01 qa10 qa11 qx00 qx01 qx10 qx11
  have qa00 := hssssdsssssasasssdssdssss.cellAt 0 rfl 0 rfl
  have qa01 := hssssdsssssasasssdssdssss.cellAt 0 rfl 1 rfl
  have qa10 := hssssdsssssasasssdssdssss.cellAt 1 rfl 0 rfl
  have qa11 := hssssdsssssasasssdssdssss.cellAt 1 rfl 1 rfl
  have qx00 := hssssdsssssasasssdssdssss.cellAt 2 rfl 0 rfl
  have qx01 := hssssdsssssasasssdssdssss.cellAt 2 rfl 1 rfl
  have qx10 := hssssdsssssasasssdssdssss.cellAt 3 rfl 0 rfl
  have qx11 := hssssdsssssasasssdssdssss.cellAt 3 rfl 1 rfl
  have mcb0 := mcb_Template (x00, x01)
  obtain ⟨psx0, hox0, hnx0, hpx0⟩ := Jx0''''''''''''''.out
  have HOx0 := Lib.hid hox0
  clear hox0
  clear Jx0''''''''''''''
  go_wp2_with fail
  refine (markTemplate_g (x00, x01) _ _ psx0 1 _ HOx0.out hnx0 (by omega) (by omega)).mono ?_
  rintro e w19 ⟨yx0, mx0, rfl, l0x0, l1x0, hyx0, hhx0, hbutx0⟩
  have HYx0 := Lib.hid hyx0
  have HHx0 := Lib.hid hhx0
  clear hyx0 hhx0 HOx0
  have hqx0 : ∀ k, k ∈ psx0 → w7.heap.size ≤ k ∧ k < w8.heap.size := fun k hk => by have := hpx0 k hk; simpa using this
  have JW'''''''''''''''' := Lib.hid (Iv.but JW'''''''''''''''.out hbutx0 (fun k hk => by have := hqx0 k hk; simp; omega))
  clear JW'''''''''''''''
  have Jx1''''''''''''' := Lib.hid (Iv.but Jx1''''''''''''.out hbutx0 (fun k hk => by have := hqx0 k hk; simp; omega))
  clear Jx1''''''''''''
  have Jx2''''''''''' := Lib.hid (Iv.but Jx2''''''''''.out hbutx0 (fun k hk => by have := hqx0 k hk; simp; omega))
  clear Jx2''''''''''
  have JG'''''''''' := Lib.hid (Iv.but JG'''''''''.out hbutx0 (fun k hk => by have := hqx0 k hk; simp; omega))
  clear JG'''''''''
  have hssssdsssssasasssdssdssssm := hssssdsssssasasssdssdssss.butIv hbutx0 (fun k hk => by have := hqx0 k hk; omega) (fun x hx hp => by
    have := hqx0 _ hp
    simp only [List.mem_append, List.mem_cons, List.mem_nil_iff, or_false, List.not_mem_nil, false_or, or_assoc] at hx
    rcases hx with rfl | rfl | rfl | rfl <;> (simp only at this; omega))
  have hz19 : w18.heap.size ≤ w19.heap.size := by simpa using hbutx0.size
  clear qa00 qa01 qa10 qa11 qx00 qx01 qx10 qx11
  have qa00 := hssssdsssssasasssdssdssssm.cellAt 0 rfl 0 rfl
  have qa01 := hssssdsssssasasssdssdssssm.cellAt 0 rfl 1 rfl
  have qa10 := hssssdsssssasasssdssdssssm.cellAt 1 rfl 0 rfl
  have qa11 := hssssdsssssasasssdssdssssm.cellAt 1 rfl 1 rfl
  have qx00 := hssssdsssssasasssdssdssssm.cellAt 2 rfl 0 rfl
  have qx01 := hssssdsssssasasssdssdssssm.cellAt 2 rfl 1 rfl
  have qx10 := hssssdsssssasasssdssdssssm.cellAt 3 rfl 0 rfl
  have qx11 := hssssdsssssasasssdssdssssm.cellAt 3 rfl 1 rfl
  have mcb1 := mcb_Instance (x10, x11)
  obtain ⟨psx1, hox1, hnx1, hpx1⟩ := Jx1'''''''''''''.out
  have HOx1 := Lib.hid hox1
  clear hox1
  clear Jx1'''''''''''''
  go_wp2_with fail
  refine (markInstance_g (x10, x11) _ _ psx1 mx0 _ HOx1.out hnx1 (by omega) (by omega)).mono ?_
  rintro e w20 ⟨yx1, mx1, rfl, l0x1, l1x1, hyx1, hhx1, hbutx1⟩
  have HYx1 := Lib.hid hyx1
  have HHx1 := Lib.hid hhx1
  clear hyx1 hhx1 HOx1
  have hqx1 : ∀ k, k ∈ psx1 → w8.heap.size + 1 ≤ k ∧ k < w9.heap.size := fun k hk => by have := hpx1 k hk; simpa using this
  have JW''''''''''''''''' := Lib.hid (Iv.but JW''''''''''''''''.out hbutx1 (fun k hk => by have := hqx1 k hk; simp; omega))
  clear JW''''''''''''''''
  have Jx2'''''''''''' := Lib.hid (Iv.but Jx2'''''''''''.out hbutx1 (fun k hk => by have := hqx1 k hk; simp; omega))
  clear Jx2'''''''''''
  have JG''''''''''' := Lib.hid (Iv.but JG''''''''''.out hbutx1 (fun k hk => by have := hqx1 k hk; simp; omega))
  clear JG''''''''''
  have hssssdsssssasasssdssdssssmm := hssssdsssssasasssdssdssssm.butIv hbutx1 (fun k hk => by have := hqx1 k hk; omega) (fun x hx hp => by
    have := hqx1 _ hp
    simp only [List.mem_append, List.mem_cons, List.mem_nil_iff, or_false, List.not_mem_nil, false_or, or_assoc] at hx
    rcases hx with rfl | rfl | rfl | rfl <;> (simp only at this; omega))
  have hz20 : w19.heap.size ≤ w20.heap.size := by simpa using hbutx1.size
  clear qa00 qa01 qa10 qa11 qx00 qx01 qx10 qx11
  have qa00 := hssssdsssssasasssdssdssssmm.cellAt 0 rfl 0 rfl
  have qa01 := hssssdsssssasasssdssdssssmm.cellAt 0 rfl 1 rfl
  have qa10 := hssssdsssssasasssdssdssssmm.cellAt 1 rfl 0 rfl
  have qa11 := hssssdsssssasasssdssdssssmm.cellAt 1 rfl 1 rfl
  have qx00 := hssssdsssssasasssdssdssssmm.cellAt 2 rfl 0 rfl
  have qx01 := hssssdsssssasasssdssdssssmm.cellAt 2 rfl 1 rfl
  have qx10 := hssssdsssssasasssdssdssssmm.cellAt 3 rfl 0 rfl
  have qx11 := hssssdsssssasasssdssdssssmm.cellAt 3 rfl 1 rfl
  have mcb2 := mcb_PairStepS x2
  obtain ⟨psx2, hox2, hnx2, hpx2⟩ := Jx2''''''''''''.out
  have HOx2 := Lib.hid hox2
  clear hox2
  clear Jx2''''''''''''
  go_wp2_with fail
  refine (markPairStepS_g x2 _ psx2 mx1 _ HOx2.out hnx2 (by omega) (by omega)).mono ?_
  rintro e w21 ⟨yx2, mx2, rfl, l0x2, l1x2, hyx2, hhx2, hbutx2⟩
  have HYx2 := Lib.hid hyx2
  have HHx2 := Lib.hid hhx2
  clear hyx2 hhx2 HOx2
  have hqx2 : ∀ k, k ∈ psx2 → w9.heap.size + 1 ≤ k ∧ k < w10.heap.size := fun k hk => by have := hpx2 k hk; simpa using this
  have JW'''''''''''''''''' := Lib.hid (Iv.but JW'''''''''''''''''.out hbutx2 (fun k hk => by have := hqx2 k hk; simp; omega))
  clear JW'''''''''''''''''
  have JG'''''''''''' := Lib.hid (Iv.but JG'''''''''''.out hbutx2 (fun k hk => by have := hqx2 k hk; simp; omega))
  clear JG'''''''''''
  have hssssdsssssasasssdssdssssmmm := hssssdsssssasasssdssdssssmm.butIv hbutx2 (fun k hk => by have := hqx2 k hk; omega) (fun x hx hp => by
    have := hqx2 _ hp
    simp only [List.mem_append, List.mem_cons, List.mem_nil_iff, or_false, List.not_mem_nil, false_or, or_assoc] at hx
    rcases hx with rfl | rfl | rfl | rfl <;> (simp only at this; omega))
  have hz21 : w20.heap.size ≤ w21.heap.size := by simpa using hbutx2.size
  clear qa00 qa01 qa10 qa11 qx00 qx01 qx10 qx11
  have qa00 := hssssdsssssasasssdssdssssmmm.cellAt 0 rfl 0 rfl
  have qa01 := hssssdsssssasasssdssdssssmmm.cellAt 0 rfl 1 rfl
  have qa10 := hssssdsssssasasssdssdssssmmm.cellAt 1 rfl 0 rfl
  have qa11 := hssssdsssssasasssdssdssssmmm.cellAt 1 rfl 1 rfl
  have qx00 := hssssdsssssasasssdssdssssmmm.cellAt 2 rfl 0 rfl
  have qx01 := hssssdsssssasasssdssdssssmmm.cellAt 2 rfl 1 rfl
  have qx10 := hssssdsssssasasssdssdssssmmm.cellAt 3 rfl 0 rfl
  have qx11 := hssssdsssssasasssdssdssssmmm.cellAt 3 rfl 1 rfl
  go_wp2_with fail
  refine (eqRelS_s r0 _ _ _ (Iv.rd JG''''''''''''.out) (Iv.rd JW''''''''''''''''''.out)).mono ?_
  rintro e w22 ⟨rfl, hb22⟩
  have JW''''''''''''''''''' := Lib.hid (Iv.mono JW''''''''''''''''''.out hb22)
  clear JW''''''''''''''''''
  have JG''''''''''''' := Lib.hid (Iv.mono JG''''''''''''.out hb22)
  clear JG''''''''''''
  have hssssdsssssasasssdssdssssmmms := hssssdsssssasasssdssdssssmmm.step hb22
  have hz22 : w21.heap.size ≤ w22.heap.size := by simpa using hb22.size
  clear qa00 qa01 qa10 qa11 qx00 qx01 qx10 qx11
  have qa00 := hssssdsssssasasssdssdssssmmms.cellAt 0 rfl 0 rfl
  have qa01 := hssssdsssssasasssdssdssssmmms.cellAt 0 rfl 1 rfl
  have qa10 := hssssdsssssasasssdssdssssmmms.cellAt 1 rfl 0 rfl
  have qa11 := hssssdsssssasasssdssdssssmmms.cellAt 1 rfl 1 rfl
  have qx00 := hssssdsssssasasssdssdssssmmms.cellAt 2 rfl 0 rfl
  have qx01 := hssssdsssssasasssdssdssssmmms.cellAt 2 rfl 1 rfl
  have qx10 := hssssdsssssasasssdssdssssmmms.cellAt 3 rfl 0 rfl
  have qx11 := hssssdsssssasasssdssdssssmmms.cellAt 3 rfl 1 rfl
  obtain ⟨psG, hoG, hnG, hpG⟩ := JG'''''''''''''.out
  have HOG := Lib.hid hoG
  clear hoG
  clear JG'''''''''''''
  go_wp2_with fail
  refine (markRelS_g r0 _ psG 1 _ HOG.out hnG (by omega) (by omega)).mono ?_
  rintro e w23 ⟨yG, mG, rfl, l0G, l1G, hyG, hhG, hbutG⟩
  have HYG := Lib.hid hyG
  have HHG := Lib.hid hhG
  clear hyG hhG HOG
  have hqG : ∀ k, k ∈ psG → w10.heap.size ≤ k ∧ k < w11.heap.size := fun k hk => by have := hpG k hk; simpa using this
  have JW'''''''''''''''''''' := Lib.hid (Iv.but JW'''''''''''''''''''.out hbutG (fun k hk => by have := hqG k hk; simp; omega))
  clear JW'''''''''''''''''''
  have hssssdsssssasasssdssdssssmmmsm := hssssdsssssasasssdssdssssmmms.butIv hbutG (fun k hk => by have := hqG k hk; omega) (fun x hx hp => by
    have := hqG _ hp
    simp only [List.mem_append, List.mem_cons, List.mem_nil_iff, or_false, List.not_mem_nil, false_or, or_assoc] at hx
    rcases hx with rfl | rfl | rfl | rfl <;> (simp only at this; omega))
  have hz23 : w22.heap.size ≤ w23.heap.size := by simpa using hbutG.size
  clear qa00 qa01 qa10 qa11 qx00 qx01 qx10 qx11
  have qa00 := hssssdsssssasasssdssdssssmmmsm.cellAt 0 rfl 0 rfl
  have qa01 := hssssdsssssasasssdssdssssmmmsm.cellAt 0 rfl 1 rfl
  have qa10 := hssssdsssssasasssdssdssssmmmsm.cellAt 1 rfl 0 rfl
  have qa11 := hssssdsssssasasssdssdssssmmmsm.cellAt 1 rfl 1 rfl
  have qx00 := hssssdsssssasasssdssdssssmmmsm.cellAt 2 rfl 0 rfl
  have qx01 := hssssdsssssasasssdssdssssmmmsm.cellAt 2 rfl 1 rfl
  have qx10 := hssssdsssssasasssdssdssssmmmsm.cellAt 3 rfl 0 rfl
  have qx11 := hssssdsssssasasssdssdssssmmmsm.cellAt 3 rfl 1 rfl
  have HYr24 := Lib.hid (Own.rd HYG.out)
  go_wp2_with fail
  refine (heldRelS_g yG _ 1 mG _ HYr24.out HHG.out (by omega) (by omega) (by omega)).mono ?_
  rintro e w24 ⟨rfl, hb24⟩
  have HYG' := Lib.hid (Own.mono HYG.out hb24)
  clear HYG HYr24
  have HYG := HYG'
  clear HYG'
  have JW''''''''''''''''''''' := Lib.hid (Iv.mono JW''''''''''''''''''''.out hb24)
  clear JW''''''''''''''''''''
  have hssssdsssssasasssdssdssssmmmsms := hssssdsssssasasssdssdssssmmmsm.step hb24
  have hz24 : w23.heap.size ≤ w24.heap.size := by simpa using hb24.size
  clear qa00 qa01 qa10 qa11 qx00 qx01 qx10 qx11
  have qa00 := hssssdsssssasasssdssdssssmmmsms.cellAt 0 rfl 0 rfl
  have qa01 := hssssdsssssasasssdssdssssmmmsms.cellAt 0 rfl 1 rfl
  have qa10 := hssssdsssssasasssdssdssssmmmsms.cellAt 1 rfl 0 rfl
  have qa11 := hssssdsssssasasssdssdssssmmmsms.cellAt 1 rfl 1 rfl
  have qx00 := hssssdsssssasasssdssdssssmmmsms.cellAt 2 rfl 0 rfl
  have qx01 := hssssdsssssasasssdssdssssmmmsms.cellAt 2 rfl 1 rfl
  have qx10 := hssssdsssssasasssdssdssssmmmsms.cellAt 3 rfl 0 rfl
  have qx11 := hssssdsssssasasssdssdssssmmmsms.cellAt 3 rfl 1 rfl
  have hmm : (mG != mG) = false := by simp
  have hm0 : ¬ mG < 0 := by omega
  go_wp2_with fail
  refine wp_region_noPanic (wp_region_el (fun w' => w'.cell? ⟨w.heap.size, 0, none⟩ = some (.int .i64 x00) ∧ w'.cell? ⟨w.heap.size, 1, none⟩ = some (.slice a01 x01.length c01) ∧ w'.cell? ⟨w.heap.size + 1, 0, none⟩ = some (.int .i64 x10) ∧ w'.cell? ⟨w.heap.size + 1, 1, none⟩ = some (.slice a11 x11.length c11) ∧ w'.cell? ⟨w8.heap.size, 0, none⟩ = some (.int .i64 x00) ∧ w'.cell? ⟨w8.heap.size, 1, none⟩ = some (.slice ax01 x01.length cx01) ∧ w'.cell? ⟨w9.heap.size, 0, none⟩ = some (.int .i64 x10) ∧ w'.cell? ⟨w9.heap.size, 1, none⟩ = some (.slice ax11 x11.length cx11)) [(0, 0), (2, 0), (4, 0), (1, 1), (3, 1), (5, 1), (6, 1), (7, 0), (8, 0), (9, 0), (10, 0), (11, 0), (12, 0), (13, 0)] (by kernel_rfl) (by kernel_rfl) (by kernel_rfl) rfl ?_ (fun _ _ _ _ _ h => h) ?_)
  · exact ⟨(hssssdsssssasasssdssdssssmmmsms.drew).cellAt 0 rfl 0 rfl, (hssssdsssssasasssdssdssssmmmsms.drew).cellAt 0 rfl 1 rfl, (hssssdsssssasasssdssdssssmmmsms.drew).cellAt 1 rfl 0 rfl, (hssssdsssssasasssdssdssssmmmsms.drew).cellAt 1 rfl 1 rfl, (hssssdsssssasasssdssdssssmmmsms.drew).cellAt 2 rfl 0 rfl, (hssssdsssssasasssdssdssssmmmsms.drew).cellAt 2 rfl 1 rfl, (hssssdsssssasasssdssdssssmmmsms.drew).cellAt 3 rfl 0 rfl, (hssssdsssssasasssdssdssssmmmsms.drew).cellAt 3 rfl 1 rfl⟩
  have JW'''''''''''''''''''''' := Lib.hid (Iv.mono JW'''''''''''''''''''''.out (belowD _))
  clear JW'''''''''''''''''''''
  have hssssdsssssasasssdssdssssmmmsmsd := hssssdsssssasasssdssdssssmmmsms.drew
  (repeat (first | (apply el_skip rfl (by rfl); try simp only [Act.put, List.setIfInBounds_toArray, List.set_cons_zero, List.set_cons_succ]) | (apply el_float rfl (by rfl); (· (intro w' hS; go_simp <;> with_reducible rfl)); (try simp only [Act.put, List.setIfInBounds_toArray, List.set_cons_zero, List.set_cons_succ]))))
  have HYG' := Lib.hid (Own.mono HYG.out (belowD _))
  clear HYG
  have HYG := HYG'
  clear HYG'
  refine el_hard rfl (by rfl) (fun K hK => ?_)
  go_wp2_with (go_at_call 14; refine (toTemplate_b (x00, x01) _ _ _ (Rd.mono H0.out hssssdsssssasasssdssdssssmmmsmsd.bel) gc0).mono ?_; rintro e w25 ⟨ut00, ut01, rfl, frt0, hb25⟩)
  have JW''''''''''''''''''''''' := Lib.hid (Iv.mono JW''''''''''''''''''''''.out hb25)
  clear JW''''''''''''''''''''''
  have hssssdsssssasasssdssdssssmmmsmsds := hssssdsssssasasssdssdssssmmmsmsd.step hb25
  have hz25 : w24.heap.size ≤ w25.heap.size := by simpa using hb25.size
  have Jt0 := Lib.hid (Fresh.iv frt0)
  have zt00 := rd_cons rfl (Iv.rd Jt0.out)
  obtain ⟨rfl, _⟩ := rd_i1 zt00.1
  obtain ⟨at01, ct01, rfl, _⟩ := rd_list zt00.2
  clear zt00
  clear frt0
  refine ⟨⟨hssssdsssssasasssdssdssssmmmsmsds.cellAt 0 rfl 0 rfl, hssssdsssssasasssdssdssssmmmsmsds.cellAt 0 rfl 1 rfl, hssssdsssssasasssdssdssssmmmsmsds.cellAt 1 rfl 0 rfl, hssssdsssssasasssdssdssssmmmsmsds.cellAt 1 rfl 1 rfl, hssssdsssssasasssdssdssssmmmsmsds.cellAt 2 rfl 0 rfl, hssssdsssssasasssdssdssssmmmsmsds.cellAt 2 rfl 1 rfl, hssssdsssssasasssdssdssssmmmsmsds.cellAt 3 rfl 0 rfl, hssssdsssssasasssdssdssssmmmsmsds.cellAt 3 rfl 1 rfl⟩, ?_⟩
  (repeat (first | (apply el_skip rfl (by rfl); try simp only [Act.put, List.setIfInBounds_toArray, List.set_cons_zero, List.set_cons_succ]) | (apply el_float rfl (by rfl); (· (intro w' hS; go_simp <;> with_reducible rfl)); (try simp only [Act.put, List.setIfInBounds_toArray, List.set_cons_zero, List.set_cons_succ]))))
  have HYG' := Lib.hid (Own.mono HYG.out hb25)
  clear HYG
  have HYG := HYG'
  clear HYG'
  refine el_hard rfl (by rfl) (fun K hK => ?_)
  go_wp2_with (go_at_call 15; refine (toInstance_b (x10, x11) _ _ _ (Rd.mono H1.out hssssdsssssasasssdssdssssmmmsmsds.bel) gc1).mono ?_; rintro e w26 ⟨ut10, ut11, rfl, frt1, hb26⟩)
  have JW'''''''''''''''''''''''' := Lib.hid (Iv.mono JW'''''''''''''''''''''''.out hb26)
  clear JW'''''''''''''''''''''''
  have Jt0' := Lib.hid (Iv.mono Jt0.out hb26)
  clear Jt0
  have hssssdsssssasasssdssdssssmmmsmsdss := hssssdsssssasasssdssdssssmmmsmsds.step hb26
  have hz26 : w25.heap.size ≤ w26.heap.size := by simpa using hb26.size
  have Jt1 := Lib.hid (Fresh.iv frt1)
  have zt10 := rd_cons rfl (Iv.rd Jt1.out)
  obtain ⟨rfl, _⟩ := rd_i1 zt10.1
  obtain ⟨at11, ct11, rfl, _⟩ := rd_list zt10.2
  clear zt10
  clear frt1
  refine ⟨⟨hssssdsssssasasssdssdssssmmmsmsdss.cellAt 0 rfl 0 rfl, hssssdsssssasasssdssdssssmmmsmsdss.cellAt 0 rfl 1 rfl, hssssdsssssasasssdssdssssmmmsmsdss.cellAt 1 rfl 0 rfl, hssssdsssssasasssdssdssssmmmsmsdss.cellAt 1 rfl 1 rfl, hssssdsssssasasssdssdssssmmmsmsdss.cellAt 2 rfl 0 rfl, hssssdsssssasasssdssdssssmmmsmsdss.cellAt 2 rfl 1 rfl, hssssdsssssasasssdssdssssmmmsmsdss.cellAt 3 rfl 0 rfl, hssssdsssssasasssdssdssssmmmsmsdss.cellAt 3 rfl 1 rfl⟩, ?_⟩
  (repeat (first | (apply el_skip rfl (by rfl); try simp only [Act.put, List.setIfInBounds_toArray, List.set_cons_zero, List.set_cons_succ]) | (apply el_float rfl (by rfl); (· (intro w' hS; go_simp <;> with_reducible rfl)); (try simp only [Act.put, List.setIfInBounds_toArray, List.set_cons_zero, List.set_cons_succ]))))
  have HYG' := Lib.hid (Own.mono HYG.out hb26)
  clear HYG
  have HYG := HYG'
  clear HYG'
  refine el_hard rfl (by rfl) (fun K hK => ?_)
  go_wp2_with (go_at_call 16; refine (toPairStepS_b x2 _ _ (Rd.mono H2.out hssssdsssssasasssdssdssssmmmsmsdss.bel) gc2).mono ?_; rintro e w27 ⟨ut20, rfl, frt2, hb27⟩)
  have JW''''''''''''''''''''''''' := Lib.hid (Iv.mono JW''''''''''''''''''''''''.out hb27)
  clear JW''''''''''''''''''''''''
  have Jt0'' := Lib.hid (Iv.mono Jt0'.out hb27)
  clear Jt0'
  have Jt1' := Lib.hid (Iv.mono Jt1.out hb27)
  clear Jt1
  have hssssdsssssasasssdssdssssmmmsmsdsss := hssssdsssssasasssdssdssssmmmsmsdss.step hb27
  have hz27 : w26.heap.size ≤ w27.heap.size := by simpa using hb27.size
  have Jt2 := Lib.hid (Fresh.iv frt2)
  obtain ⟨at2, ct2, rfl, _⟩ := rd_list (Iv.rd Jt2.out)
  clear frt2
  refine ⟨⟨hssssdsssssasasssdssdssssmmmsmsdsss.cellAt 0 rfl 0 rfl, hssssdsssssasasssdssdssssmmmsmsdsss.cellAt 0 rfl 1 rfl, hssssdsssssasasssdssdssssmmmsmsdsss.cellAt 1 rfl 0 rfl, hssssdsssssasasssdssdssssmmmsmsdsss.cellAt 1 rfl 1 rfl, hssssdsssssasasssdssdssssmmmsmsdsss.cellAt 2 rfl 0 rfl, hssssdsssssasasssdssdssssmmmsmsdsss.cellAt 2 rfl 1 rfl, hssssdsssssasasssdssdssssmmmsmsdsss.cellAt 3 rfl 0 rfl, hssssdsssssasasssdssdssssmmmsmsdsss.cellAt 3 rfl 1 rfl⟩, ?_⟩
  (repeat (first | (apply el_skip rfl (by rfl); try simp only [Act.put, List.setIfInBounds_toArray, List.set_cons_zero, List.set_cons_succ]) | (apply el_float rfl (by rfl); (· (intro w' hS; go_simp <;> with_reducible rfl)); (try simp only [Act.put, List.setIfInBounds_toArray, List.set_cons_zero, List.set_cons_succ]))))
  have HYG' := Lib.hid (Own.mono HYG.out hb27)
  clear HYG
  have HYG := HYG'
  clear HYG'
  refine el_hard rfl (by rfl) (fun K hK => ?_)
  go_wp2_with (go_at_call 17; refine (CI.out _ _ _ _ _ _ (Iv.rd Jt0''.out) (Iv.rd Jt1'.out) (Iv.rd Jt2.out) (by unfold cost_PairStepS at gc2; omega)).mono ?_; rintro e w28 ⟨uK0, rfl, frK, hb28⟩)
  have JW'''''''''''''''''''''''''' := Lib.hid (Iv.mono JW'''''''''''''''''''''''''.out hb28)
  clear JW'''''''''''''''''''''''''
  have Jt0''' := Lib.hid (Iv.mono Jt0''.out hb28)
  clear Jt0''
  have Jt1'' := Lib.hid (Iv.mono Jt1'.out hb28)
  clear Jt1'
  have Jt2' := Lib.hid (Iv.mono Jt2.out hb28)
  clear Jt2
  have hssssdsssssasasssdssdssssmmmsmsdssss := hssssdsssssasasssdssdssssmmmsmsdsss.step hb28
  have hz28 : w27.heap.size ≤ w28.heap.size := by simpa using hb28.size
  have JK := Lib.hid (Fresh.iv frK)
  obtain ⟨aK, cK, rfl, _⟩ := rd_list (Iv.rd JK.out)
  clear frK
  have HYG' := Lib.hid (Own.mono HYG.out hb28)
  clear HYG
  have HYG := HYG'
  clear HYG'
  clear Jt0'''
  clear Jt1''
  clear Jt2'
  refine ⟨⟨hssssdsssssasasssdssdssssmmmsmsdssss.cellAt 0 rfl 0 rfl, hssssdsssssasasssdssdssssmmmsmsdssss.cellAt 0 rfl 1 rfl, hssssdsssssasasssdssdssssmmmsmsdssss.cellAt 1 rfl 0 rfl, hssssdsssssasasssdssdssssmmmsmsdssss.cellAt 1 rfl 1 rfl, hssssdsssssasasssdssdssssmmmsmsdssss.cellAt 2 rfl 0 rfl, hssssdsssssasasssdssdssssmmmsmsdssss.cellAt 2 rfl 1 rfl, hssssdsssssasasssdssdssssmmmsmsdssss.cellAt 3 rfl 0 rfl, hssssdsssssasasssdssdssssmmmsmsdssss.cellAt 3 rfl 1 rfl⟩, ?_⟩
  (repeat (first | (apply el_skip rfl (by rfl); try simp only [Act.put, List.setIfInBounds_toArray, List.set_cons_zero, List.set_cons_succ]) | (apply el_float rfl (by rfl); (· (intro w' hS; go_simp <;> with_reducible rfl)); (try simp only [Act.put, List.setIfInBounds_toArray, List.set_cons_zero, List.set_cons_succ]))))
  refine el_nil (NoPanic.normal ?_)
  clear qa00 qa01 qa10 qa11 qx00 qx01 qx10 qx11
  have qa00 := hssssdsssssasasssdssdssssmmmsmsdssss.cellAt 0 rfl 0 rfl
  have qa01 := hssssdsssssasasssdssdssssmmmsmsdssss.cellAt 0 rfl 1 rfl
  have qa10 := hssssdsssssasasssdssdssssmmmsmsdssss.cellAt 1 rfl 0 rfl
  have qa11 := hssssdsssssasasssdssdssssmmmsmsdssss.cellAt 1 rfl 1 rfl
  have qx00 := hssssdsssssasasssdssdssssmmmsmsdssss.cellAt 2 rfl 0 rfl
  have qx01 := hssssdsssssasasssdssdssssmmmsmsdssss.cellAt 2 rfl 1 rfl
  have qx10 := hssssdsssssasasssdssdssssmmmsmsdssss.cellAt 3 rfl 0 rfl
  have qx11 := hssssdsssssasasssdssdssssmmmsmsdssss.cellAt 3 rfl 1 rfl
  go_wp2_with fail
  refine (eqRelS_s r0 _ _ _ (Iv.rd JK.out) (Iv.rd JW''''''''''''''''''''''''''.out)).mono ?_
  rintro e w29 ⟨rfl, hb29⟩
  have JW''''''''''''''''''''''''''' := Lib.hid (Iv.mono JW''''''''''''''''''''''''''.out hb29)
  clear JW''''''''''''''''''''''''''
  have JK' := Lib.hid (Iv.mono JK.out hb29)
  clear JK
  have hssssdsssssasasssdssdssssmmmsmsdsssss := hssssdsssssasasssdssdssssmmmsmsdssss.step hb29
  have hz29 : w28.heap.size ≤ w29.heap.size := by simpa using hb29.size
  clear qa00 qa01 qa10 qa11 qx00 qx01 qx10 qx11
  have qa00 := hssssdsssssasasssdssdssssmmmsmsdsssss.cellAt 0 rfl 0 rfl
  have qa01 := hssssdsssssasasssdssdssssmmmsmsdsssss.cellAt 0 rfl 1 rfl
  have qa10 := hssssdsssssasasssdssdssssmmmsmsdsssss.cellAt 1 rfl 0 rfl
  have qa11 := hssssdsssssasasssdssdssssmmmsmsdsssss.cellAt 1 rfl 1 rfl
  have qx00 := hssssdsssssasasssdssdssssmmmsmsdsssss.cellAt 2 rfl 0 rfl
  have qx01 := hssssdsssssasasssdssdssssmmmsmsdsssss.cellAt 2 rfl 1 rfl
  have qx10 := hssssdsssssasasssdssdssssmmmsmsdsssss.cellAt 3 rfl 0 rfl
  have qx11 := hssssdsssssasasssdssdssssmmmsmsdsssss.cellAt 3 rfl 1 rfl
  have HYG' := Lib.hid (Own.mono HYG.out hb29)
  clear HYG
  have HYG := HYG'
  clear HYG'
  have HYr30 := Lib.hid (Own.rd HYG.out)
  go_wp2_with fail
  refine (heldRelS_g yG _ 1 mG _ HYr30.out HHG.out (by omega) (by omega) (by omega)).mono ?_
  rintro e w30 ⟨rfl, hb30⟩
  have HYG' := Lib.hid (Own.mono HYG.out hb30)
  clear HYG HYr30
  have HYG := HYG'
  clear HYG'
  have JW'''''''''''''''''''''''''''' := Lib.hid (Iv.mono JW'''''''''''''''''''''''''''.out hb30)
  clear JW'''''''''''''''''''''''''''
  have JK'' := Lib.hid (Iv.mono JK'.out hb30)
  clear JK'
  have hssssdsssssasasssdssdssssmmmsmsdssssss := hssssdsssssasasssdssdssssmmmsmsdsssss.step hb30
  have hz30 : w29.heap.size ≤ w30.heap.size := by simpa using hb30.size
  clear qa00 qa01 qa10 qa11 qx00 qx01 qx10 qx11
  have qa00 := hssssdsssssasasssdssdssssmmmsmsdssssss.cellAt 0 rfl 0 rfl
  have qa01 := hssssdsssssasasssdssdssssmmmsmsdssssss.cellAt 0 rfl 1 rfl
  have qa10 := hssssdsssssasasssdssdssssmmmsmsdssssss.cellAt 1 rfl 0 rfl
  have qa11 := hssssdsssssasasssdssdssssmmmsmsdssssss.cellAt 1 rfl 1 rfl
  have qx00 := hssssdsssssasasssdssdssssmmmsmsdssssss.cellAt 2 rfl 0 rfl
  have qx01 := hssssdsssssasasssdssdssssmmmsmsdssssss.cellAt 2 rfl 1 rfl
  have qx10 := hssssdsssssasasssdssdssssmmmsmsdssssss.cellAt 3 rfl 0 rfl
  have qx11 := hssssdsssssasasssdssdssssmmmsmsdssssss.cellAt 3 rfl 1 rfl
  go_wp2_with fail
  go_ret
  exact ⟨rfl, hssssdsssssasasssdssdssssmmmsmsdssssss.bel⟩

end Go.Proofs.YtjkjfjpajmjglaaGreat
