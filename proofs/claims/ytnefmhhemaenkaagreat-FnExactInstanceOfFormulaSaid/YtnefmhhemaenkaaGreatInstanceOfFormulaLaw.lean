/-
  THE LAW FnExactInstanceOfFormula, WALKED. (Printed by wip/genlawm.py.)
-/
import Derived.Test.YtnefmhhemaenkaaGreatKinds
import Derived.Test.YtnefmhhemaenkaaGreatMarkT
import Derived.Test.YtnefmhhemaenkaaGreatInstF
namespace Go.Proofs.YtnefmhhemaenkaaGreat
open Go.RowKit Go.Shelf
open Rep (Rd Own sz)
set_option linter.unusedSimpArgs false
set_option linter.unusedVariables false

structure Cut (P : Prop) : Prop where
  get : P
theorem mp_cut {G P : Prop} (h1 : Cut P → G) (h2 : P) : G := h1 ⟨h2⟩
theorem own_setOut {α : Type} [Rep α] {ps : List Nat} {w : World} {vs : List Value} {x : α} (h : Own ps w vs x) {b o : Nat} (hb : b ∉ ps) (u : Value) : Own ps (w.setCell ⟨b, o, none⟩ u) vs x := Rep.own_frame (fun k hk => Below.heap_setCell _ _ _ _ (fun e => hb (by simp only at e; rw [← e]; exact hk))) h
set_option maxRecDepth 100000 in
set_option maxHeartbeats 8000000 in
theorem FnExactInstanceOfFormula_c (x0 : Tmpl) (v00 v01 : Value) (x1 : Fml) (v10 v11 v12 : Value) (w : World) (h0 : Rd w [v00, v01] x0) (h1 : Rd w [v10, v11, v12] x1) :
    Calls Tryz.prog 3 #[.agg #[v00, v01], .agg #[v10, v11, v12]] w fun e w' => e = .returned (.bool true) ∧ Below w.heap.size w w' := by
  have hsm : mc_Instance (instF x0 x1).1 ≤ 1000000 := instF_small x0 x1
  have cS := fun a00 a01 a10 a11 a12 W h0 h1 => sInstanceOfFormula_c x0 a00 a01 x1 a10 a11 a12 W h0 h1
  have cI := fun a00 a01 a10 a11 a12 W h0 h1 => InstanceOfFormula_c x0 a00 a01 x1 a10 a11 a12 W h0 h1
  generalize instF x0 x1 = R at cS cI hsm
  obtain ⟨⟨r0, r1⟩, code⟩ := R
  have CS := Lib.hid cS
  have CI := Lib.hid cI
  clear cS cI
  obtain ⟨x00, x01⟩ := x0
  have z00 := rd_cons rfl h0
  obtain ⟨rfl, _⟩ := rd_i1 z00.1
  obtain ⟨a01, c01, rfl, _⟩ := rd_list z00.2
  clear z00
  have H0 := Lib.hid h0
  clear h0
  obtain ⟨x10, x11, x12⟩ := x1
  have z10 := rd_cons rfl h1
  obtain ⟨rfl, _⟩ := rd_i1 z10.1
  have z11 := rd_cons rfl z10.2
  obtain ⟨rfl, _⟩ := rd_i1 z11.1
  obtain ⟨a12, c12, rfl, _⟩ := rd_list z11.2
  clear z10 z11
  have H1 := Lib.hid h1
  clear h1
  have hs := ((St.start w).alloc #[.int .i64 x00, .slice a01 x01.length c01] 24 rfl).alloc #[.int .i64 x10, .int .i64 x11, .slice a12 x12.length c12] 27 (n := w.heap.size + 1) (by simp)
  go_enter Tryz.func3, Tryz.ntmps3
  go_wp2_with fail
  refine (szTemplate_b (x00, x01) _ _ (1048576) _ (Rd.mono H0.out hs.bel) (by omega) (by omega)).mono ?_
  rintro e w1 ⟨rfl, hb1⟩
  have hss := hs.step hb1
  have hz1 : w.heap.size + 2 ≤ w1.heap.size := by simpa using hb1.size
  rcases less_cases (1048576) (cost_Template (x00, x01)) with ⟨e1, g0⟩ | ⟨e1, g0⟩
  · rw [e1]
    clear e1
    go_wp2_with fail
    go_ret
    exact ⟨rfl, hss.bel⟩
  rw [e1]
  clear e1
  have qa00 := hss.cellAt 0 rfl 0 rfl
  have qa01 := hss.cellAt 0 rfl 1 rfl
  have qa10 := hss.cellAt 1 rfl 0 rfl
  have qa11 := hss.cellAt 1 rfl 1 rfl
  have qa12 := hss.cellAt 1 rfl 2 rfl
  go_wp2_with fail
  refine (szFormula_b (x10, x11, x12) _ _ _ (1048576 - (cost_Template (x00, x01))) _ (Rd.mono H1.out hss.bel) (by omega) (by omega)).mono ?_
  rintro e w2 ⟨rfl, hb2⟩
  have hsss := hss.step hb2
  have hz2 : w1.heap.size ≤ w2.heap.size := by simpa using hb2.size
  rcases less_cases (1048576 - (cost_Template (x00, x01))) (cost_Formula (x10, x11, x12)) with ⟨e1, g1⟩ | ⟨e1, g1⟩
  · rw [e1]
    clear e1
    go_wp2_with fail
    go_ret
    exact ⟨rfl, hsss.bel⟩
  rw [e1]
  clear e1
  clear qa00 qa01 qa10 qa11 qa12
  have qa00 := hsss.cellAt 0 rfl 0 rfl
  have qa01 := hsss.cellAt 0 rfl 1 rfl
  have qa10 := hsss.cellAt 1 rfl 0 rfl
  have qa11 := hsss.cellAt 1 rfl 1 rfl
  have qa12 := hsss.cellAt 1 rfl 2 rfl
  have gc0 : cost_Template (x00, x01) ≤ 1048576 := by omega
  have gc1 : cost_Formula (x10, x11, x12) ≤ 1048576 := by omega
  go_upto_region 8 with fail
  refine wp_region_noPanic (wp_region_tree4 (fun w' => w'.cell? ⟨w.heap.size, 0, none⟩ = some (.int .i64 x00) ∧ w'.cell? ⟨w.heap.size, 1, none⟩ = some (.slice a01 x01.length c01) ∧ w'.cell? ⟨w.heap.size + 1, 0, none⟩ = some (.int .i64 x10) ∧ w'.cell? ⟨w.heap.size + 1, 1, none⟩ = some (.int .i64 x11) ∧ w'.cell? ⟨w.heap.size + 1, 2, none⟩ = some (.slice a12 x12.length c12)) (.float 0 (.float 2 (.fork2 1 (.fork2 3 (.fork2 4 (.float 5 (.float 6 (.float 7 (.hard 8 (.hard 9 (.float 10 .nil)))))) 8 (.hard 4 (.float 5 (.float 6 (.float 7 (.hard 9 (.float 10 .nil))))))) 8 (.hard 3 (.hard 4 (.float 5 (.float 6 (.float 7 (.hard 9 (.float 10 .nil)))))))) 8 (.hard 1 (.hard 3 (.hard 4 (.float 5 (.float 6 (.float 7 (.hard 9 (.float 10 .nil))))))))))) (by kernel_rfl) (by kernel_rfl) (by kernel_rfl) rfl ?_ (fun _ _ _ _ _ h => h) ?_)
  · exact ⟨(hsss.drew).cellAt 0 rfl 0 rfl, (hsss.drew).cellAt 0 rfl 1 rfl, (hsss.drew).cellAt 1 rfl 0 rfl, (hsss.drew).cellAt 1 rfl 1 rfl, (hsss.drew).cellAt 1 rfl 2 rfl⟩
  have hsssd := hsss.drew
  clear qa00 qa01 qa10 qa11 qa12
  have hzF8 : w2.heap.size ≤ (w2.drew).heap.size := by simp
  generalize hgenF8 : w2.drew = wF8 at *
  have HGF8 := Lib.hid hgenF8
  clear hgenF8
  (repeat (first | (apply t4_skip rfl (by rfl); try simp only [Act.put, List.setIfInBounds_toArray, List.set_cons_zero, List.set_cons_succ]) | (apply t4_float rfl (by rfl); (· (intro w' hS; go_simp <;> with_reducible rfl)); (try simp only [Act.put, List.setIfInBounds_toArray, List.set_cons_zero, List.set_cons_succ]))))
  apply mp_cut
  · intro HJ
    refine t4_fork2 ?_ ?_
    · refine t4_hard rfl (by rfl) (fun K hK => ?_)
      go_wp2_with (go_at_call 7; refine (toTemplate_b (x00, x01) _ _ _ (Rd.mono H0.out hsssd.bel) gc0).mono ?_; rintro e w3 ⟨us00, us01, rfl, frs0, hb3⟩)
      have hsssds := hsssd.step hb3
      have hz3 : wF8.heap.size ≤ w3.heap.size := by simpa using hb3.size
      have Js0 := Lib.hid (Fresh.iv frs0)
      have zs00 := rd_cons rfl (Iv.rd Js0.out)
      obtain ⟨rfl, _⟩ := rd_i1 zs00.1
      obtain ⟨as01, cs01, rfl, _⟩ := rd_list zs00.2
      clear zs00
      clear frs0
      refine ⟨⟨hsssds.cellAt 0 rfl 0 rfl, hsssds.cellAt 0 rfl 1 rfl, hsssds.cellAt 1 rfl 0 rfl, hsssds.cellAt 1 rfl 1 rfl, hsssds.cellAt 1 rfl 2 rfl⟩, ?_⟩
      (repeat (first | (apply t4_skip rfl (by rfl); try simp only [Act.put, List.setIfInBounds_toArray, List.set_cons_zero, List.set_cons_succ]) | (apply t4_float rfl (by rfl); (· (intro w' hS; go_simp <;> with_reducible rfl)); (try simp only [Act.put, List.setIfInBounds_toArray, List.set_cons_zero, List.set_cons_succ]))))
      refine t4_fork2 ?_ ?_
      · refine t4_hard rfl (by rfl) (fun K hK => ?_)
        go_wp2_with (go_at_call 8; refine (toFormula_b (x10, x11, x12) _ _ _ _ (Rd.mono H1.out hsssds.bel) gc1).mono ?_; rintro e w4 ⟨us10, us11, us12, rfl, frs1, hb4⟩)
        have Js0' := Lib.hid (Iv.mono Js0.out hb4)
        try clear Js0
        have hsssdss := hsssds.step hb4
        have hz4 : w3.heap.size ≤ w4.heap.size := by simpa using hb4.size
        have Js1 := Lib.hid (Fresh.iv frs1)
        have zs10 := rd_cons rfl (Iv.rd Js1.out)
        obtain ⟨rfl, _⟩ := rd_i1 zs10.1
        have zs11 := rd_cons rfl zs10.2
        obtain ⟨rfl, _⟩ := rd_i1 zs11.1
        obtain ⟨as12, cs12, rfl, _⟩ := rd_list zs11.2
        clear zs10 zs11
        clear frs1
        refine ⟨⟨hsssdss.cellAt 0 rfl 0 rfl, hsssdss.cellAt 0 rfl 1 rfl, hsssdss.cellAt 1 rfl 0 rfl, hsssdss.cellAt 1 rfl 1 rfl, hsssdss.cellAt 1 rfl 2 rfl⟩, ?_⟩
        (repeat (first | (apply t4_skip rfl (by rfl); try simp only [Act.put, List.setIfInBounds_toArray, List.set_cons_zero, List.set_cons_succ]) | (apply t4_float rfl (by rfl); (· (intro w' hS; go_simp <;> with_reducible rfl)); (try simp only [Act.put, List.setIfInBounds_toArray, List.set_cons_zero, List.set_cons_succ]))))
        refine t4_fork2 ?_ ?_
        · refine t4_hard rfl (by rfl) (fun K hK => ?_)
          go_wp2_with (go_at_call 6; refine (CS.out _ _ _ _ _ _ (Iv.rd Js0'.out) (Iv.rd Js1.out)).mono ?_; rintro e w5 ⟨uW0, uW1, rfl, frW, hb5⟩)
          have Js0'' := Lib.hid (Iv.mono Js0'.out hb5)
          try clear Js0'
          have Js1' := Lib.hid (Iv.mono Js1.out hb5)
          try clear Js1
          have hsssdsss := hsssdss.step hb5
          have hz5 : w4.heap.size ≤ w5.heap.size := by simpa using hb5.size
          have JW := Lib.hid (Fresh.iv frW)
          have zW0 := rd_cons rfl (Iv.rd JW.out)
          obtain ⟨rfl, _⟩ := rd_i1 zW0.1
          obtain ⟨aW1, cW1, rfl, _⟩ := rd_list zW0.2
          clear zW0
          clear frW
          try clear Js0''
          try clear Js1'
          refine ⟨⟨hsssdsss.cellAt 0 rfl 0 rfl, hsssdsss.cellAt 0 rfl 1 rfl, hsssdsss.cellAt 1 rfl 0 rfl, hsssdsss.cellAt 1 rfl 1 rfl, hsssdsss.cellAt 1 rfl 2 rfl⟩, ?_⟩
          (repeat (first | (apply t4_skip rfl (by rfl); try simp only [Act.put, List.setIfInBounds_toArray, List.set_cons_zero, List.set_cons_succ]) | (apply t4_float rfl (by rfl); (· (intro w' hS; go_simp <;> with_reducible rfl)); (try simp only [Act.put, List.setIfInBounds_toArray, List.set_cons_zero, List.set_cons_succ]))))
          refine t4_hard rfl (by rfl) (fun K hK => ?_)
          go_wp2_with fail
          have hsssdsssa := hsssdsss.alloc #[.int .i64 0, .slice none 0 0] 32 rfl
          have JW' := Lib.hid (Iv.mono JW.out (belowA _ (.cells #[.int .i64 0, .slice none 0 0] 32)))
          try clear JW
          have hzF8A1 : w5.heap.size + 1 ≤ (w5.alloc (.cells #[.int .i64 0, .slice none 0 0] 32)).heap.size := by simp
          generalize hgenF8A1 : w5.alloc (.cells #[.int .i64 0, .slice none 0 0] 32) = wF8A1 at *
          have HGF8A1 := Lib.hid hgenF8A1
          clear hgenF8A1
          refine ⟨⟨hsssdsssa.cellAt 0 rfl 0 rfl, hsssdsssa.cellAt 0 rfl 1 rfl, hsssdsssa.cellAt 1 rfl 0 rfl, hsssdsssa.cellAt 1 rfl 1 rfl, hsssdsssa.cellAt 1 rfl 2 rfl⟩, ?_⟩
          (repeat (first | (apply t4_skip rfl (by rfl); try simp only [Act.put, List.setIfInBounds_toArray, List.set_cons_zero, List.set_cons_succ]) | (apply t4_float rfl (by rfl); (· (intro w' hS; go_simp <;> with_reducible rfl)); (try simp only [Act.put, List.setIfInBounds_toArray, List.set_cons_zero, List.set_cons_succ]))))
          refine t4_hard rfl (by rfl) (fun K hK => ?_)
          have fF80 := hsssdsssa.freeAt 2 rfl 0
          have cF80 := hsssdsssa.cellAt 2 rfl 0 rfl
          have fF81 := hsssdsssa.freeAt 2 rfl 1
          have cF81 := hsssdsssa.cellAt 2 rfl 1 rfl
          go_wp2_with fail
          have hsssdsssat := ((hsssdsssa.set (p := [_, _]) (by simp <;> omega) 0 (.int .i64 r0)).set (p := [_, _]) (by simp <;> omega) 1 (.slice aW1 r1.length cW1))
          have JW'' := Lib.hid (Iv.setOut (Iv.setOut JW'.out (a := ⟨w5.heap.size, 0, none⟩) (by first | (left; simp only; first | done | omega) | (right; simp only; first | done | omega)) (.int .i64 r0)) (a := ⟨w5.heap.size, 1, none⟩) (by first | (left; simp only; first | done | omega) | (right; simp only; first | done | omega)) (.slice aW1 r1.length cW1))
          try clear JW'
          clear fF80 cF80 fF81 cF81
          refine ⟨?_, ?_⟩
          · first | (have u9 : wF8A1.cell? ⟨w.heap.size, 0, none⟩ = some (.int .i64 x00) ∧ wF8A1.cell? ⟨w.heap.size, 1, none⟩ = some (.slice a01 x01.length c01) ∧ wF8A1.cell? ⟨w.heap.size + 1, 0, none⟩ = some (.int .i64 x10) ∧ wF8A1.cell? ⟨w.heap.size + 1, 1, none⟩ = some (.int .i64 x11) ∧ wF8A1.cell? ⟨w.heap.size + 1, 2, none⟩ = some (.slice a12 x12.length c12) := ⟨hsssdsssa.cellAt 0 rfl 0 rfl, hsssdsssa.cellAt 0 rfl 1 rfl, hsssdsssa.cellAt 1 rfl 0 rfl, hsssdsssa.cellAt 1 rfl 1 rfl, hsssdsssa.cellAt 1 rfl 2 rfl⟩; with_reducible exact u9) | (have u9 : ((wF8A1.setCell ⟨w5.heap.size, 0, none⟩ (.int .i64 r0)).setCell ⟨w5.heap.size, 1, none⟩ (.slice aW1 r1.length cW1)).cell? ⟨w.heap.size, 0, none⟩ = some (.int .i64 x00) ∧ ((wF8A1.setCell ⟨w5.heap.size, 0, none⟩ (.int .i64 r0)).setCell ⟨w5.heap.size, 1, none⟩ (.slice aW1 r1.length cW1)).cell? ⟨w.heap.size, 1, none⟩ = some (.slice a01 x01.length c01) ∧ ((wF8A1.setCell ⟨w5.heap.size, 0, none⟩ (.int .i64 r0)).setCell ⟨w5.heap.size, 1, none⟩ (.slice aW1 r1.length cW1)).cell? ⟨w.heap.size + 1, 0, none⟩ = some (.int .i64 x10) ∧ ((wF8A1.setCell ⟨w5.heap.size, 0, none⟩ (.int .i64 r0)).setCell ⟨w5.heap.size, 1, none⟩ (.slice aW1 r1.length cW1)).cell? ⟨w.heap.size + 1, 1, none⟩ = some (.int .i64 x11) ∧ ((wF8A1.setCell ⟨w5.heap.size, 0, none⟩ (.int .i64 r0)).setCell ⟨w5.heap.size, 1, none⟩ (.slice aW1 r1.length cW1)).cell? ⟨w.heap.size + 1, 2, none⟩ = some (.slice a12 x12.length c12) := ⟨hsssdsssat.cellAt 0 rfl 0 rfl, hsssdsssat.cellAt 0 rfl 1 rfl, hsssdsssat.cellAt 1 rfl 0 rfl, hsssdsssat.cellAt 1 rfl 1 rfl, hsssdsssat.cellAt 1 rfl 2 rfl⟩; with_reducible exact u9) | exact ⟨hsssdsssat.cellAt 0 rfl 0 rfl, hsssdsssat.cellAt 0 rfl 1 rfl, hsssdsssat.cellAt 1 rfl 0 rfl, hsssdsssat.cellAt 1 rfl 1 rfl, hsssdsssat.cellAt 1 rfl 2 rfl⟩ | exact ⟨hsssdsssa.cellAt 0 rfl 0 rfl, hsssdsssa.cellAt 0 rfl 1 rfl, hsssdsssa.cellAt 1 rfl 0 rfl, hsssdsssa.cellAt 1 rfl 1 rfl, hsssdsssa.cellAt 1 rfl 2 rfl⟩
          (repeat (first | (apply t4_skip rfl (by rfl); try simp only [Act.put, List.setIfInBounds_toArray, List.set_cons_zero, List.set_cons_succ]) | (apply t4_float rfl (by rfl); (· (intro w' hS; go_simp <;> with_reducible rfl)); (try simp only [Act.put, List.setIfInBounds_toArray, List.set_cons_zero, List.set_cons_succ]))))
          refine t4_nil (NoPanic.normal ?_)
          have hsF8 : St w ((wF8A1.setCell ⟨w5.heap.size, 0, none⟩ (.int .i64 r0)).setCell ⟨w5.heap.size, 1, none⟩ (.slice aW1 r1.length cW1)).heap.size ((wF8A1.setCell ⟨w5.heap.size, 0, none⟩ (.int .i64 r0)).setCell ⟨w5.heap.size, 1, none⟩ (.slice aW1 r1.length cW1)) [(w.heap.size, #[.int .i64 x00, .slice a01 x01.length c01], 24), (w.heap.size + 1, #[.int .i64 x10, .int .i64 x11, .slice a12 x12.length c12], 27), (w5.heap.size, #[.int .i64 r0, .slice aW1 r1.length cW1], 32)] := hsssdsssat.up hsssdsssat.hi (Nat.le_refl _)
          have hVF8 : wF8A1.heap.size = ((wF8A1.setCell ⟨w5.heap.size, 0, none⟩ (.int .i64 r0)).setCell ⟨w5.heap.size, 1, none⟩ (.slice aW1 r1.length cW1)).heap.size := by simp [World.setCell]
          obtain ⟨loUF8, hiUF8, hUF8, JUF8⟩ : ∃ lo hi : Nat, (w2.heap.size ≤ lo ∧ hi ≤ wF8A1.heap.size ∧ (w5.heap.size < lo ∨ hi ≤ w5.heap.size) ∧ w2.heap.size ≤ w5.heap.size ∧ w5.heap.size < wF8A1.heap.size) ∧ Hid (Iv lo hi ((wF8A1.setCell ⟨w5.heap.size, 0, none⟩ (.int .i64 r0)).setCell ⟨w5.heap.size, 1, none⟩ (.slice aW1 r1.length cW1)) [.int .i64 r0, .slice aW1 r1.length cW1] (r0, r1)) := ⟨w4.heap.size, w5.heap.size, by omega, JW''.out⟩
          rw [hVF8] at hUF8
          clear hVF8 JW''
          generalize hhwUF8 : ((wF8A1.setCell ⟨w5.heap.size, 0, none⟩ (.int .i64 r0)).setCell ⟨w5.heap.size, 1, none⟩ (.slice aW1 r1.length cW1)) = wUF8 at hsF8 hUF8 JUF8 ⊢
          clear hhwUF8
          generalize hhgUF8 : w5.heap.size = gUF8 at hsF8 hUF8 JUF8 ⊢
          clear hhgUF8
          generalize as01 = zas01 at hsF8 hUF8 JUF8 ⊢
          generalize cs01 = zcs01 at hsF8 hUF8 JUF8 ⊢
          generalize as12 = zas12 at hsF8 hUF8 JUF8 ⊢
          generalize cs12 = zcs12 at hsF8 hUF8 JUF8 ⊢
          generalize aW1 = zaW1 at hsF8 hUF8 JUF8 ⊢
          generalize cW1 = zcW1 at hsF8 hUF8 JUF8 ⊢
          revert JUF8
          revert hUF8
          revert hsF8
          revert zcW1
          revert zaW1
          revert zcs12
          revert zas12
          revert zcs01
          revert zas01
          revert hiUF8
          revert loUF8
          revert gUF8
          revert wUF8
          exact HJ.get
        · refine t4_hard rfl (by rfl) (fun K hK => ?_)
          go_wp2_with fail
          have hsssdssa := hsssdss.alloc #[.int .i64 0, .slice none 0 0] 32 rfl
          have Js0'' := Lib.hid (Iv.mono Js0'.out (belowA _ (.cells #[.int .i64 0, .slice none 0 0] 32)))
          try clear Js0'
          have Js1' := Lib.hid (Iv.mono Js1.out (belowA _ (.cells #[.int .i64 0, .slice none 0 0] 32)))
          try clear Js1
          have hzF8A2 : w4.heap.size + 1 ≤ (w4.alloc (.cells #[.int .i64 0, .slice none 0 0] 32)).heap.size := by simp
          generalize hgenF8A2 : w4.alloc (.cells #[.int .i64 0, .slice none 0 0] 32) = wF8A2 at *
          have HGF8A2 := Lib.hid hgenF8A2
          clear hgenF8A2
          refine ⟨⟨hsssdssa.cellAt 0 rfl 0 rfl, hsssdssa.cellAt 0 rfl 1 rfl, hsssdssa.cellAt 1 rfl 0 rfl, hsssdssa.cellAt 1 rfl 1 rfl, hsssdssa.cellAt 1 rfl 2 rfl⟩, ?_⟩
          (repeat (first | (apply t4_skip rfl (by rfl); try simp only [Act.put, List.setIfInBounds_toArray, List.set_cons_zero, List.set_cons_succ]) | (apply t4_float rfl (by rfl); (· (intro w' hS; go_simp <;> with_reducible rfl)); (try simp only [Act.put, List.setIfInBounds_toArray, List.set_cons_zero, List.set_cons_succ]))))
          refine t4_hard rfl (by rfl) (fun K hK => ?_)
          go_wp2_with (go_at_call 6; refine (CS.out _ _ _ _ _ _ (Iv.rd Js0''.out) (Iv.rd Js1'.out)).mono ?_; rintro e w5 ⟨uW0, uW1, rfl, frW, hb5⟩)
          have Js0''' := Lib.hid (Iv.mono Js0''.out hb5)
          try clear Js0''
          have Js1'' := Lib.hid (Iv.mono Js1'.out hb5)
          try clear Js1'
          have hsssdssas := hsssdssa.step hb5
          have hz5 : wF8A2.heap.size ≤ w5.heap.size := by simpa using hb5.size
          have JW := Lib.hid (Fresh.iv frW)
          have zW0 := rd_cons rfl (Iv.rd JW.out)
          obtain ⟨rfl, _⟩ := rd_i1 zW0.1
          obtain ⟨aW1, cW1, rfl, _⟩ := rd_list zW0.2
          clear zW0
          clear frW
          try clear Js0'''
          try clear Js1''
          refine ⟨⟨hsssdssas.cellAt 0 rfl 0 rfl, hsssdssas.cellAt 0 rfl 1 rfl, hsssdssas.cellAt 1 rfl 0 rfl, hsssdssas.cellAt 1 rfl 1 rfl, hsssdssas.cellAt 1 rfl 2 rfl⟩, ?_⟩
          (repeat (first | (apply t4_skip rfl (by rfl); try simp only [Act.put, List.setIfInBounds_toArray, List.set_cons_zero, List.set_cons_succ]) | (apply t4_float rfl (by rfl); (· (intro w' hS; go_simp <;> with_reducible rfl)); (try simp only [Act.put, List.setIfInBounds_toArray, List.set_cons_zero, List.set_cons_succ]))))
          refine t4_hard rfl (by rfl) (fun K hK => ?_)
          have fF80 := hsssdssas.freeAt 2 rfl 0
          have cF80 := hsssdssas.cellAt 2 rfl 0 rfl
          have fF81 := hsssdssas.freeAt 2 rfl 1
          have cF81 := hsssdssas.cellAt 2 rfl 1 rfl
          go_wp2_with fail
          have hsssdssast := ((hsssdssas.set (p := [_, _]) (by simp <;> omega) 0 (.int .i64 r0)).set (p := [_, _]) (by simp <;> omega) 1 (.slice aW1 r1.length cW1))
          have JW' := Lib.hid (Iv.setOut (Iv.setOut JW.out (a := ⟨w4.heap.size, 0, none⟩) (by first | (left; simp only; first | done | omega) | (right; simp only; first | done | omega)) (.int .i64 r0)) (a := ⟨w4.heap.size, 1, none⟩) (by first | (left; simp only; first | done | omega) | (right; simp only; first | done | omega)) (.slice aW1 r1.length cW1))
          try clear JW
          clear fF80 cF80 fF81 cF81
          refine ⟨?_, ?_⟩
          · first | (have u9 : w5.cell? ⟨w.heap.size, 0, none⟩ = some (.int .i64 x00) ∧ w5.cell? ⟨w.heap.size, 1, none⟩ = some (.slice a01 x01.length c01) ∧ w5.cell? ⟨w.heap.size + 1, 0, none⟩ = some (.int .i64 x10) ∧ w5.cell? ⟨w.heap.size + 1, 1, none⟩ = some (.int .i64 x11) ∧ w5.cell? ⟨w.heap.size + 1, 2, none⟩ = some (.slice a12 x12.length c12) := ⟨hsssdssas.cellAt 0 rfl 0 rfl, hsssdssas.cellAt 0 rfl 1 rfl, hsssdssas.cellAt 1 rfl 0 rfl, hsssdssas.cellAt 1 rfl 1 rfl, hsssdssas.cellAt 1 rfl 2 rfl⟩; with_reducible exact u9) | (have u9 : ((w5.setCell ⟨w4.heap.size, 0, none⟩ (.int .i64 r0)).setCell ⟨w4.heap.size, 1, none⟩ (.slice aW1 r1.length cW1)).cell? ⟨w.heap.size, 0, none⟩ = some (.int .i64 x00) ∧ ((w5.setCell ⟨w4.heap.size, 0, none⟩ (.int .i64 r0)).setCell ⟨w4.heap.size, 1, none⟩ (.slice aW1 r1.length cW1)).cell? ⟨w.heap.size, 1, none⟩ = some (.slice a01 x01.length c01) ∧ ((w5.setCell ⟨w4.heap.size, 0, none⟩ (.int .i64 r0)).setCell ⟨w4.heap.size, 1, none⟩ (.slice aW1 r1.length cW1)).cell? ⟨w.heap.size + 1, 0, none⟩ = some (.int .i64 x10) ∧ ((w5.setCell ⟨w4.heap.size, 0, none⟩ (.int .i64 r0)).setCell ⟨w4.heap.size, 1, none⟩ (.slice aW1 r1.length cW1)).cell? ⟨w.heap.size + 1, 1, none⟩ = some (.int .i64 x11) ∧ ((w5.setCell ⟨w4.heap.size, 0, none⟩ (.int .i64 r0)).setCell ⟨w4.heap.size, 1, none⟩ (.slice aW1 r1.length cW1)).cell? ⟨w.heap.size + 1, 2, none⟩ = some (.slice a12 x12.length c12) := ⟨hsssdssast.cellAt 0 rfl 0 rfl, hsssdssast.cellAt 0 rfl 1 rfl, hsssdssast.cellAt 1 rfl 0 rfl, hsssdssast.cellAt 1 rfl 1 rfl, hsssdssast.cellAt 1 rfl 2 rfl⟩; with_reducible exact u9) | exact ⟨hsssdssast.cellAt 0 rfl 0 rfl, hsssdssast.cellAt 0 rfl 1 rfl, hsssdssast.cellAt 1 rfl 0 rfl, hsssdssast.cellAt 1 rfl 1 rfl, hsssdssast.cellAt 1 rfl 2 rfl⟩ | exact ⟨hsssdssas.cellAt 0 rfl 0 rfl, hsssdssas.cellAt 0 rfl 1 rfl, hsssdssas.cellAt 1 rfl 0 rfl, hsssdssas.cellAt 1 rfl 1 rfl, hsssdssas.cellAt 1 rfl 2 rfl⟩
          (repeat (first | (apply t4_skip rfl (by rfl); try simp only [Act.put, List.setIfInBounds_toArray, List.set_cons_zero, List.set_cons_succ]) | (apply t4_float rfl (by rfl); (· (intro w' hS; go_simp <;> with_reducible rfl)); (try simp only [Act.put, List.setIfInBounds_toArray, List.set_cons_zero, List.set_cons_succ]))))
          refine t4_nil (NoPanic.normal ?_)
          have hsF8 : St w ((w5.setCell ⟨w4.heap.size, 0, none⟩ (.int .i64 r0)).setCell ⟨w4.heap.size, 1, none⟩ (.slice aW1 r1.length cW1)).heap.size ((w5.setCell ⟨w4.heap.size, 0, none⟩ (.int .i64 r0)).setCell ⟨w4.heap.size, 1, none⟩ (.slice aW1 r1.length cW1)) [(w.heap.size, #[.int .i64 x00, .slice a01 x01.length c01], 24), (w.heap.size + 1, #[.int .i64 x10, .int .i64 x11, .slice a12 x12.length c12], 27), (w4.heap.size, #[.int .i64 r0, .slice aW1 r1.length cW1], 32)] := hsssdssast.up hsssdssast.hi (Nat.le_refl _)
          have hVF8 : w5.heap.size = ((w5.setCell ⟨w4.heap.size, 0, none⟩ (.int .i64 r0)).setCell ⟨w4.heap.size, 1, none⟩ (.slice aW1 r1.length cW1)).heap.size := by simp [World.setCell]
          obtain ⟨loUF8, hiUF8, hUF8, JUF8⟩ : ∃ lo hi : Nat, (w2.heap.size ≤ lo ∧ hi ≤ w5.heap.size ∧ (w4.heap.size < lo ∨ hi ≤ w4.heap.size) ∧ w2.heap.size ≤ w4.heap.size ∧ w4.heap.size < w5.heap.size) ∧ Hid (Iv lo hi ((w5.setCell ⟨w4.heap.size, 0, none⟩ (.int .i64 r0)).setCell ⟨w4.heap.size, 1, none⟩ (.slice aW1 r1.length cW1)) [.int .i64 r0, .slice aW1 r1.length cW1] (r0, r1)) := ⟨wF8A2.heap.size, w5.heap.size, by omega, JW'.out⟩
          rw [hVF8] at hUF8
          clear hVF8 JW'
          generalize hhwUF8 : ((w5.setCell ⟨w4.heap.size, 0, none⟩ (.int .i64 r0)).setCell ⟨w4.heap.size, 1, none⟩ (.slice aW1 r1.length cW1)) = wUF8 at hsF8 hUF8 JUF8 ⊢
          clear hhwUF8
          generalize hhgUF8 : w4.heap.size = gUF8 at hsF8 hUF8 JUF8 ⊢
          clear hhgUF8
          generalize as01 = zas01 at hsF8 hUF8 JUF8 ⊢
          generalize cs01 = zcs01 at hsF8 hUF8 JUF8 ⊢
          generalize as12 = zas12 at hsF8 hUF8 JUF8 ⊢
          generalize cs12 = zcs12 at hsF8 hUF8 JUF8 ⊢
          generalize aW1 = zaW1 at hsF8 hUF8 JUF8 ⊢
          generalize cW1 = zcW1 at hsF8 hUF8 JUF8 ⊢
          revert JUF8
          revert hUF8
          revert hsF8
          revert zcW1
          revert zaW1
          revert zcs12
          revert zas12
          revert zcs01
          revert zas01
          revert hiUF8
          revert loUF8
          revert gUF8
          revert wUF8
          exact HJ.get
      · refine t4_hard rfl (by rfl) (fun K hK => ?_)
        go_wp2_with fail
        have hsssdsa := hsssds.alloc #[.int .i64 0, .slice none 0 0] 32 rfl
        have Js0' := Lib.hid (Iv.mono Js0.out (belowA _ (.cells #[.int .i64 0, .slice none 0 0] 32)))
        try clear Js0
        have hzF8A3 : w3.heap.size + 1 ≤ (w3.alloc (.cells #[.int .i64 0, .slice none 0 0] 32)).heap.size := by simp
        generalize hgenF8A3 : w3.alloc (.cells #[.int .i64 0, .slice none 0 0] 32) = wF8A3 at *
        have HGF8A3 := Lib.hid hgenF8A3
        clear hgenF8A3
        refine ⟨⟨hsssdsa.cellAt 0 rfl 0 rfl, hsssdsa.cellAt 0 rfl 1 rfl, hsssdsa.cellAt 1 rfl 0 rfl, hsssdsa.cellAt 1 rfl 1 rfl, hsssdsa.cellAt 1 rfl 2 rfl⟩, ?_⟩
        (repeat (first | (apply t4_skip rfl (by rfl); try simp only [Act.put, List.setIfInBounds_toArray, List.set_cons_zero, List.set_cons_succ]) | (apply t4_float rfl (by rfl); (· (intro w' hS; go_simp <;> with_reducible rfl)); (try simp only [Act.put, List.setIfInBounds_toArray, List.set_cons_zero, List.set_cons_succ]))))
        refine t4_hard rfl (by rfl) (fun K hK => ?_)
        go_wp2_with (go_at_call 8; refine (toFormula_b (x10, x11, x12) _ _ _ _ (Rd.mono H1.out hsssdsa.bel) gc1).mono ?_; rintro e w4 ⟨us10, us11, us12, rfl, frs1, hb4⟩)
        have Js0'' := Lib.hid (Iv.mono Js0'.out hb4)
        try clear Js0'
        have hsssdsas := hsssdsa.step hb4
        have hz4 : wF8A3.heap.size ≤ w4.heap.size := by simpa using hb4.size
        have Js1 := Lib.hid (Fresh.iv frs1)
        have zs10 := rd_cons rfl (Iv.rd Js1.out)
        obtain ⟨rfl, _⟩ := rd_i1 zs10.1
        have zs11 := rd_cons rfl zs10.2
        obtain ⟨rfl, _⟩ := rd_i1 zs11.1
        obtain ⟨as12, cs12, rfl, _⟩ := rd_list zs11.2
        clear zs10 zs11
        clear frs1
        refine ⟨⟨hsssdsas.cellAt 0 rfl 0 rfl, hsssdsas.cellAt 0 rfl 1 rfl, hsssdsas.cellAt 1 rfl 0 rfl, hsssdsas.cellAt 1 rfl 1 rfl, hsssdsas.cellAt 1 rfl 2 rfl⟩, ?_⟩
        (repeat (first | (apply t4_skip rfl (by rfl); try simp only [Act.put, List.setIfInBounds_toArray, List.set_cons_zero, List.set_cons_succ]) | (apply t4_float rfl (by rfl); (· (intro w' hS; go_simp <;> with_reducible rfl)); (try simp only [Act.put, List.setIfInBounds_toArray, List.set_cons_zero, List.set_cons_succ]))))
        refine t4_hard rfl (by rfl) (fun K hK => ?_)
        go_wp2_with (go_at_call 6; refine (CS.out _ _ _ _ _ _ (Iv.rd Js0''.out) (Iv.rd Js1.out)).mono ?_; rintro e w5 ⟨uW0, uW1, rfl, frW, hb5⟩)
        have Js0''' := Lib.hid (Iv.mono Js0''.out hb5)
        try clear Js0''
        have Js1' := Lib.hid (Iv.mono Js1.out hb5)
        try clear Js1
        have hsssdsass := hsssdsas.step hb5
        have hz5 : w4.heap.size ≤ w5.heap.size := by simpa using hb5.size
        have JW := Lib.hid (Fresh.iv frW)
        have zW0 := rd_cons rfl (Iv.rd JW.out)
        obtain ⟨rfl, _⟩ := rd_i1 zW0.1
        obtain ⟨aW1, cW1, rfl, _⟩ := rd_list zW0.2
        clear zW0
        clear frW
        try clear Js0'''
        try clear Js1'
        refine ⟨⟨hsssdsass.cellAt 0 rfl 0 rfl, hsssdsass.cellAt 0 rfl 1 rfl, hsssdsass.cellAt 1 rfl 0 rfl, hsssdsass.cellAt 1 rfl 1 rfl, hsssdsass.cellAt 1 rfl 2 rfl⟩, ?_⟩
        (repeat (first | (apply t4_skip rfl (by rfl); try simp only [Act.put, List.setIfInBounds_toArray, List.set_cons_zero, List.set_cons_succ]) | (apply t4_float rfl (by rfl); (· (intro w' hS; go_simp <;> with_reducible rfl)); (try simp only [Act.put, List.setIfInBounds_toArray, List.set_cons_zero, List.set_cons_succ]))))
        refine t4_hard rfl (by rfl) (fun K hK => ?_)
        have fF80 := hsssdsass.freeAt 2 rfl 0
        have cF80 := hsssdsass.cellAt 2 rfl 0 rfl
        have fF81 := hsssdsass.freeAt 2 rfl 1
        have cF81 := hsssdsass.cellAt 2 rfl 1 rfl
        go_wp2_with fail
        have hsssdsasst := ((hsssdsass.set (p := [_, _]) (by simp <;> omega) 0 (.int .i64 r0)).set (p := [_, _]) (by simp <;> omega) 1 (.slice aW1 r1.length cW1))
        have JW' := Lib.hid (Iv.setOut (Iv.setOut JW.out (a := ⟨w3.heap.size, 0, none⟩) (by first | (left; simp only; first | done | omega) | (right; simp only; first | done | omega)) (.int .i64 r0)) (a := ⟨w3.heap.size, 1, none⟩) (by first | (left; simp only; first | done | omega) | (right; simp only; first | done | omega)) (.slice aW1 r1.length cW1))
        try clear JW
        clear fF80 cF80 fF81 cF81
        refine ⟨?_, ?_⟩
        · first | (have u9 : w5.cell? ⟨w.heap.size, 0, none⟩ = some (.int .i64 x00) ∧ w5.cell? ⟨w.heap.size, 1, none⟩ = some (.slice a01 x01.length c01) ∧ w5.cell? ⟨w.heap.size + 1, 0, none⟩ = some (.int .i64 x10) ∧ w5.cell? ⟨w.heap.size + 1, 1, none⟩ = some (.int .i64 x11) ∧ w5.cell? ⟨w.heap.size + 1, 2, none⟩ = some (.slice a12 x12.length c12) := ⟨hsssdsass.cellAt 0 rfl 0 rfl, hsssdsass.cellAt 0 rfl 1 rfl, hsssdsass.cellAt 1 rfl 0 rfl, hsssdsass.cellAt 1 rfl 1 rfl, hsssdsass.cellAt 1 rfl 2 rfl⟩; with_reducible exact u9) | (have u9 : ((w5.setCell ⟨w3.heap.size, 0, none⟩ (.int .i64 r0)).setCell ⟨w3.heap.size, 1, none⟩ (.slice aW1 r1.length cW1)).cell? ⟨w.heap.size, 0, none⟩ = some (.int .i64 x00) ∧ ((w5.setCell ⟨w3.heap.size, 0, none⟩ (.int .i64 r0)).setCell ⟨w3.heap.size, 1, none⟩ (.slice aW1 r1.length cW1)).cell? ⟨w.heap.size, 1, none⟩ = some (.slice a01 x01.length c01) ∧ ((w5.setCell ⟨w3.heap.size, 0, none⟩ (.int .i64 r0)).setCell ⟨w3.heap.size, 1, none⟩ (.slice aW1 r1.length cW1)).cell? ⟨w.heap.size + 1, 0, none⟩ = some (.int .i64 x10) ∧ ((w5.setCell ⟨w3.heap.size, 0, none⟩ (.int .i64 r0)).setCell ⟨w3.heap.size, 1, none⟩ (.slice aW1 r1.length cW1)).cell? ⟨w.heap.size + 1, 1, none⟩ = some (.int .i64 x11) ∧ ((w5.setCell ⟨w3.heap.size, 0, none⟩ (.int .i64 r0)).setCell ⟨w3.heap.size, 1, none⟩ (.slice aW1 r1.length cW1)).cell? ⟨w.heap.size + 1, 2, none⟩ = some (.slice a12 x12.length c12) := ⟨hsssdsasst.cellAt 0 rfl 0 rfl, hsssdsasst.cellAt 0 rfl 1 rfl, hsssdsasst.cellAt 1 rfl 0 rfl, hsssdsasst.cellAt 1 rfl 1 rfl, hsssdsasst.cellAt 1 rfl 2 rfl⟩; with_reducible exact u9) | exact ⟨hsssdsasst.cellAt 0 rfl 0 rfl, hsssdsasst.cellAt 0 rfl 1 rfl, hsssdsasst.cellAt 1 rfl 0 rfl, hsssdsasst.cellAt 1 rfl 1 rfl, hsssdsasst.cellAt 1 rfl 2 rfl⟩ | exact ⟨hsssdsass.cellAt 0 rfl 0 rfl, hsssdsass.cellAt 0 rfl 1 rfl, hsssdsass.cellAt 1 rfl 0 rfl, hsssdsass.cellAt 1 rfl 1 rfl, hsssdsass.cellAt 1 rfl 2 rfl⟩
        (repeat (first | (apply t4_skip rfl (by rfl); try simp only [Act.put, List.setIfInBounds_toArray, List.set_cons_zero, List.set_cons_succ]) | (apply t4_float rfl (by rfl); (· (intro w' hS; go_simp <;> with_reducible rfl)); (try simp only [Act.put, List.setIfInBounds_toArray, List.set_cons_zero, List.set_cons_succ]))))
        refine t4_nil (NoPanic.normal ?_)
        have hsF8 : St w ((w5.setCell ⟨w3.heap.size, 0, none⟩ (.int .i64 r0)).setCell ⟨w3.heap.size, 1, none⟩ (.slice aW1 r1.length cW1)).heap.size ((w5.setCell ⟨w3.heap.size, 0, none⟩ (.int .i64 r0)).setCell ⟨w3.heap.size, 1, none⟩ (.slice aW1 r1.length cW1)) [(w.heap.size, #[.int .i64 x00, .slice a01 x01.length c01], 24), (w.heap.size + 1, #[.int .i64 x10, .int .i64 x11, .slice a12 x12.length c12], 27), (w3.heap.size, #[.int .i64 r0, .slice aW1 r1.length cW1], 32)] := hsssdsasst.up hsssdsasst.hi (Nat.le_refl _)
        have hVF8 : w5.heap.size = ((w5.setCell ⟨w3.heap.size, 0, none⟩ (.int .i64 r0)).setCell ⟨w3.heap.size, 1, none⟩ (.slice aW1 r1.length cW1)).heap.size := by simp [World.setCell]
        obtain ⟨loUF8, hiUF8, hUF8, JUF8⟩ : ∃ lo hi : Nat, (w2.heap.size ≤ lo ∧ hi ≤ w5.heap.size ∧ (w3.heap.size < lo ∨ hi ≤ w3.heap.size) ∧ w2.heap.size ≤ w3.heap.size ∧ w3.heap.size < w5.heap.size) ∧ Hid (Iv lo hi ((w5.setCell ⟨w3.heap.size, 0, none⟩ (.int .i64 r0)).setCell ⟨w3.heap.size, 1, none⟩ (.slice aW1 r1.length cW1)) [.int .i64 r0, .slice aW1 r1.length cW1] (r0, r1)) := ⟨w4.heap.size, w5.heap.size, by omega, JW'.out⟩
        rw [hVF8] at hUF8
        clear hVF8 JW'
        generalize hhwUF8 : ((w5.setCell ⟨w3.heap.size, 0, none⟩ (.int .i64 r0)).setCell ⟨w3.heap.size, 1, none⟩ (.slice aW1 r1.length cW1)) = wUF8 at hsF8 hUF8 JUF8 ⊢
        clear hhwUF8
        generalize hhgUF8 : w3.heap.size = gUF8 at hsF8 hUF8 JUF8 ⊢
        clear hhgUF8
        generalize as01 = zas01 at hsF8 hUF8 JUF8 ⊢
        generalize cs01 = zcs01 at hsF8 hUF8 JUF8 ⊢
        generalize as12 = zas12 at hsF8 hUF8 JUF8 ⊢
        generalize cs12 = zcs12 at hsF8 hUF8 JUF8 ⊢
        generalize aW1 = zaW1 at hsF8 hUF8 JUF8 ⊢
        generalize cW1 = zcW1 at hsF8 hUF8 JUF8 ⊢
        revert JUF8
        revert hUF8
        revert hsF8
        revert zcW1
        revert zaW1
        revert zcs12
        revert zas12
        revert zcs01
        revert zas01
        revert hiUF8
        revert loUF8
        revert gUF8
        revert wUF8
        exact HJ.get
    · refine t4_hard rfl (by rfl) (fun K hK => ?_)
      go_wp2_with fail
      have hsssda := hsssd.alloc #[.int .i64 0, .slice none 0 0] 32 rfl
      have hzF8A4 : wF8.heap.size + 1 ≤ (wF8.alloc (.cells #[.int .i64 0, .slice none 0 0] 32)).heap.size := by simp
      generalize hgenF8A4 : wF8.alloc (.cells #[.int .i64 0, .slice none 0 0] 32) = wF8A4 at *
      have HGF8A4 := Lib.hid hgenF8A4
      clear hgenF8A4
      refine ⟨⟨hsssda.cellAt 0 rfl 0 rfl, hsssda.cellAt 0 rfl 1 rfl, hsssda.cellAt 1 rfl 0 rfl, hsssda.cellAt 1 rfl 1 rfl, hsssda.cellAt 1 rfl 2 rfl⟩, ?_⟩
      (repeat (first | (apply t4_skip rfl (by rfl); try simp only [Act.put, List.setIfInBounds_toArray, List.set_cons_zero, List.set_cons_succ]) | (apply t4_float rfl (by rfl); (· (intro w' hS; go_simp <;> with_reducible rfl)); (try simp only [Act.put, List.setIfInBounds_toArray, List.set_cons_zero, List.set_cons_succ]))))
      refine t4_hard rfl (by rfl) (fun K hK => ?_)
      go_wp2_with (go_at_call 7; refine (toTemplate_b (x00, x01) _ _ _ (Rd.mono H0.out hsssda.bel) gc0).mono ?_; rintro e w3 ⟨us00, us01, rfl, frs0, hb3⟩)
      have hsssdas := hsssda.step hb3
      have hz3 : wF8A4.heap.size ≤ w3.heap.size := by simpa using hb3.size
      have Js0 := Lib.hid (Fresh.iv frs0)
      have zs00 := rd_cons rfl (Iv.rd Js0.out)
      obtain ⟨rfl, _⟩ := rd_i1 zs00.1
      obtain ⟨as01, cs01, rfl, _⟩ := rd_list zs00.2
      clear zs00
      clear frs0
      refine ⟨⟨hsssdas.cellAt 0 rfl 0 rfl, hsssdas.cellAt 0 rfl 1 rfl, hsssdas.cellAt 1 rfl 0 rfl, hsssdas.cellAt 1 rfl 1 rfl, hsssdas.cellAt 1 rfl 2 rfl⟩, ?_⟩
      (repeat (first | (apply t4_skip rfl (by rfl); try simp only [Act.put, List.setIfInBounds_toArray, List.set_cons_zero, List.set_cons_succ]) | (apply t4_float rfl (by rfl); (· (intro w' hS; go_simp <;> with_reducible rfl)); (try simp only [Act.put, List.setIfInBounds_toArray, List.set_cons_zero, List.set_cons_succ]))))
      refine t4_hard rfl (by rfl) (fun K hK => ?_)
      go_wp2_with (go_at_call 8; refine (toFormula_b (x10, x11, x12) _ _ _ _ (Rd.mono H1.out hsssdas.bel) gc1).mono ?_; rintro e w4 ⟨us10, us11, us12, rfl, frs1, hb4⟩)
      have Js0' := Lib.hid (Iv.mono Js0.out hb4)
      try clear Js0
      have hsssdass := hsssdas.step hb4
      have hz4 : w3.heap.size ≤ w4.heap.size := by simpa using hb4.size
      have Js1 := Lib.hid (Fresh.iv frs1)
      have zs10 := rd_cons rfl (Iv.rd Js1.out)
      obtain ⟨rfl, _⟩ := rd_i1 zs10.1
      have zs11 := rd_cons rfl zs10.2
      obtain ⟨rfl, _⟩ := rd_i1 zs11.1
      obtain ⟨as12, cs12, rfl, _⟩ := rd_list zs11.2
      clear zs10 zs11
      clear frs1
      refine ⟨⟨hsssdass.cellAt 0 rfl 0 rfl, hsssdass.cellAt 0 rfl 1 rfl, hsssdass.cellAt 1 rfl 0 rfl, hsssdass.cellAt 1 rfl 1 rfl, hsssdass.cellAt 1 rfl 2 rfl⟩, ?_⟩
      (repeat (first | (apply t4_skip rfl (by rfl); try simp only [Act.put, List.setIfInBounds_toArray, List.set_cons_zero, List.set_cons_succ]) | (apply t4_float rfl (by rfl); (· (intro w' hS; go_simp <;> with_reducible rfl)); (try simp only [Act.put, List.setIfInBounds_toArray, List.set_cons_zero, List.set_cons_succ]))))
      refine t4_hard rfl (by rfl) (fun K hK => ?_)
      go_wp2_with (go_at_call 6; refine (CS.out _ _ _ _ _ _ (Iv.rd Js0'.out) (Iv.rd Js1.out)).mono ?_; rintro e w5 ⟨uW0, uW1, rfl, frW, hb5⟩)
      have Js0'' := Lib.hid (Iv.mono Js0'.out hb5)
      try clear Js0'
      have Js1' := Lib.hid (Iv.mono Js1.out hb5)
      try clear Js1
      have hsssdasss := hsssdass.step hb5
      have hz5 : w4.heap.size ≤ w5.heap.size := by simpa using hb5.size
      have JW := Lib.hid (Fresh.iv frW)
      have zW0 := rd_cons rfl (Iv.rd JW.out)
      obtain ⟨rfl, _⟩ := rd_i1 zW0.1
      obtain ⟨aW1, cW1, rfl, _⟩ := rd_list zW0.2
      clear zW0
      clear frW
      try clear Js0''
      try clear Js1'
      refine ⟨⟨hsssdasss.cellAt 0 rfl 0 rfl, hsssdasss.cellAt 0 rfl 1 rfl, hsssdasss.cellAt 1 rfl 0 rfl, hsssdasss.cellAt 1 rfl 1 rfl, hsssdasss.cellAt 1 rfl 2 rfl⟩, ?_⟩
      (repeat (first | (apply t4_skip rfl (by rfl); try simp only [Act.put, List.setIfInBounds_toArray, List.set_cons_zero, List.set_cons_succ]) | (apply t4_float rfl (by rfl); (· (intro w' hS; go_simp <;> with_reducible rfl)); (try simp only [Act.put, List.setIfInBounds_toArray, List.set_cons_zero, List.set_cons_succ]))))
      refine t4_hard rfl (by rfl) (fun K hK => ?_)
      have fF80 := hsssdasss.freeAt 2 rfl 0
      have cF80 := hsssdasss.cellAt 2 rfl 0 rfl
      have fF81 := hsssdasss.freeAt 2 rfl 1
      have cF81 := hsssdasss.cellAt 2 rfl 1 rfl
      go_wp2_with fail
      have hsssdassst := ((hsssdasss.set (p := [_, _]) (by simp <;> omega) 0 (.int .i64 r0)).set (p := [_, _]) (by simp <;> omega) 1 (.slice aW1 r1.length cW1))
      have JW' := Lib.hid (Iv.setOut (Iv.setOut JW.out (a := ⟨wF8.heap.size, 0, none⟩) (by first | (left; simp only; first | done | omega) | (right; simp only; first | done | omega)) (.int .i64 r0)) (a := ⟨wF8.heap.size, 1, none⟩) (by first | (left; simp only; first | done | omega) | (right; simp only; first | done | omega)) (.slice aW1 r1.length cW1))
      try clear JW
      clear fF80 cF80 fF81 cF81
      refine ⟨?_, ?_⟩
      · first | (have u9 : w5.cell? ⟨w.heap.size, 0, none⟩ = some (.int .i64 x00) ∧ w5.cell? ⟨w.heap.size, 1, none⟩ = some (.slice a01 x01.length c01) ∧ w5.cell? ⟨w.heap.size + 1, 0, none⟩ = some (.int .i64 x10) ∧ w5.cell? ⟨w.heap.size + 1, 1, none⟩ = some (.int .i64 x11) ∧ w5.cell? ⟨w.heap.size + 1, 2, none⟩ = some (.slice a12 x12.length c12) := ⟨hsssdasss.cellAt 0 rfl 0 rfl, hsssdasss.cellAt 0 rfl 1 rfl, hsssdasss.cellAt 1 rfl 0 rfl, hsssdasss.cellAt 1 rfl 1 rfl, hsssdasss.cellAt 1 rfl 2 rfl⟩; with_reducible exact u9) | (have u9 : ((w5.setCell ⟨wF8.heap.size, 0, none⟩ (.int .i64 r0)).setCell ⟨wF8.heap.size, 1, none⟩ (.slice aW1 r1.length cW1)).cell? ⟨w.heap.size, 0, none⟩ = some (.int .i64 x00) ∧ ((w5.setCell ⟨wF8.heap.size, 0, none⟩ (.int .i64 r0)).setCell ⟨wF8.heap.size, 1, none⟩ (.slice aW1 r1.length cW1)).cell? ⟨w.heap.size, 1, none⟩ = some (.slice a01 x01.length c01) ∧ ((w5.setCell ⟨wF8.heap.size, 0, none⟩ (.int .i64 r0)).setCell ⟨wF8.heap.size, 1, none⟩ (.slice aW1 r1.length cW1)).cell? ⟨w.heap.size + 1, 0, none⟩ = some (.int .i64 x10) ∧ ((w5.setCell ⟨wF8.heap.size, 0, none⟩ (.int .i64 r0)).setCell ⟨wF8.heap.size, 1, none⟩ (.slice aW1 r1.length cW1)).cell? ⟨w.heap.size + 1, 1, none⟩ = some (.int .i64 x11) ∧ ((w5.setCell ⟨wF8.heap.size, 0, none⟩ (.int .i64 r0)).setCell ⟨wF8.heap.size, 1, none⟩ (.slice aW1 r1.length cW1)).cell? ⟨w.heap.size + 1, 2, none⟩ = some (.slice a12 x12.length c12) := ⟨hsssdassst.cellAt 0 rfl 0 rfl, hsssdassst.cellAt 0 rfl 1 rfl, hsssdassst.cellAt 1 rfl 0 rfl, hsssdassst.cellAt 1 rfl 1 rfl, hsssdassst.cellAt 1 rfl 2 rfl⟩; with_reducible exact u9) | exact ⟨hsssdassst.cellAt 0 rfl 0 rfl, hsssdassst.cellAt 0 rfl 1 rfl, hsssdassst.cellAt 1 rfl 0 rfl, hsssdassst.cellAt 1 rfl 1 rfl, hsssdassst.cellAt 1 rfl 2 rfl⟩ | exact ⟨hsssdasss.cellAt 0 rfl 0 rfl, hsssdasss.cellAt 0 rfl 1 rfl, hsssdasss.cellAt 1 rfl 0 rfl, hsssdasss.cellAt 1 rfl 1 rfl, hsssdasss.cellAt 1 rfl 2 rfl⟩
      (repeat (first | (apply t4_skip rfl (by rfl); try simp only [Act.put, List.setIfInBounds_toArray, List.set_cons_zero, List.set_cons_succ]) | (apply t4_float rfl (by rfl); (· (intro w' hS; go_simp <;> with_reducible rfl)); (try simp only [Act.put, List.setIfInBounds_toArray, List.set_cons_zero, List.set_cons_succ]))))
      refine t4_nil (NoPanic.normal ?_)
      have hsF8 : St w ((w5.setCell ⟨wF8.heap.size, 0, none⟩ (.int .i64 r0)).setCell ⟨wF8.heap.size, 1, none⟩ (.slice aW1 r1.length cW1)).heap.size ((w5.setCell ⟨wF8.heap.size, 0, none⟩ (.int .i64 r0)).setCell ⟨wF8.heap.size, 1, none⟩ (.slice aW1 r1.length cW1)) [(w.heap.size, #[.int .i64 x00, .slice a01 x01.length c01], 24), (w.heap.size + 1, #[.int .i64 x10, .int .i64 x11, .slice a12 x12.length c12], 27), (wF8.heap.size, #[.int .i64 r0, .slice aW1 r1.length cW1], 32)] := hsssdassst.up hsssdassst.hi (Nat.le_refl _)
      have hVF8 : w5.heap.size = ((w5.setCell ⟨wF8.heap.size, 0, none⟩ (.int .i64 r0)).setCell ⟨wF8.heap.size, 1, none⟩ (.slice aW1 r1.length cW1)).heap.size := by simp [World.setCell]
      obtain ⟨loUF8, hiUF8, hUF8, JUF8⟩ : ∃ lo hi : Nat, (w2.heap.size ≤ lo ∧ hi ≤ w5.heap.size ∧ (wF8.heap.size < lo ∨ hi ≤ wF8.heap.size) ∧ w2.heap.size ≤ wF8.heap.size ∧ wF8.heap.size < w5.heap.size) ∧ Hid (Iv lo hi ((w5.setCell ⟨wF8.heap.size, 0, none⟩ (.int .i64 r0)).setCell ⟨wF8.heap.size, 1, none⟩ (.slice aW1 r1.length cW1)) [.int .i64 r0, .slice aW1 r1.length cW1] (r0, r1)) := ⟨w4.heap.size, w5.heap.size, by omega, JW'.out⟩
      rw [hVF8] at hUF8
      clear hVF8 JW'
      generalize hhwUF8 : ((w5.setCell ⟨wF8.heap.size, 0, none⟩ (.int .i64 r0)).setCell ⟨wF8.heap.size, 1, none⟩ (.slice aW1 r1.length cW1)) = wUF8 at hsF8 hUF8 JUF8 ⊢
      clear hhwUF8
      generalize hhgUF8 : wF8.heap.size = gUF8 at hsF8 hUF8 JUF8 ⊢
      clear hhgUF8
      generalize as01 = zas01 at hsF8 hUF8 JUF8 ⊢
      generalize cs01 = zcs01 at hsF8 hUF8 JUF8 ⊢
      generalize as12 = zas12 at hsF8 hUF8 JUF8 ⊢
      generalize cs12 = zcs12 at hsF8 hUF8 JUF8 ⊢
      generalize aW1 = zaW1 at hsF8 hUF8 JUF8 ⊢
      generalize cW1 = zcW1 at hsF8 hUF8 JUF8 ⊢
      revert JUF8
      revert hUF8
      revert hsF8
      revert zcW1
      revert zaW1
      revert zcs12
      revert zas12
      revert zcs01
      revert zas01
      revert hiUF8
      revert loUF8
      revert gUF8
      revert wUF8
      exact HJ.get
  intro wUF8 gUF8 loUF8 hiUF8 as01 cs01 as12 cs12 aW1 cW1
  intro hsF8 hUF8 JWF8
  obtain ⟨h1F8, h2F8, h3F8, h4F8, h5F8⟩ := hUF8
  have qa00 := hsF8.cellAt 0 rfl 0 rfl
  have qa01 := hsF8.cellAt 0 rfl 1 rfl
  have qa10 := hsF8.cellAt 1 rfl 0 rfl
  have qa11 := hsF8.cellAt 1 rfl 1 rfl
  have qa12 := hsF8.cellAt 1 rfl 2 rfl
  have qw0 := hsF8.cellAt 2 rfl 0 rfl
  have qw1 := hsF8.cellAt 2 rfl 1 rfl
  go_wp2_with fail
  refine (toTemplate_b (x00, x01) _ _ _ (Rd.mono H0.out hsF8.bel) gc0).mono ?_
  rintro e w6 ⟨ux00, ux01, rfl, frx0, hb6⟩
  have JWF8' := Lib.hid (Iv.mono JWF8.out hb6)
  clear JWF8
  have hsF8s := hsF8.step hb6
  have hz3 : wUF8.heap.size ≤ w6.heap.size := by simpa using hb6.size
  have Jx0 := Lib.hid (Fresh.iv frx0)
  have zx00 := rd_cons rfl (Iv.rd Jx0.out)
  obtain ⟨rfl, _⟩ := rd_i1 zx00.1
  obtain ⟨ax01, cx01, rfl, _⟩ := rd_list zx00.2
  clear zx00
  clear frx0
  clear qa00 qa01 qa10 qa11 qa12 qw0 qw1
  have qa00 := hsF8s.cellAt 0 rfl 0 rfl
  have qa01 := hsF8s.cellAt 0 rfl 1 rfl
  have qa10 := hsF8s.cellAt 1 rfl 0 rfl
  have qa11 := hsF8s.cellAt 1 rfl 1 rfl
  have qa12 := hsF8s.cellAt 1 rfl 2 rfl
  have qw0 := hsF8s.cellAt 2 rfl 0 rfl
  have qw1 := hsF8s.cellAt 2 rfl 1 rfl
  have hsF8sa := hsF8s.alloc #[.int .i64 x00, .slice ax01 x01.length cx01] 37 rfl
  have JWF8'' := Lib.hid (Iv.mono JWF8'.out (belowA _ (.cells #[.int .i64 x00, .slice ax01 x01.length cx01] 37)))
  clear JWF8'
  have Jx0' := Lib.hid (Iv.mono Jx0.out (belowA _ (.cells #[.int .i64 x00, .slice ax01 x01.length cx01] 37)))
  clear Jx0
  clear qa00 qa01 qa10 qa11 qa12 qw0 qw1
  have qa00 := hsF8sa.cellAt 0 rfl 0 rfl
  have qa01 := hsF8sa.cellAt 0 rfl 1 rfl
  have qa10 := hsF8sa.cellAt 1 rfl 0 rfl
  have qa11 := hsF8sa.cellAt 1 rfl 1 rfl
  have qa12 := hsF8sa.cellAt 1 rfl 2 rfl
  have qw0 := hsF8sa.cellAt 2 rfl 0 rfl
  have qw1 := hsF8sa.cellAt 2 rfl 1 rfl
  have qx00 := hsF8sa.cellAt 3 rfl 0 rfl
  have qx01 := hsF8sa.cellAt 3 rfl 1 rfl
  go_wp2_with fail
  refine (toFormula_b (x10, x11, x12) _ _ _ _ (Rd.mono H1.out hsF8sa.bel) gc1).mono ?_
  rintro e w7 ⟨ux10, ux11, ux12, rfl, frx1, hb7⟩
  have JWF8''' := Lib.hid (Iv.mono JWF8''.out hb7)
  clear JWF8''
  have Jx0'' := Lib.hid (Iv.mono Jx0'.out hb7)
  clear Jx0'
  have hsF8sas := hsF8sa.step hb7
  have hz4 : w6.heap.size + 1 ≤ w7.heap.size := by simpa using hb7.size
  have Jx1 := Lib.hid (Fresh.iv frx1)
  have zx10 := rd_cons rfl (Iv.rd Jx1.out)
  obtain ⟨rfl, _⟩ := rd_i1 zx10.1
  have zx11 := rd_cons rfl zx10.2
  obtain ⟨rfl, _⟩ := rd_i1 zx11.1
  obtain ⟨ax12, cx12, rfl, _⟩ := rd_list zx11.2
  clear zx10 zx11
  clear frx1
  clear qa00 qa01 qa10 qa11 qa12 qw0 qw1 qx00 qx01
  have qa00 := hsF8sas.cellAt 0 rfl 0 rfl
  have qa01 := hsF8sas.cellAt 0 rfl 1 rfl
  have qa10 := hsF8sas.cellAt 1 rfl 0 rfl
  have qa11 := hsF8sas.cellAt 1 rfl 1 rfl
  have qa12 := hsF8sas.cellAt 1 rfl 2 rfl
  have qw0 := hsF8sas.cellAt 2 rfl 0 rfl
  have qw1 := hsF8sas.cellAt 2 rfl 1 rfl
  have qx00 := hsF8sas.cellAt 3 rfl 0 rfl
  have qx01 := hsF8sas.cellAt 3 rfl 1 rfl
  have hsF8sasa := hsF8sas.alloc #[.int .i64 x10, .int .i64 x11, .slice ax12 x12.length cx12] 41 rfl
  have JWF8'''' := Lib.hid (Iv.mono JWF8'''.out (belowA _ (.cells #[.int .i64 x10, .int .i64 x11, .slice ax12 x12.length cx12] 41)))
  clear JWF8'''
  have Jx0''' := Lib.hid (Iv.mono Jx0''.out (belowA _ (.cells #[.int .i64 x10, .int .i64 x11, .slice ax12 x12.length cx12] 41)))
  clear Jx0''
  have Jx1' := Lib.hid (Iv.mono Jx1.out (belowA _ (.cells #[.int .i64 x10, .int .i64 x11, .slice ax12 x12.length cx12] 41)))
  clear Jx1
  clear qa00 qa01 qa10 qa11 qa12 qw0 qw1 qx00 qx01
  have qa00 := hsF8sasa.cellAt 0 rfl 0 rfl
  have qa01 := hsF8sasa.cellAt 0 rfl 1 rfl
  have qa10 := hsF8sasa.cellAt 1 rfl 0 rfl
  have qa11 := hsF8sasa.cellAt 1 rfl 1 rfl
  have qa12 := hsF8sasa.cellAt 1 rfl 2 rfl
  have qw0 := hsF8sasa.cellAt 2 rfl 0 rfl
  have qw1 := hsF8sasa.cellAt 2 rfl 1 rfl
  have qx00 := hsF8sasa.cellAt 3 rfl 0 rfl
  have qx01 := hsF8sasa.cellAt 3 rfl 1 rfl
  have qx10 := hsF8sasa.cellAt 4 rfl 0 rfl
  have qx11 := hsF8sasa.cellAt 4 rfl 1 rfl
  have qx12 := hsF8sasa.cellAt 4 rfl 2 rfl
  go_wp2_with fail
  refine (CI.out _ _ _ _ _ _ (Iv.rd Jx0'''.out) (Iv.rd Jx1'.out)).mono ?_
  rintro e w8 ⟨uG0, uG1, rfl, frG, hb8⟩
  have JWF8''''' := Lib.hid (Iv.mono JWF8''''.out hb8)
  clear JWF8''''
  have Jx0'''' := Lib.hid (Iv.mono Jx0'''.out hb8)
  clear Jx0'''
  have Jx1'' := Lib.hid (Iv.mono Jx1'.out hb8)
  clear Jx1'
  have hsF8sasas := hsF8sasa.step hb8
  have hz5 : w7.heap.size + 1 ≤ w8.heap.size := by simpa using hb8.size
  have JG := Lib.hid (Fresh.iv frG)
  have zG0 := rd_cons rfl (Iv.rd JG.out)
  obtain ⟨rfl, _⟩ := rd_i1 zG0.1
  obtain ⟨aG1, cG1, rfl, _⟩ := rd_list zG0.2
  clear zG0
  clear frG
  clear qa00 qa01 qa10 qa11 qa12 qw0 qw1 qx00 qx01 qx10 qx11 qx12
  have qa00 := hsF8sasas.cellAt 0 rfl 0 rfl
  have qa01 := hsF8sasas.cellAt 0 rfl 1 rfl
  have qa10 := hsF8sasas.cellAt 1 rfl 0 rfl
  have qa11 := hsF8sasas.cellAt 1 rfl 1 rfl
  have qa12 := hsF8sasas.cellAt 1 rfl 2 rfl
  have qw0 := hsF8sasas.cellAt 2 rfl 0 rfl
  have qw1 := hsF8sasas.cellAt 2 rfl 1 rfl
  have qx00 := hsF8sasas.cellAt 3 rfl 0 rfl
  have qx01 := hsF8sasas.cellAt 3 rfl 1 rfl
  have qx10 := hsF8sasas.cellAt 4 rfl 0 rfl
  have qx11 := hsF8sasas.cellAt 4 rfl 1 rfl
  have qx12 := hsF8sasas.cellAt 4 rfl 2 rfl
  have hsF8sasasa := hsF8sasas.alloc #[.int .i64 r0, .slice aG1 r1.length cG1] 32 rfl
  have JWF8'''''' := Lib.hid (Iv.mono JWF8'''''.out (belowA _ (.cells #[.int .i64 r0, .slice aG1 r1.length cG1] 32)))
  clear JWF8'''''
  have Jx0''''' := Lib.hid (Iv.mono Jx0''''.out (belowA _ (.cells #[.int .i64 r0, .slice aG1 r1.length cG1] 32)))
  clear Jx0''''
  have Jx1''' := Lib.hid (Iv.mono Jx1''.out (belowA _ (.cells #[.int .i64 r0, .slice aG1 r1.length cG1] 32)))
  clear Jx1''
  have JG' := Lib.hid (Iv.mono JG.out (belowA _ (.cells #[.int .i64 r0, .slice aG1 r1.length cG1] 32)))
  clear JG
  clear qa00 qa01 qa10 qa11 qa12 qw0 qw1 qx00 qx01 qx10 qx11 qx12
  have qa00 := hsF8sasasa.cellAt 0 rfl 0 rfl
  have qa01 := hsF8sasasa.cellAt 0 rfl 1 rfl
  have qa10 := hsF8sasasa.cellAt 1 rfl 0 rfl
  have qa11 := hsF8sasasa.cellAt 1 rfl 1 rfl
  have qa12 := hsF8sasasa.cellAt 1 rfl 2 rfl
  have qw0 := hsF8sasasa.cellAt 2 rfl 0 rfl
  have qw1 := hsF8sasasa.cellAt 2 rfl 1 rfl
  have qx00 := hsF8sasasa.cellAt 3 rfl 0 rfl
  have qx01 := hsF8sasasa.cellAt 3 rfl 1 rfl
  have qx10 := hsF8sasasa.cellAt 4 rfl 0 rfl
  have qx11 := hsF8sasasa.cellAt 4 rfl 1 rfl
  have qx12 := hsF8sasasa.cellAt 4 rfl 2 rfl
  have qg0 := hsF8sasasa.cellAt 5 rfl 0 rfl
  have qg1 := hsF8sasasa.cellAt 5 rfl 1 rfl
  go_wp2_with fail
  refine (eqInstance_s (r0, r1) _ _ _ _ _ (Iv.rd JG'.out) (Iv.rd JWF8''''''.out)).mono ?_
  rintro e w9 ⟨rfl, hb9⟩
  have JWF8''''''' := Lib.hid (Iv.mono JWF8''''''.out hb9)
  clear JWF8''''''
  have Jx0'''''' := Lib.hid (Iv.mono Jx0'''''.out hb9)
  clear Jx0'''''
  have Jx1'''' := Lib.hid (Iv.mono Jx1'''.out hb9)
  clear Jx1'''
  have JG'' := Lib.hid (Iv.mono JG'.out hb9)
  clear JG'
  have hsF8sasasas := hsF8sasasa.step hb9
  have hz6 : w8.heap.size + 1 ≤ w9.heap.size := by simpa using hb9.size
  clear qa00 qa01 qa10 qa11 qa12 qw0 qw1 qx00 qx01 qx10 qx11 qx12 qg0 qg1
  have qa00 := hsF8sasasas.cellAt 0 rfl 0 rfl
  have qa01 := hsF8sasasas.cellAt 0 rfl 1 rfl
  have qa10 := hsF8sasasas.cellAt 1 rfl 0 rfl
  have qa11 := hsF8sasasas.cellAt 1 rfl 1 rfl
  have qa12 := hsF8sasasas.cellAt 1 rfl 2 rfl
  have qw0 := hsF8sasasas.cellAt 2 rfl 0 rfl
  have qw1 := hsF8sasasas.cellAt 2 rfl 1 rfl
  have qx00 := hsF8sasasas.cellAt 3 rfl 0 rfl
  have qx01 := hsF8sasasas.cellAt 3 rfl 1 rfl
  have qx10 := hsF8sasasas.cellAt 4 rfl 0 rfl
  have qx11 := hsF8sasasas.cellAt 4 rfl 1 rfl
  have qx12 := hsF8sasasas.cellAt 4 rfl 2 rfl
  have qg0 := hsF8sasasas.cellAt 5 rfl 0 rfl
  have qg1 := hsF8sasasas.cellAt 5 rfl 1 rfl
  have hcode : (code != code) = false := by simp
  go_wp2_with fail
  refine wp_region_noPanic (wp_region_el (fun w' => w'.cell? ⟨w.heap.size, 0, none⟩ = some (.int .i64 x00) ∧ w'.cell? ⟨w.heap.size, 1, none⟩ = some (.slice a01 x01.length c01) ∧ w'.cell? ⟨w.heap.size + 1, 0, none⟩ = some (.int .i64 x10) ∧ w'.cell? ⟨w.heap.size + 1, 1, none⟩ = some (.int .i64 x11) ∧ w'.cell? ⟨w.heap.size + 1, 2, none⟩ = some (.slice a12 x12.length c12) ∧ w'.cell? ⟨gUF8, 0, none⟩ = some (.int .i64 r0) ∧ w'.cell? ⟨gUF8, 1, none⟩ = some (.slice aW1 r1.length cW1) ∧ w'.cell? ⟨w6.heap.size, 0, none⟩ = some (.int .i64 x00) ∧ w'.cell? ⟨w6.heap.size, 1, none⟩ = some (.slice ax01 x01.length cx01) ∧ w'.cell? ⟨w7.heap.size, 0, none⟩ = some (.int .i64 x10) ∧ w'.cell? ⟨w7.heap.size, 1, none⟩ = some (.int .i64 x11) ∧ w'.cell? ⟨w7.heap.size, 2, none⟩ = some (.slice ax12 x12.length cx12) ∧ w'.cell? ⟨w8.heap.size, 0, none⟩ = some (.int .i64 r0) ∧ w'.cell? ⟨w8.heap.size, 1, none⟩ = some (.slice aG1 r1.length cG1)) [(0, 0), (1, 0), (2, 1), (3, 1), (4, 0)] (by kernel_rfl) (by kernel_rfl) (by kernel_rfl) rfl ?_ (fun _ _ _ _ _ h => h) ?_)
  · exact ⟨(hsF8sasasas.drew).cellAt 0 rfl 0 rfl, (hsF8sasasas.drew).cellAt 0 rfl 1 rfl, (hsF8sasasas.drew).cellAt 1 rfl 0 rfl, (hsF8sasasas.drew).cellAt 1 rfl 1 rfl, (hsF8sasasas.drew).cellAt 1 rfl 2 rfl, (hsF8sasasas.drew).cellAt 2 rfl 0 rfl, (hsF8sasasas.drew).cellAt 2 rfl 1 rfl, (hsF8sasasas.drew).cellAt 3 rfl 0 rfl, (hsF8sasasas.drew).cellAt 3 rfl 1 rfl, (hsF8sasasas.drew).cellAt 4 rfl 0 rfl, (hsF8sasasas.drew).cellAt 4 rfl 1 rfl, (hsF8sasasas.drew).cellAt 4 rfl 2 rfl, (hsF8sasasas.drew).cellAt 5 rfl 0 rfl, (hsF8sasasas.drew).cellAt 5 rfl 1 rfl⟩
  have JWF8'''''''' := Lib.hid (Iv.mono JWF8'''''''.out (belowD _))
  clear JWF8'''''''
  have Jx0''''''' := Lib.hid (Iv.mono Jx0''''''.out (belowD _))
  clear Jx0''''''
  have Jx1''''' := Lib.hid (Iv.mono Jx1''''.out (belowD _))
  clear Jx1''''
  have JG''' := Lib.hid (Iv.mono JG''.out (belowD _))
  clear JG''
  have hsF8sasasasd := hsF8sasasas.drew
  (repeat (first | (apply el_skip rfl (by rfl); try simp only [Act.put, List.setIfInBounds_toArray, List.set_cons_zero, List.set_cons_succ]) | (apply el_float rfl (by rfl); (· (intro w' hS; go_simp <;> with_reducible rfl)); (try simp only [Act.put, List.setIfInBounds_toArray, List.set_cons_zero, List.set_cons_succ]))))
  refine el_hard rfl (by rfl) (fun K hK => ?_)
  go_wp2_with (go_at_call 7; refine (toTemplate_b (x00, x01) _ _ _ (Rd.mono H0.out hsF8sasasasd.bel) gc0).mono ?_; rintro e w10 ⟨uy00, uy01, rfl, fry0, hb10⟩)
  have JWF8''''''''' := Lib.hid (Iv.mono JWF8''''''''.out hb10)
  clear JWF8''''''''
  have Jx0'''''''' := Lib.hid (Iv.mono Jx0'''''''.out hb10)
  clear Jx0'''''''
  have Jx1'''''' := Lib.hid (Iv.mono Jx1'''''.out hb10)
  clear Jx1'''''
  have JG'''' := Lib.hid (Iv.mono JG'''.out hb10)
  clear JG'''
  have hsF8sasasasds := hsF8sasasasd.step hb10
  have hz7 : w9.heap.size ≤ w10.heap.size := by simpa using hb10.size
  have Jy0 := Lib.hid (Fresh.iv fry0)
  have zy00 := rd_cons rfl (Iv.rd Jy0.out)
  obtain ⟨rfl, _⟩ := rd_i1 zy00.1
  obtain ⟨ay01, cy01, rfl, _⟩ := rd_list zy00.2
  clear zy00
  clear fry0
  refine ⟨⟨hsF8sasasasds.cellAt 0 rfl 0 rfl, hsF8sasasasds.cellAt 0 rfl 1 rfl, hsF8sasasasds.cellAt 1 rfl 0 rfl, hsF8sasasasds.cellAt 1 rfl 1 rfl, hsF8sasasasds.cellAt 1 rfl 2 rfl, hsF8sasasasds.cellAt 2 rfl 0 rfl, hsF8sasasasds.cellAt 2 rfl 1 rfl, hsF8sasasasds.cellAt 3 rfl 0 rfl, hsF8sasasasds.cellAt 3 rfl 1 rfl, hsF8sasasasds.cellAt 4 rfl 0 rfl, hsF8sasasasds.cellAt 4 rfl 1 rfl, hsF8sasasasds.cellAt 4 rfl 2 rfl, hsF8sasasasds.cellAt 5 rfl 0 rfl, hsF8sasasasds.cellAt 5 rfl 1 rfl⟩, ?_⟩
  (repeat (first | (apply el_skip rfl (by rfl); try simp only [Act.put, List.setIfInBounds_toArray, List.set_cons_zero, List.set_cons_succ]) | (apply el_float rfl (by rfl); (· (intro w' hS; go_simp <;> with_reducible rfl)); (try simp only [Act.put, List.setIfInBounds_toArray, List.set_cons_zero, List.set_cons_succ]))))
  refine el_hard rfl (by rfl) (fun K hK => ?_)
  go_wp2_with (go_at_call 11; refine (eqTemplate_s (x00, x01) _ _ _ _ _ (Iv.rd Jx0''''''''.out) (Iv.rd Jy0.out)).mono ?_; rintro e w11 ⟨rfl, hb11⟩)
  clear Jy0
  have JWF8'''''''''' := Lib.hid (Iv.mono JWF8'''''''''.out hb11)
  clear JWF8'''''''''
  have Jx0''''''''' := Lib.hid (Iv.mono Jx0''''''''.out hb11)
  clear Jx0''''''''
  have Jx1''''''' := Lib.hid (Iv.mono Jx1''''''.out hb11)
  clear Jx1''''''
  have JG''''' := Lib.hid (Iv.mono JG''''.out hb11)
  clear JG''''
  have hsF8sasasasdss := hsF8sasasasds.step hb11
  have hz8 : w10.heap.size ≤ w11.heap.size := by simpa using hb11.size
  refine ⟨⟨hsF8sasasasdss.cellAt 0 rfl 0 rfl, hsF8sasasasdss.cellAt 0 rfl 1 rfl, hsF8sasasasdss.cellAt 1 rfl 0 rfl, hsF8sasasasdss.cellAt 1 rfl 1 rfl, hsF8sasasasdss.cellAt 1 rfl 2 rfl, hsF8sasasasdss.cellAt 2 rfl 0 rfl, hsF8sasasasdss.cellAt 2 rfl 1 rfl, hsF8sasasasdss.cellAt 3 rfl 0 rfl, hsF8sasasasdss.cellAt 3 rfl 1 rfl, hsF8sasasasdss.cellAt 4 rfl 0 rfl, hsF8sasasasdss.cellAt 4 rfl 1 rfl, hsF8sasasasdss.cellAt 4 rfl 2 rfl, hsF8sasasasdss.cellAt 5 rfl 0 rfl, hsF8sasasasdss.cellAt 5 rfl 1 rfl⟩, ?_⟩
  (repeat (first | (apply el_skip rfl (by rfl); try simp only [Act.put, List.setIfInBounds_toArray, List.set_cons_zero, List.set_cons_succ]) | (apply el_float rfl (by rfl); (· (intro w' hS; go_simp <;> with_reducible rfl)); (try simp only [Act.put, List.setIfInBounds_toArray, List.set_cons_zero, List.set_cons_succ]))))
  refine el_nil (NoPanic.normal ?_)
  clear qa00 qa01 qa10 qa11 qa12 qw0 qw1 qx00 qx01 qx10 qx11 qx12 qg0 qg1
  have qa00 := hsF8sasasasdss.cellAt 0 rfl 0 rfl
  have qa01 := hsF8sasasasdss.cellAt 0 rfl 1 rfl
  have qa10 := hsF8sasasasdss.cellAt 1 rfl 0 rfl
  have qa11 := hsF8sasasasdss.cellAt 1 rfl 1 rfl
  have qa12 := hsF8sasasasdss.cellAt 1 rfl 2 rfl
  have qw0 := hsF8sasasasdss.cellAt 2 rfl 0 rfl
  have qw1 := hsF8sasasasdss.cellAt 2 rfl 1 rfl
  have qx00 := hsF8sasasasdss.cellAt 3 rfl 0 rfl
  have qx01 := hsF8sasasasdss.cellAt 3 rfl 1 rfl
  have qx10 := hsF8sasasasdss.cellAt 4 rfl 0 rfl
  have qx11 := hsF8sasasasdss.cellAt 4 rfl 1 rfl
  have qx12 := hsF8sasasasdss.cellAt 4 rfl 2 rfl
  have qg0 := hsF8sasasasdss.cellAt 5 rfl 0 rfl
  have qg1 := hsF8sasasasdss.cellAt 5 rfl 1 rfl
  go_wp2_with fail
  refine wp_region_noPanic (wp_region_el (fun w' => w'.cell? ⟨w.heap.size, 0, none⟩ = some (.int .i64 x00) ∧ w'.cell? ⟨w.heap.size, 1, none⟩ = some (.slice a01 x01.length c01) ∧ w'.cell? ⟨w.heap.size + 1, 0, none⟩ = some (.int .i64 x10) ∧ w'.cell? ⟨w.heap.size + 1, 1, none⟩ = some (.int .i64 x11) ∧ w'.cell? ⟨w.heap.size + 1, 2, none⟩ = some (.slice a12 x12.length c12) ∧ w'.cell? ⟨gUF8, 0, none⟩ = some (.int .i64 r0) ∧ w'.cell? ⟨gUF8, 1, none⟩ = some (.slice aW1 r1.length cW1) ∧ w'.cell? ⟨w6.heap.size, 0, none⟩ = some (.int .i64 x00) ∧ w'.cell? ⟨w6.heap.size, 1, none⟩ = some (.slice ax01 x01.length cx01) ∧ w'.cell? ⟨w7.heap.size, 0, none⟩ = some (.int .i64 x10) ∧ w'.cell? ⟨w7.heap.size, 1, none⟩ = some (.int .i64 x11) ∧ w'.cell? ⟨w7.heap.size, 2, none⟩ = some (.slice ax12 x12.length cx12) ∧ w'.cell? ⟨w8.heap.size, 0, none⟩ = some (.int .i64 r0) ∧ w'.cell? ⟨w8.heap.size, 1, none⟩ = some (.slice aG1 r1.length cG1)) [(0, 0), (1, 0), (2, 1), (3, 1), (4, 0)] (by kernel_rfl) (by kernel_rfl) (by kernel_rfl) rfl ?_ (fun _ _ _ _ _ h => h) ?_)
  · exact ⟨(hsF8sasasasdss.drew).cellAt 0 rfl 0 rfl, (hsF8sasasasdss.drew).cellAt 0 rfl 1 rfl, (hsF8sasasasdss.drew).cellAt 1 rfl 0 rfl, (hsF8sasasasdss.drew).cellAt 1 rfl 1 rfl, (hsF8sasasasdss.drew).cellAt 1 rfl 2 rfl, (hsF8sasasasdss.drew).cellAt 2 rfl 0 rfl, (hsF8sasasasdss.drew).cellAt 2 rfl 1 rfl, (hsF8sasasasdss.drew).cellAt 3 rfl 0 rfl, (hsF8sasasasdss.drew).cellAt 3 rfl 1 rfl, (hsF8sasasasdss.drew).cellAt 4 rfl 0 rfl, (hsF8sasasasdss.drew).cellAt 4 rfl 1 rfl, (hsF8sasasasdss.drew).cellAt 4 rfl 2 rfl, (hsF8sasasasdss.drew).cellAt 5 rfl 0 rfl, (hsF8sasasasdss.drew).cellAt 5 rfl 1 rfl⟩
  have JWF8''''''''''' := Lib.hid (Iv.mono JWF8''''''''''.out (belowD _))
  clear JWF8''''''''''
  have Jx0'''''''''' := Lib.hid (Iv.mono Jx0'''''''''.out (belowD _))
  clear Jx0'''''''''
  have Jx1'''''''' := Lib.hid (Iv.mono Jx1'''''''.out (belowD _))
  clear Jx1'''''''
  have JG'''''' := Lib.hid (Iv.mono JG'''''.out (belowD _))
  clear JG'''''
  have hsF8sasasasdssd := hsF8sasasasdss.drew
  (repeat (first | (apply el_skip rfl (by rfl); try simp only [Act.put, List.setIfInBounds_toArray, List.set_cons_zero, List.set_cons_succ]) | (apply el_float rfl (by rfl); (· (intro w' hS; go_simp <;> with_reducible rfl)); (try simp only [Act.put, List.setIfInBounds_toArray, List.set_cons_zero, List.set_cons_succ]))))
  refine el_hard rfl (by rfl) (fun K hK => ?_)
  go_wp2_with (go_at_call 8; refine (toFormula_b (x10, x11, x12) _ _ _ _ (Rd.mono H1.out hsF8sasasasdssd.bel) gc1).mono ?_; rintro e w12 ⟨uy10, uy11, uy12, rfl, fry1, hb12⟩)
  have JWF8'''''''''''' := Lib.hid (Iv.mono JWF8'''''''''''.out hb12)
  clear JWF8'''''''''''
  have Jx0''''''''''' := Lib.hid (Iv.mono Jx0''''''''''.out hb12)
  clear Jx0''''''''''
  have Jx1''''''''' := Lib.hid (Iv.mono Jx1''''''''.out hb12)
  clear Jx1''''''''
  have JG''''''' := Lib.hid (Iv.mono JG''''''.out hb12)
  clear JG''''''
  have hsF8sasasasdssds := hsF8sasasasdssd.step hb12
  have hz9 : w11.heap.size ≤ w12.heap.size := by simpa using hb12.size
  have Jy1 := Lib.hid (Fresh.iv fry1)
  have zy10 := rd_cons rfl (Iv.rd Jy1.out)
  obtain ⟨rfl, _⟩ := rd_i1 zy10.1
  have zy11 := rd_cons rfl zy10.2
  obtain ⟨rfl, _⟩ := rd_i1 zy11.1
  obtain ⟨ay12, cy12, rfl, _⟩ := rd_list zy11.2
  clear zy10 zy11
  clear fry1
  refine ⟨⟨hsF8sasasasdssds.cellAt 0 rfl 0 rfl, hsF8sasasasdssds.cellAt 0 rfl 1 rfl, hsF8sasasasdssds.cellAt 1 rfl 0 rfl, hsF8sasasasdssds.cellAt 1 rfl 1 rfl, hsF8sasasasdssds.cellAt 1 rfl 2 rfl, hsF8sasasasdssds.cellAt 2 rfl 0 rfl, hsF8sasasasdssds.cellAt 2 rfl 1 rfl, hsF8sasasasdssds.cellAt 3 rfl 0 rfl, hsF8sasasasdssds.cellAt 3 rfl 1 rfl, hsF8sasasasdssds.cellAt 4 rfl 0 rfl, hsF8sasasasdssds.cellAt 4 rfl 1 rfl, hsF8sasasasdssds.cellAt 4 rfl 2 rfl, hsF8sasasasdssds.cellAt 5 rfl 0 rfl, hsF8sasasasdssds.cellAt 5 rfl 1 rfl⟩, ?_⟩
  (repeat (first | (apply el_skip rfl (by rfl); try simp only [Act.put, List.setIfInBounds_toArray, List.set_cons_zero, List.set_cons_succ]) | (apply el_float rfl (by rfl); (· (intro w' hS; go_simp <;> with_reducible rfl)); (try simp only [Act.put, List.setIfInBounds_toArray, List.set_cons_zero, List.set_cons_succ]))))
  refine el_hard rfl (by rfl) (fun K hK => ?_)
  go_wp2_with (go_at_call 12; refine (eqFormula_s (x10, x11, x12) _ _ _ _ _ _ _ (Iv.rd Jx1'''''''''.out) (Iv.rd Jy1.out)).mono ?_; rintro e w13 ⟨rfl, hb13⟩)
  clear Jy1
  have JWF8''''''''''''' := Lib.hid (Iv.mono JWF8''''''''''''.out hb13)
  clear JWF8''''''''''''
  have Jx0'''''''''''' := Lib.hid (Iv.mono Jx0'''''''''''.out hb13)
  clear Jx0'''''''''''
  have Jx1'''''''''' := Lib.hid (Iv.mono Jx1'''''''''.out hb13)
  clear Jx1'''''''''
  have JG'''''''' := Lib.hid (Iv.mono JG'''''''.out hb13)
  clear JG'''''''
  have hsF8sasasasdssdss := hsF8sasasasdssds.step hb13
  have hz10 : w12.heap.size ≤ w13.heap.size := by simpa using hb13.size
  refine ⟨⟨hsF8sasasasdssdss.cellAt 0 rfl 0 rfl, hsF8sasasasdssdss.cellAt 0 rfl 1 rfl, hsF8sasasasdssdss.cellAt 1 rfl 0 rfl, hsF8sasasasdssdss.cellAt 1 rfl 1 rfl, hsF8sasasasdssdss.cellAt 1 rfl 2 rfl, hsF8sasasasdssdss.cellAt 2 rfl 0 rfl, hsF8sasasasdssdss.cellAt 2 rfl 1 rfl, hsF8sasasasdssdss.cellAt 3 rfl 0 rfl, hsF8sasasasdssdss.cellAt 3 rfl 1 rfl, hsF8sasasasdssdss.cellAt 4 rfl 0 rfl, hsF8sasasasdssdss.cellAt 4 rfl 1 rfl, hsF8sasasasdssdss.cellAt 4 rfl 2 rfl, hsF8sasasasdssdss.cellAt 5 rfl 0 rfl, hsF8sasasasdssdss.cellAt 5 rfl 1 rfl⟩, ?_⟩
  (repeat (first | (apply el_skip rfl (by rfl); try simp only [Act.put, List.setIfInBounds_toArray, List.set_cons_zero, List.set_cons_succ]) | (apply el_float rfl (by rfl); (· (intro w' hS; go_simp <;> with_reducible rfl)); (try simp only [Act.put, List.setIfInBounds_toArray, List.set_cons_zero, List.set_cons_succ]))))
  refine el_nil (NoPanic.normal ?_)
  clear qa00 qa01 qa10 qa11 qa12 qw0 qw1 qx00 qx01 qx10 qx11 qx12 qg0 qg1
  have qa00 := hsF8sasasasdssdss.cellAt 0 rfl 0 rfl
  have qa01 := hsF8sasasasdssdss.cellAt 0 rfl 1 rfl
  have qa10 := hsF8sasasasdssdss.cellAt 1 rfl 0 rfl
  have qa11 := hsF8sasasasdssdss.cellAt 1 rfl 1 rfl
  have qa12 := hsF8sasasasdssdss.cellAt 1 rfl 2 rfl
  have qw0 := hsF8sasasasdssdss.cellAt 2 rfl 0 rfl
  have qw1 := hsF8sasasasdssdss.cellAt 2 rfl 1 rfl
  have qx00 := hsF8sasasasdssdss.cellAt 3 rfl 0 rfl
  have qx01 := hsF8sasasasdssdss.cellAt 3 rfl 1 rfl
  have qx10 := hsF8sasasasdssdss.cellAt 4 rfl 0 rfl
  have qx11 := hsF8sasasasdssdss.cellAt 4 rfl 1 rfl
  have qx12 := hsF8sasasasdssdss.cellAt 4 rfl 2 rfl
  have qg0 := hsF8sasasasdssdss.cellAt 5 rfl 0 rfl
  have qg1 := hsF8sasasasdssdss.cellAt 5 rfl 1 rfl
  have mcb0 := mcb_Template (x00, x01)
  obtain ⟨psx0, hox0, hnx0, hpx0⟩ := Jx0''''''''''''.out
  have HOx0 := Lib.hid hox0
  clear hox0
  clear Jx0''''''''''''
  go_wp2_with fail
  refine (markTemplate_g (x00, x01) _ _ psx0 1 _ HOx0.out hnx0 (by omega) (by omega)).mono ?_
  rintro e w14 ⟨yx0, mx0, rfl, l0x0, l1x0, hyx0, hhx0, hbutx0⟩
  have HYx0 := Lib.hid hyx0
  have HHx0 := Lib.hid hhx0
  clear hyx0 hhx0 HOx0
  have hqx0 : ∀ k, k ∈ psx0 → wUF8.heap.size ≤ k ∧ k < w6.heap.size := fun k hk => by have := hpx0 k hk; simpa using this
  have JWF8'''''''''''''' := Lib.hid (Iv.but JWF8'''''''''''''.out hbutx0 (fun k hk => by have := hqx0 k hk; simp; omega))
  clear JWF8'''''''''''''
  have Jx1''''''''''' := Lib.hid (Iv.but Jx1''''''''''.out hbutx0 (fun k hk => by have := hqx0 k hk; simp; omega))
  clear Jx1''''''''''
  have JG''''''''' := Lib.hid (Iv.but JG''''''''.out hbutx0 (fun k hk => by have := hqx0 k hk; simp; omega))
  clear JG''''''''
  have hsF8sasasasdssdssm := hsF8sasasasdssdss.butIv hbutx0 (fun k hk => by have := hqx0 k hk; omega) (fun x hx hp => by
    have := hqx0 _ hp
    simp only [List.mem_append, List.mem_cons, List.mem_nil_iff, or_false, List.not_mem_nil, false_or, or_assoc] at hx
    rcases hx with rfl | rfl | rfl | rfl | rfl | rfl <;> (simp only at this; omega))
  have hz11 : w13.heap.size ≤ w14.heap.size := by simpa using hbutx0.size
  clear qa00 qa01 qa10 qa11 qa12 qw0 qw1 qx00 qx01 qx10 qx11 qx12 qg0 qg1
  have qa00 := hsF8sasasasdssdssm.cellAt 0 rfl 0 rfl
  have qa01 := hsF8sasasasdssdssm.cellAt 0 rfl 1 rfl
  have qa10 := hsF8sasasasdssdssm.cellAt 1 rfl 0 rfl
  have qa11 := hsF8sasasasdssdssm.cellAt 1 rfl 1 rfl
  have qa12 := hsF8sasasasdssdssm.cellAt 1 rfl 2 rfl
  have qw0 := hsF8sasasasdssdssm.cellAt 2 rfl 0 rfl
  have qw1 := hsF8sasasasdssdssm.cellAt 2 rfl 1 rfl
  have qx00 := hsF8sasasasdssdssm.cellAt 3 rfl 0 rfl
  have qx01 := hsF8sasasasdssdssm.cellAt 3 rfl 1 rfl
  have qx10 := hsF8sasasasdssdssm.cellAt 4 rfl 0 rfl
  have qx11 := hsF8sasasasdssdssm.cellAt 4 rfl 1 rfl
  have qx12 := hsF8sasasasdssdssm.cellAt 4 rfl 2 rfl
  have qg0 := hsF8sasasasdssdssm.cellAt 5 rfl 0 rfl
  have qg1 := hsF8sasasasdssdssm.cellAt 5 rfl 1 rfl
  have mcb1 := mcb_Formula (x10, x11, x12)
  obtain ⟨psx1, hox1, hnx1, hpx1⟩ := Jx1'''''''''''.out
  have HOx1 := Lib.hid hox1
  clear hox1
  clear Jx1'''''''''''
  go_wp2_with fail
  refine (markFormula_g (x10, x11, x12) _ _ _ psx1 mx0 _ HOx1.out hnx1 (by omega) (by omega)).mono ?_
  rintro e w15 ⟨yx1, mx1, rfl, l0x1, l1x1, hyx1, hhx1, hbutx1⟩
  have HYx1 := Lib.hid hyx1
  have HHx1 := Lib.hid hhx1
  clear hyx1 hhx1 HOx1
  have hqx1 : ∀ k, k ∈ psx1 → w6.heap.size + 1 ≤ k ∧ k < w7.heap.size := fun k hk => by have := hpx1 k hk; simpa using this
  have JWF8''''''''''''''' := Lib.hid (Iv.but JWF8''''''''''''''.out hbutx1 (fun k hk => by have := hqx1 k hk; simp; omega))
  clear JWF8''''''''''''''
  have JG'''''''''' := Lib.hid (Iv.but JG'''''''''.out hbutx1 (fun k hk => by have := hqx1 k hk; simp; omega))
  clear JG'''''''''
  have hsF8sasasasdssdssmm := hsF8sasasasdssdssm.butIv hbutx1 (fun k hk => by have := hqx1 k hk; omega) (fun x hx hp => by
    have := hqx1 _ hp
    simp only [List.mem_append, List.mem_cons, List.mem_nil_iff, or_false, List.not_mem_nil, false_or, or_assoc] at hx
    rcases hx with rfl | rfl | rfl | rfl | rfl | rfl <;> (simp only at this; omega))
  have hz12 : w14.heap.size ≤ w15.heap.size := by simpa using hbutx1.size
  clear qa00 qa01 qa10 qa11 qa12 qw0 qw1 qx00 qx01 qx10 qx11 qx12 qg0 qg1
  have qa00 := hsF8sasasasdssdssmm.cellAt 0 rfl 0 rfl
  have qa01 := hsF8sasasasdssdssmm.cellAt 0 rfl 1 rfl
  have qa10 := hsF8sasasasdssdssmm.cellAt 1 rfl 0 rfl
  have qa11 := hsF8sasasasdssdssmm.cellAt 1 rfl 1 rfl
  have qa12 := hsF8sasasasdssdssmm.cellAt 1 rfl 2 rfl
  have qw0 := hsF8sasasasdssdssmm.cellAt 2 rfl 0 rfl
  have qw1 := hsF8sasasasdssdssmm.cellAt 2 rfl 1 rfl
  have qx00 := hsF8sasasasdssdssmm.cellAt 3 rfl 0 rfl
  have qx01 := hsF8sasasasdssdssmm.cellAt 3 rfl 1 rfl
  have qx10 := hsF8sasasasdssdssmm.cellAt 4 rfl 0 rfl
  have qx11 := hsF8sasasasdssdssmm.cellAt 4 rfl 1 rfl
  have qx12 := hsF8sasasasdssdssmm.cellAt 4 rfl 2 rfl
  have qg0 := hsF8sasasasdssdssmm.cellAt 5 rfl 0 rfl
  have qg1 := hsF8sasasasdssdssmm.cellAt 5 rfl 1 rfl
  go_wp2_with fail
  refine (eqInstance_s (r0, r1) _ _ _ _ _ (Iv.rd JG''''''''''.out) (Iv.rd JWF8'''''''''''''''.out)).mono ?_
  rintro e w16 ⟨rfl, hb16⟩
  have JWF8'''''''''''''''' := Lib.hid (Iv.mono JWF8'''''''''''''''.out hb16)
  clear JWF8'''''''''''''''
  have JG''''''''''' := Lib.hid (Iv.mono JG''''''''''.out hb16)
  clear JG''''''''''
  have hsF8sasasasdssdssmms := hsF8sasasasdssdssmm.step hb16
  have hz13 : w15.heap.size ≤ w16.heap.size := by simpa using hb16.size
  clear qa00 qa01 qa10 qa11 qa12 qw0 qw1 qx00 qx01 qx10 qx11 qx12 qg0 qg1
  have qa00 := hsF8sasasasdssdssmms.cellAt 0 rfl 0 rfl
  have qa01 := hsF8sasasasdssdssmms.cellAt 0 rfl 1 rfl
  have qa10 := hsF8sasasasdssdssmms.cellAt 1 rfl 0 rfl
  have qa11 := hsF8sasasasdssdssmms.cellAt 1 rfl 1 rfl
  have qa12 := hsF8sasasasdssdssmms.cellAt 1 rfl 2 rfl
  have qw0 := hsF8sasasasdssdssmms.cellAt 2 rfl 0 rfl
  have qw1 := hsF8sasasasdssdssmms.cellAt 2 rfl 1 rfl
  have qx00 := hsF8sasasasdssdssmms.cellAt 3 rfl 0 rfl
  have qx01 := hsF8sasasasdssdssmms.cellAt 3 rfl 1 rfl
  have qx10 := hsF8sasasasdssdssmms.cellAt 4 rfl 0 rfl
  have qx11 := hsF8sasasasdssdssmms.cellAt 4 rfl 1 rfl
  have qx12 := hsF8sasasasdssdssmms.cellAt 4 rfl 2 rfl
  have qg0 := hsF8sasasasdssdssmms.cellAt 5 rfl 0 rfl
  have qg1 := hsF8sasasasdssdssmms.cellAt 5 rfl 1 rfl
  obtain ⟨psG, hoG, hnG, hpG⟩ := JG'''''''''''.out
  have HOG := Lib.hid hoG
  clear hoG
  clear JG'''''''''''
  go_wp2_with fail
  refine (markInstance_g (r0, r1) _ _ psG 1 _ HOG.out hnG (by omega) (by omega)).mono ?_
  rintro e w17 ⟨yG, mG, rfl, l0G, l1G, hyG, hhG, hbutG⟩
  have HYG := Lib.hid hyG
  have HHG := Lib.hid hhG
  clear hyG hhG HOG
  have hqG : ∀ k, k ∈ psG → w7.heap.size + 1 ≤ k ∧ k < w8.heap.size := fun k hk => by have := hpG k hk; simpa using this
  have JWF8''''''''''''''''' := Lib.hid (Iv.but JWF8''''''''''''''''.out hbutG (fun k hk => by have := hqG k hk; simp; omega))
  clear JWF8''''''''''''''''
  have hsF8sasasasdssdssmmsm := hsF8sasasasdssdssmms.butIv hbutG (fun k hk => by have := hqG k hk; omega) (fun x hx hp => by
    have := hqG _ hp
    simp only [List.mem_append, List.mem_cons, List.mem_nil_iff, or_false, List.not_mem_nil, false_or, or_assoc] at hx
    rcases hx with rfl | rfl | rfl | rfl | rfl | rfl <;> (simp only at this; omega))
  have hz14 : w16.heap.size ≤ w17.heap.size := by simpa using hbutG.size
  clear qa00 qa01 qa10 qa11 qa12 qw0 qw1 qx00 qx01 qx10 qx11 qx12 qg0 qg1
  have qa00 := hsF8sasasasdssdssmmsm.cellAt 0 rfl 0 rfl
  have qa01 := hsF8sasasasdssdssmmsm.cellAt 0 rfl 1 rfl
  have qa10 := hsF8sasasasdssdssmmsm.cellAt 1 rfl 0 rfl
  have qa11 := hsF8sasasasdssdssmmsm.cellAt 1 rfl 1 rfl
  have qa12 := hsF8sasasasdssdssmmsm.cellAt 1 rfl 2 rfl
  have qw0 := hsF8sasasasdssdssmmsm.cellAt 2 rfl 0 rfl
  have qw1 := hsF8sasasasdssdssmmsm.cellAt 2 rfl 1 rfl
  have qx00 := hsF8sasasasdssdssmmsm.cellAt 3 rfl 0 rfl
  have qx01 := hsF8sasasasdssdssmmsm.cellAt 3 rfl 1 rfl
  have qx10 := hsF8sasasasdssdssmmsm.cellAt 4 rfl 0 rfl
  have qx11 := hsF8sasasasdssdssmmsm.cellAt 4 rfl 1 rfl
  have qx12 := hsF8sasasasdssdssmmsm.cellAt 4 rfl 2 rfl
  have qg0 := hsF8sasasasdssdssmmsm.cellAt 5 rfl 0 rfl
  have qg1 := hsF8sasasasdssdssmmsm.cellAt 5 rfl 1 rfl
  have HYr18 := Lib.hid (Own.rd HYG.out)
  go_wp2_with fail
  refine (heldInstance_g yG _ _ 1 mG _ HYr18.out HHG.out (by omega) (by omega) (by omega)).mono ?_
  rintro e w18 ⟨rfl, hb18⟩
  have HYG' := Lib.hid (Own.mono HYG.out hb18)
  clear HYG HYr18
  have HYG := HYG'
  clear HYG'
  have JWF8'''''''''''''''''' := Lib.hid (Iv.mono JWF8'''''''''''''''''.out hb18)
  clear JWF8'''''''''''''''''
  have hsF8sasasasdssdssmmsms := hsF8sasasasdssdssmmsm.step hb18
  have hz15 : w17.heap.size ≤ w18.heap.size := by simpa using hb18.size
  clear qa00 qa01 qa10 qa11 qa12 qw0 qw1 qx00 qx01 qx10 qx11 qx12 qg0 qg1
  have qa00 := hsF8sasasasdssdssmmsms.cellAt 0 rfl 0 rfl
  have qa01 := hsF8sasasasdssdssmmsms.cellAt 0 rfl 1 rfl
  have qa10 := hsF8sasasasdssdssmmsms.cellAt 1 rfl 0 rfl
  have qa11 := hsF8sasasasdssdssmmsms.cellAt 1 rfl 1 rfl
  have qa12 := hsF8sasasasdssdssmmsms.cellAt 1 rfl 2 rfl
  have qw0 := hsF8sasasasdssdssmmsms.cellAt 2 rfl 0 rfl
  have qw1 := hsF8sasasasdssdssmmsms.cellAt 2 rfl 1 rfl
  have qx00 := hsF8sasasasdssdssmmsms.cellAt 3 rfl 0 rfl
  have qx01 := hsF8sasasasdssdssmmsms.cellAt 3 rfl 1 rfl
  have qx10 := hsF8sasasasdssdssmmsms.cellAt 4 rfl 0 rfl
  have qx11 := hsF8sasasasdssdssmmsms.cellAt 4 rfl 1 rfl
  have qx12 := hsF8sasasasdssdssmmsms.cellAt 4 rfl 2 rfl
  have qg0 := hsF8sasasasdssdssmmsms.cellAt 5 rfl 0 rfl
  have qg1 := hsF8sasasasdssdssmmsms.cellAt 5 rfl 1 rfl
  have hmm : (mG != mG) = false := by simp
  have hm0 : ¬ mG < 0 := by omega
  go_upto_region 31 with fail
  refine wp_region_noPanic (wp_region_tree4 (fun w' => w'.cell? ⟨w.heap.size, 0, none⟩ = some (.int .i64 x00) ∧ w'.cell? ⟨w.heap.size, 1, none⟩ = some (.slice a01 x01.length c01) ∧ w'.cell? ⟨w.heap.size + 1, 0, none⟩ = some (.int .i64 x10) ∧ w'.cell? ⟨w.heap.size + 1, 1, none⟩ = some (.int .i64 x11) ∧ w'.cell? ⟨w.heap.size + 1, 2, none⟩ = some (.slice a12 x12.length c12) ∧ w'.cell? ⟨gUF8, 0, none⟩ = some (.int .i64 r0) ∧ w'.cell? ⟨gUF8, 1, none⟩ = some (.slice aW1 r1.length cW1) ∧ w'.cell? ⟨w6.heap.size, 0, none⟩ = some (.int .i64 x00) ∧ w'.cell? ⟨w6.heap.size, 1, none⟩ = some (.slice ax01 x01.length cx01) ∧ w'.cell? ⟨w7.heap.size, 0, none⟩ = some (.int .i64 x10) ∧ w'.cell? ⟨w7.heap.size, 1, none⟩ = some (.int .i64 x11) ∧ w'.cell? ⟨w7.heap.size, 2, none⟩ = some (.slice ax12 x12.length cx12) ∧ w'.cell? ⟨w8.heap.size, 0, none⟩ = some (.int .i64 r0) ∧ w'.cell? ⟨w8.heap.size, 1, none⟩ = some (.slice aG1 r1.length cG1)) (.float 0 (.float 2 (.fork2 1 (.fork2 3 (.fork2 4 (.float 5 (.float 6 (.float 7 (.hard 8 (.hard 9 (.float 10 .nil)))))) 8 (.hard 4 (.float 5 (.float 6 (.float 7 (.hard 9 (.float 10 .nil))))))) 8 (.hard 3 (.hard 4 (.float 5 (.float 6 (.float 7 (.hard 9 (.float 10 .nil)))))))) 8 (.hard 1 (.hard 3 (.hard 4 (.float 5 (.float 6 (.float 7 (.hard 9 (.float 10 .nil))))))))))) (by kernel_rfl) (by kernel_rfl) (by kernel_rfl) rfl ?_ (fun _ _ _ _ _ h => h) ?_)
  · exact ⟨(hsF8sasasasdssdssmmsms.drew).cellAt 0 rfl 0 rfl, (hsF8sasasasdssdssmmsms.drew).cellAt 0 rfl 1 rfl, (hsF8sasasasdssdssmmsms.drew).cellAt 1 rfl 0 rfl, (hsF8sasasasdssdssmmsms.drew).cellAt 1 rfl 1 rfl, (hsF8sasasasdssdssmmsms.drew).cellAt 1 rfl 2 rfl, (hsF8sasasasdssdssmmsms.drew).cellAt 2 rfl 0 rfl, (hsF8sasasasdssdssmmsms.drew).cellAt 2 rfl 1 rfl, (hsF8sasasasdssdssmmsms.drew).cellAt 3 rfl 0 rfl, (hsF8sasasasdssdssmmsms.drew).cellAt 3 rfl 1 rfl, (hsF8sasasasdssdssmmsms.drew).cellAt 4 rfl 0 rfl, (hsF8sasasasdssdssmmsms.drew).cellAt 4 rfl 1 rfl, (hsF8sasasasdssdssmmsms.drew).cellAt 4 rfl 2 rfl, (hsF8sasasasdssdssmmsms.drew).cellAt 5 rfl 0 rfl, (hsF8sasasasdssdssmmsms.drew).cellAt 5 rfl 1 rfl⟩
  have JWF8''''''''''''''''''' := Lib.hid (Iv.mono JWF8''''''''''''''''''.out (belowD _))
  clear JWF8''''''''''''''''''
  have HYG' := Lib.hid (Own.mono HYG.out (belowD _))
  clear HYG
  have HYG := HYG'
  clear HYG'
  have hsF8sasasasdssdssmmsmsd := hsF8sasasasdssdssmmsms.drew
  clear qa00 qa01 qa10 qa11 qa12 qw0 qw1 qx00 qx01 qx10 qx11 qx12 qg0 qg1
  have hzF31 : w18.heap.size ≤ (w18.drew).heap.size := by simp
  generalize hgenF31 : w18.drew = wF31 at *
  have HGF31 := Lib.hid hgenF31
  clear hgenF31
  (repeat (first | (apply t4_skip rfl (by rfl); try simp only [Act.put, List.setIfInBounds_toArray, List.set_cons_zero, List.set_cons_succ]) | (apply t4_float rfl (by rfl); (· (intro w' hS; go_simp <;> with_reducible rfl)); (try simp only [Act.put, List.setIfInBounds_toArray, List.set_cons_zero, List.set_cons_succ]))))
  apply mp_cut
  · intro HJ
    refine t4_fork2 ?_ ?_
    · refine t4_hard rfl (by rfl) (fun K hK => ?_)
      go_wp2_with (go_at_call 7; refine (toTemplate_b (x00, x01) _ _ _ (Rd.mono H0.out hsF8sasasasdssdssmmsmsd.bel) gc0).mono ?_; rintro e w19 ⟨ut00, ut01, rfl, frt0, hb19⟩)
      have JWF8'''''''''''''''''''' := Lib.hid (Iv.mono JWF8'''''''''''''''''''.out hb19)
      try clear JWF8'''''''''''''''''''
      have hsF8sasasasdssdssmmsmsds := hsF8sasasasdssdssmmsmsd.step hb19
      have hz16 : wF31.heap.size ≤ w19.heap.size := by simpa using hb19.size
      have Jt0 := Lib.hid (Fresh.iv frt0)
      have zt00 := rd_cons rfl (Iv.rd Jt0.out)
      obtain ⟨rfl, _⟩ := rd_i1 zt00.1
      obtain ⟨at01, ct01, rfl, _⟩ := rd_list zt00.2
      clear zt00
      clear frt0
      refine ⟨⟨hsF8sasasasdssdssmmsmsds.cellAt 0 rfl 0 rfl, hsF8sasasasdssdssmmsmsds.cellAt 0 rfl 1 rfl, hsF8sasasasdssdssmmsmsds.cellAt 1 rfl 0 rfl, hsF8sasasasdssdssmmsmsds.cellAt 1 rfl 1 rfl, hsF8sasasasdssdssmmsmsds.cellAt 1 rfl 2 rfl, hsF8sasasasdssdssmmsmsds.cellAt 2 rfl 0 rfl, hsF8sasasasdssdssmmsmsds.cellAt 2 rfl 1 rfl, hsF8sasasasdssdssmmsmsds.cellAt 3 rfl 0 rfl, hsF8sasasasdssdssmmsmsds.cellAt 3 rfl 1 rfl, hsF8sasasasdssdssmmsmsds.cellAt 4 rfl 0 rfl, hsF8sasasasdssdssmmsmsds.cellAt 4 rfl 1 rfl, hsF8sasasasdssdssmmsmsds.cellAt 4 rfl 2 rfl, hsF8sasasasdssdssmmsmsds.cellAt 5 rfl 0 rfl, hsF8sasasasdssdssmmsmsds.cellAt 5 rfl 1 rfl⟩, ?_⟩
      (repeat (first | (apply t4_skip rfl (by rfl); try simp only [Act.put, List.setIfInBounds_toArray, List.set_cons_zero, List.set_cons_succ]) | (apply t4_float rfl (by rfl); (· (intro w' hS; go_simp <;> with_reducible rfl)); (try simp only [Act.put, List.setIfInBounds_toArray, List.set_cons_zero, List.set_cons_succ]))))
      have HYG' := Lib.hid (Own.mono HYG.out hb19)
      try clear HYG
      have HYG := HYG'
      clear HYG'
      refine t4_fork2 ?_ ?_
      · refine t4_hard rfl (by rfl) (fun K hK => ?_)
        go_wp2_with (go_at_call 8; refine (toFormula_b (x10, x11, x12) _ _ _ _ (Rd.mono H1.out hsF8sasasasdssdssmmsmsds.bel) gc1).mono ?_; rintro e w20 ⟨ut10, ut11, ut12, rfl, frt1, hb20⟩)
        have JWF8''''''''''''''''''''' := Lib.hid (Iv.mono JWF8''''''''''''''''''''.out hb20)
        try clear JWF8''''''''''''''''''''
        have Jt0' := Lib.hid (Iv.mono Jt0.out hb20)
        try clear Jt0
        have hsF8sasasasdssdssmmsmsdss := hsF8sasasasdssdssmmsmsds.step hb20
        have hz17 : w19.heap.size ≤ w20.heap.size := by simpa using hb20.size
        have Jt1 := Lib.hid (Fresh.iv frt1)
        have zt10 := rd_cons rfl (Iv.rd Jt1.out)
        obtain ⟨rfl, _⟩ := rd_i1 zt10.1
        have zt11 := rd_cons rfl zt10.2
        obtain ⟨rfl, _⟩ := rd_i1 zt11.1
        obtain ⟨at12, ct12, rfl, _⟩ := rd_list zt11.2
        clear zt10 zt11
        clear frt1
        refine ⟨⟨hsF8sasasasdssdssmmsmsdss.cellAt 0 rfl 0 rfl, hsF8sasasasdssdssmmsmsdss.cellAt 0 rfl 1 rfl, hsF8sasasasdssdssmmsmsdss.cellAt 1 rfl 0 rfl, hsF8sasasasdssdssmmsmsdss.cellAt 1 rfl 1 rfl, hsF8sasasasdssdssmmsmsdss.cellAt 1 rfl 2 rfl, hsF8sasasasdssdssmmsmsdss.cellAt 2 rfl 0 rfl, hsF8sasasasdssdssmmsmsdss.cellAt 2 rfl 1 rfl, hsF8sasasasdssdssmmsmsdss.cellAt 3 rfl 0 rfl, hsF8sasasasdssdssmmsmsdss.cellAt 3 rfl 1 rfl, hsF8sasasasdssdssmmsmsdss.cellAt 4 rfl 0 rfl, hsF8sasasasdssdssmmsmsdss.cellAt 4 rfl 1 rfl, hsF8sasasasdssdssmmsmsdss.cellAt 4 rfl 2 rfl, hsF8sasasasdssdssmmsmsdss.cellAt 5 rfl 0 rfl, hsF8sasasasdssdssmmsmsdss.cellAt 5 rfl 1 rfl⟩, ?_⟩
        (repeat (first | (apply t4_skip rfl (by rfl); try simp only [Act.put, List.setIfInBounds_toArray, List.set_cons_zero, List.set_cons_succ]) | (apply t4_float rfl (by rfl); (· (intro w' hS; go_simp <;> with_reducible rfl)); (try simp only [Act.put, List.setIfInBounds_toArray, List.set_cons_zero, List.set_cons_succ]))))
        have HYG' := Lib.hid (Own.mono HYG.out hb20)
        try clear HYG
        have HYG := HYG'
        clear HYG'
        refine t4_fork2 ?_ ?_
        · refine t4_hard rfl (by rfl) (fun K hK => ?_)
          go_wp2_with (go_at_call 9; refine (CI.out _ _ _ _ _ _ (Iv.rd Jt0'.out) (Iv.rd Jt1.out)).mono ?_; rintro e w21 ⟨uK0, uK1, rfl, frK, hb21⟩)
          have JWF8'''''''''''''''''''''' := Lib.hid (Iv.mono JWF8'''''''''''''''''''''.out hb21)
          try clear JWF8'''''''''''''''''''''
          have Jt0'' := Lib.hid (Iv.mono Jt0'.out hb21)
          try clear Jt0'
          have Jt1' := Lib.hid (Iv.mono Jt1.out hb21)
          try clear Jt1
          have hsF8sasasasdssdssmmsmsdsss := hsF8sasasasdssdssmmsmsdss.step hb21
          have hz18 : w20.heap.size ≤ w21.heap.size := by simpa using hb21.size
          have JK := Lib.hid (Fresh.iv frK)
          have zK0 := rd_cons rfl (Iv.rd JK.out)
          obtain ⟨rfl, _⟩ := rd_i1 zK0.1
          obtain ⟨aK1, cK1, rfl, _⟩ := rd_list zK0.2
          clear zK0
          clear frK
          have HYG' := Lib.hid (Own.mono HYG.out hb21)
          try clear HYG
          have HYG := HYG'
          clear HYG'
          try clear Jt0''
          try clear Jt1'
          refine ⟨⟨hsF8sasasasdssdssmmsmsdsss.cellAt 0 rfl 0 rfl, hsF8sasasasdssdssmmsmsdsss.cellAt 0 rfl 1 rfl, hsF8sasasasdssdssmmsmsdsss.cellAt 1 rfl 0 rfl, hsF8sasasasdssdssmmsmsdsss.cellAt 1 rfl 1 rfl, hsF8sasasasdssdssmmsmsdsss.cellAt 1 rfl 2 rfl, hsF8sasasasdssdssmmsmsdsss.cellAt 2 rfl 0 rfl, hsF8sasasasdssdssmmsmsdsss.cellAt 2 rfl 1 rfl, hsF8sasasasdssdssmmsmsdsss.cellAt 3 rfl 0 rfl, hsF8sasasasdssdssmmsmsdsss.cellAt 3 rfl 1 rfl, hsF8sasasasdssdssmmsmsdsss.cellAt 4 rfl 0 rfl, hsF8sasasasdssdssmmsmsdsss.cellAt 4 rfl 1 rfl, hsF8sasasasdssdssmmsmsdsss.cellAt 4 rfl 2 rfl, hsF8sasasasdssdssmmsmsdsss.cellAt 5 rfl 0 rfl, hsF8sasasasdssdssmmsmsdsss.cellAt 5 rfl 1 rfl⟩, ?_⟩
          (repeat (first | (apply t4_skip rfl (by rfl); try simp only [Act.put, List.setIfInBounds_toArray, List.set_cons_zero, List.set_cons_succ]) | (apply t4_float rfl (by rfl); (· (intro w' hS; go_simp <;> with_reducible rfl)); (try simp only [Act.put, List.setIfInBounds_toArray, List.set_cons_zero, List.set_cons_succ]))))
          refine t4_hard rfl (by rfl) (fun K hK => ?_)
          go_wp2_with fail
          have hsF8sasasasdssdssmmsmsdsssa := hsF8sasasasdssdssmmsmsdsss.alloc #[.int .i64 0, .slice none 0 0] 32 rfl
          have JWF8''''''''''''''''''''''' := Lib.hid (Iv.mono JWF8''''''''''''''''''''''.out (belowA _ (.cells #[.int .i64 0, .slice none 0 0] 32)))
          try clear JWF8''''''''''''''''''''''
          have JK' := Lib.hid (Iv.mono JK.out (belowA _ (.cells #[.int .i64 0, .slice none 0 0] 32)))
          try clear JK
          have HYG' := Lib.hid (Own.mono HYG.out (belowA _ (.cells #[.int .i64 0, .slice none 0 0] 32)))
          try clear HYG
          have HYG := HYG'
          clear HYG'
          have hzF31A1 : w21.heap.size + 1 ≤ (w21.alloc (.cells #[.int .i64 0, .slice none 0 0] 32)).heap.size := by simp
          generalize hgenF31A1 : w21.alloc (.cells #[.int .i64 0, .slice none 0 0] 32) = wF31A1 at *
          have HGF31A1 := Lib.hid hgenF31A1
          clear hgenF31A1
          refine ⟨⟨hsF8sasasasdssdssmmsmsdsssa.cellAt 0 rfl 0 rfl, hsF8sasasasdssdssmmsmsdsssa.cellAt 0 rfl 1 rfl, hsF8sasasasdssdssmmsmsdsssa.cellAt 1 rfl 0 rfl, hsF8sasasasdssdssmmsmsdsssa.cellAt 1 rfl 1 rfl, hsF8sasasasdssdssmmsmsdsssa.cellAt 1 rfl 2 rfl, hsF8sasasasdssdssmmsmsdsssa.cellAt 2 rfl 0 rfl, hsF8sasasasdssdssmmsmsdsssa.cellAt 2 rfl 1 rfl, hsF8sasasasdssdssmmsmsdsssa.cellAt 3 rfl 0 rfl, hsF8sasasasdssdssmmsmsdsssa.cellAt 3 rfl 1 rfl, hsF8sasasasdssdssmmsmsdsssa.cellAt 4 rfl 0 rfl, hsF8sasasasdssdssmmsmsdsssa.cellAt 4 rfl 1 rfl, hsF8sasasasdssdssmmsmsdsssa.cellAt 4 rfl 2 rfl, hsF8sasasasdssdssmmsmsdsssa.cellAt 5 rfl 0 rfl, hsF8sasasasdssdssmmsmsdsssa.cellAt 5 rfl 1 rfl⟩, ?_⟩
          (repeat (first | (apply t4_skip rfl (by rfl); try simp only [Act.put, List.setIfInBounds_toArray, List.set_cons_zero, List.set_cons_succ]) | (apply t4_float rfl (by rfl); (· (intro w' hS; go_simp <;> with_reducible rfl)); (try simp only [Act.put, List.setIfInBounds_toArray, List.set_cons_zero, List.set_cons_succ]))))
          refine t4_hard rfl (by rfl) (fun K hK => ?_)
          have fF310 := hsF8sasasasdssdssmmsmsdsssa.freeAt 6 rfl 0
          have cF310 := hsF8sasasasdssdssmmsmsdsssa.cellAt 6 rfl 0 rfl
          have fF311 := hsF8sasasasdssdssmmsmsdsssa.freeAt 6 rfl 1
          have cF311 := hsF8sasasasdssdssmmsmsdsssa.cellAt 6 rfl 1 rfl
          go_wp2_with fail
          have hsF8sasasasdssdssmmsmsdsssat := ((hsF8sasasasdssdssmmsmsdsssa.set (p := [_, _, _, _, _, _]) (by simp <;> omega) 0 (.int .i64 r0)).set (p := [_, _, _, _, _, _]) (by simp <;> omega) 1 (.slice aK1 r1.length cK1))
          have JWF8'''''''''''''''''''''''' := Lib.hid (Iv.setOut (Iv.setOut JWF8'''''''''''''''''''''''.out (a := ⟨w21.heap.size, 0, none⟩) (by first | (left; simp only; first | done | omega) | (right; simp only; first | done | omega)) (.int .i64 r0)) (a := ⟨w21.heap.size, 1, none⟩) (by first | (left; simp only; first | done | omega) | (right; simp only; first | done | omega)) (.slice aK1 r1.length cK1))
          try clear JWF8'''''''''''''''''''''''
          have JK'' := Lib.hid (Iv.setOut (Iv.setOut JK'.out (a := ⟨w21.heap.size, 0, none⟩) (by first | (left; simp only; first | done | omega) | (right; simp only; first | done | omega)) (.int .i64 r0)) (a := ⟨w21.heap.size, 1, none⟩) (by first | (left; simp only; first | done | omega) | (right; simp only; first | done | omega)) (.slice aK1 r1.length cK1))
          try clear JK'
          have HYG' := Lib.hid (own_setOut (own_setOut HYG.out (b := w21.heap.size) (o := 0) (fun hk => by have := hqG _ hk; omega) (.int .i64 r0)) (b := w21.heap.size) (o := 1) (fun hk => by have := hqG _ hk; omega) (.slice aK1 r1.length cK1))
          try clear HYG
          have HYG := HYG'
          clear HYG'
          clear fF310 cF310 fF311 cF311
          refine ⟨?_, ?_⟩
          · first | (have u9 : wF31A1.cell? ⟨w.heap.size, 0, none⟩ = some (.int .i64 x00) ∧ wF31A1.cell? ⟨w.heap.size, 1, none⟩ = some (.slice a01 x01.length c01) ∧ wF31A1.cell? ⟨w.heap.size + 1, 0, none⟩ = some (.int .i64 x10) ∧ wF31A1.cell? ⟨w.heap.size + 1, 1, none⟩ = some (.int .i64 x11) ∧ wF31A1.cell? ⟨w.heap.size + 1, 2, none⟩ = some (.slice a12 x12.length c12) ∧ wF31A1.cell? ⟨gUF8, 0, none⟩ = some (.int .i64 r0) ∧ wF31A1.cell? ⟨gUF8, 1, none⟩ = some (.slice aW1 r1.length cW1) ∧ wF31A1.cell? ⟨w6.heap.size, 0, none⟩ = some (.int .i64 x00) ∧ wF31A1.cell? ⟨w6.heap.size, 1, none⟩ = some (.slice ax01 x01.length cx01) ∧ wF31A1.cell? ⟨w7.heap.size, 0, none⟩ = some (.int .i64 x10) ∧ wF31A1.cell? ⟨w7.heap.size, 1, none⟩ = some (.int .i64 x11) ∧ wF31A1.cell? ⟨w7.heap.size, 2, none⟩ = some (.slice ax12 x12.length cx12) ∧ wF31A1.cell? ⟨w8.heap.size, 0, none⟩ = some (.int .i64 r0) ∧ wF31A1.cell? ⟨w8.heap.size, 1, none⟩ = some (.slice aG1 r1.length cG1) := ⟨hsF8sasasasdssdssmmsmsdsssa.cellAt 0 rfl 0 rfl, hsF8sasasasdssdssmmsmsdsssa.cellAt 0 rfl 1 rfl, hsF8sasasasdssdssmmsmsdsssa.cellAt 1 rfl 0 rfl, hsF8sasasasdssdssmmsmsdsssa.cellAt 1 rfl 1 rfl, hsF8sasasasdssdssmmsmsdsssa.cellAt 1 rfl 2 rfl, hsF8sasasasdssdssmmsmsdsssa.cellAt 2 rfl 0 rfl, hsF8sasasasdssdssmmsmsdsssa.cellAt 2 rfl 1 rfl, hsF8sasasasdssdssmmsmsdsssa.cellAt 3 rfl 0 rfl, hsF8sasasasdssdssmmsmsdsssa.cellAt 3 rfl 1 rfl, hsF8sasasasdssdssmmsmsdsssa.cellAt 4 rfl 0 rfl, hsF8sasasasdssdssmmsmsdsssa.cellAt 4 rfl 1 rfl, hsF8sasasasdssdssmmsmsdsssa.cellAt 4 rfl 2 rfl, hsF8sasasasdssdssmmsmsdsssa.cellAt 5 rfl 0 rfl, hsF8sasasasdssdssmmsmsdsssa.cellAt 5 rfl 1 rfl⟩; with_reducible exact u9) | (have u9 : ((wF31A1.setCell ⟨w21.heap.size, 0, none⟩ (.int .i64 r0)).setCell ⟨w21.heap.size, 1, none⟩ (.slice aK1 r1.length cK1)).cell? ⟨w.heap.size, 0, none⟩ = some (.int .i64 x00) ∧ ((wF31A1.setCell ⟨w21.heap.size, 0, none⟩ (.int .i64 r0)).setCell ⟨w21.heap.size, 1, none⟩ (.slice aK1 r1.length cK1)).cell? ⟨w.heap.size, 1, none⟩ = some (.slice a01 x01.length c01) ∧ ((wF31A1.setCell ⟨w21.heap.size, 0, none⟩ (.int .i64 r0)).setCell ⟨w21.heap.size, 1, none⟩ (.slice aK1 r1.length cK1)).cell? ⟨w.heap.size + 1, 0, none⟩ = some (.int .i64 x10) ∧ ((wF31A1.setCell ⟨w21.heap.size, 0, none⟩ (.int .i64 r0)).setCell ⟨w21.heap.size, 1, none⟩ (.slice aK1 r1.length cK1)).cell? ⟨w.heap.size + 1, 1, none⟩ = some (.int .i64 x11) ∧ ((wF31A1.setCell ⟨w21.heap.size, 0, none⟩ (.int .i64 r0)).setCell ⟨w21.heap.size, 1, none⟩ (.slice aK1 r1.length cK1)).cell? ⟨w.heap.size + 1, 2, none⟩ = some (.slice a12 x12.length c12) ∧ ((wF31A1.setCell ⟨w21.heap.size, 0, none⟩ (.int .i64 r0)).setCell ⟨w21.heap.size, 1, none⟩ (.slice aK1 r1.length cK1)).cell? ⟨gUF8, 0, none⟩ = some (.int .i64 r0) ∧ ((wF31A1.setCell ⟨w21.heap.size, 0, none⟩ (.int .i64 r0)).setCell ⟨w21.heap.size, 1, none⟩ (.slice aK1 r1.length cK1)).cell? ⟨gUF8, 1, none⟩ = some (.slice aW1 r1.length cW1) ∧ ((wF31A1.setCell ⟨w21.heap.size, 0, none⟩ (.int .i64 r0)).setCell ⟨w21.heap.size, 1, none⟩ (.slice aK1 r1.length cK1)).cell? ⟨w6.heap.size, 0, none⟩ = some (.int .i64 x00) ∧ ((wF31A1.setCell ⟨w21.heap.size, 0, none⟩ (.int .i64 r0)).setCell ⟨w21.heap.size, 1, none⟩ (.slice aK1 r1.length cK1)).cell? ⟨w6.heap.size, 1, none⟩ = some (.slice ax01 x01.length cx01) ∧ ((wF31A1.setCell ⟨w21.heap.size, 0, none⟩ (.int .i64 r0)).setCell ⟨w21.heap.size, 1, none⟩ (.slice aK1 r1.length cK1)).cell? ⟨w7.heap.size, 0, none⟩ = some (.int .i64 x10) ∧ ((wF31A1.setCell ⟨w21.heap.size, 0, none⟩ (.int .i64 r0)).setCell ⟨w21.heap.size, 1, none⟩ (.slice aK1 r1.length cK1)).cell? ⟨w7.heap.size, 1, none⟩ = some (.int .i64 x11) ∧ ((wF31A1.setCell ⟨w21.heap.size, 0, none⟩ (.int .i64 r0)).setCell ⟨w21.heap.size, 1, none⟩ (.slice aK1 r1.length cK1)).cell? ⟨w7.heap.size, 2, none⟩ = some (.slice ax12 x12.length cx12) ∧ ((wF31A1.setCell ⟨w21.heap.size, 0, none⟩ (.int .i64 r0)).setCell ⟨w21.heap.size, 1, none⟩ (.slice aK1 r1.length cK1)).cell? ⟨w8.heap.size, 0, none⟩ = some (.int .i64 r0) ∧ ((wF31A1.setCell ⟨w21.heap.size, 0, none⟩ (.int .i64 r0)).setCell ⟨w21.heap.size, 1, none⟩ (.slice aK1 r1.length cK1)).cell? ⟨w8.heap.size, 1, none⟩ = some (.slice aG1 r1.length cG1) := ⟨hsF8sasasasdssdssmmsmsdsssat.cellAt 0 rfl 0 rfl, hsF8sasasasdssdssmmsmsdsssat.cellAt 0 rfl 1 rfl, hsF8sasasasdssdssmmsmsdsssat.cellAt 1 rfl 0 rfl, hsF8sasasasdssdssmmsmsdsssat.cellAt 1 rfl 1 rfl, hsF8sasasasdssdssmmsmsdsssat.cellAt 1 rfl 2 rfl, hsF8sasasasdssdssmmsmsdsssat.cellAt 2 rfl 0 rfl, hsF8sasasasdssdssmmsmsdsssat.cellAt 2 rfl 1 rfl, hsF8sasasasdssdssmmsmsdsssat.cellAt 3 rfl 0 rfl, hsF8sasasasdssdssmmsmsdsssat.cellAt 3 rfl 1 rfl, hsF8sasasasdssdssmmsmsdsssat.cellAt 4 rfl 0 rfl, hsF8sasasasdssdssmmsmsdsssat.cellAt 4 rfl 1 rfl, hsF8sasasasdssdssmmsmsdsssat.cellAt 4 rfl 2 rfl, hsF8sasasasdssdssmmsmsdsssat.cellAt 5 rfl 0 rfl, hsF8sasasasdssdssmmsmsdsssat.cellAt 5 rfl 1 rfl⟩; with_reducible exact u9) | exact ⟨hsF8sasasasdssdssmmsmsdsssat.cellAt 0 rfl 0 rfl, hsF8sasasasdssdssmmsmsdsssat.cellAt 0 rfl 1 rfl, hsF8sasasasdssdssmmsmsdsssat.cellAt 1 rfl 0 rfl, hsF8sasasasdssdssmmsmsdsssat.cellAt 1 rfl 1 rfl, hsF8sasasasdssdssmmsmsdsssat.cellAt 1 rfl 2 rfl, hsF8sasasasdssdssmmsmsdsssat.cellAt 2 rfl 0 rfl, hsF8sasasasdssdssmmsmsdsssat.cellAt 2 rfl 1 rfl, hsF8sasasasdssdssmmsmsdsssat.cellAt 3 rfl 0 rfl, hsF8sasasasdssdssmmsmsdsssat.cellAt 3 rfl 1 rfl, hsF8sasasasdssdssmmsmsdsssat.cellAt 4 rfl 0 rfl, hsF8sasasasdssdssmmsmsdsssat.cellAt 4 rfl 1 rfl, hsF8sasasasdssdssmmsmsdsssat.cellAt 4 rfl 2 rfl, hsF8sasasasdssdssmmsmsdsssat.cellAt 5 rfl 0 rfl, hsF8sasasasdssdssmmsmsdsssat.cellAt 5 rfl 1 rfl⟩ | exact ⟨hsF8sasasasdssdssmmsmsdsssa.cellAt 0 rfl 0 rfl, hsF8sasasasdssdssmmsmsdsssa.cellAt 0 rfl 1 rfl, hsF8sasasasdssdssmmsmsdsssa.cellAt 1 rfl 0 rfl, hsF8sasasasdssdssmmsmsdsssa.cellAt 1 rfl 1 rfl, hsF8sasasasdssdssmmsmsdsssa.cellAt 1 rfl 2 rfl, hsF8sasasasdssdssmmsmsdsssa.cellAt 2 rfl 0 rfl, hsF8sasasasdssdssmmsmsdsssa.cellAt 2 rfl 1 rfl, hsF8sasasasdssdssmmsmsdsssa.cellAt 3 rfl 0 rfl, hsF8sasasasdssdssmmsmsdsssa.cellAt 3 rfl 1 rfl, hsF8sasasasdssdssmmsmsdsssa.cellAt 4 rfl 0 rfl, hsF8sasasasdssdssmmsmsdsssa.cellAt 4 rfl 1 rfl, hsF8sasasasdssdssmmsmsdsssa.cellAt 4 rfl 2 rfl, hsF8sasasasdssdssmmsmsdsssa.cellAt 5 rfl 0 rfl, hsF8sasasasdssdssmmsmsdsssa.cellAt 5 rfl 1 rfl⟩
          (repeat (first | (apply t4_skip rfl (by rfl); try simp only [Act.put, List.setIfInBounds_toArray, List.set_cons_zero, List.set_cons_succ]) | (apply t4_float rfl (by rfl); (· (intro w' hS; go_simp <;> with_reducible rfl)); (try simp only [Act.put, List.setIfInBounds_toArray, List.set_cons_zero, List.set_cons_succ]))))
          refine t4_nil (NoPanic.normal ?_)
          have hsF31 : St w ((wF31A1.setCell ⟨w21.heap.size, 0, none⟩ (.int .i64 r0)).setCell ⟨w21.heap.size, 1, none⟩ (.slice aK1 r1.length cK1)).heap.size ((wF31A1.setCell ⟨w21.heap.size, 0, none⟩ (.int .i64 r0)).setCell ⟨w21.heap.size, 1, none⟩ (.slice aK1 r1.length cK1)) [(w.heap.size, #[.int .i64 x00, .slice a01 x01.length c01], 24), (w.heap.size + 1, #[.int .i64 x10, .int .i64 x11, .slice a12 x12.length c12], 27), (gUF8, #[.int .i64 r0, .slice aW1 r1.length cW1], 32), (w6.heap.size, #[.int .i64 x00, .slice ax01 x01.length cx01], 37), (w7.heap.size, #[.int .i64 x10, .int .i64 x11, .slice ax12 x12.length cx12], 41), (w8.heap.size, #[.int .i64 r0, .slice aG1 r1.length cG1], 32), (w21.heap.size, #[.int .i64 r0, .slice aK1 r1.length cK1], 32)] := hsF8sasasasdssdssmmsmsdsssat.up hsF8sasasasdssdssmmsmsdsssat.hi (Nat.le_refl _)
          have hVF31 : wF31A1.heap.size = ((wF31A1.setCell ⟨w21.heap.size, 0, none⟩ (.int .i64 r0)).setCell ⟨w21.heap.size, 1, none⟩ (.slice aK1 r1.length cK1)).heap.size := by simp [World.setCell]
          obtain ⟨loUF31, hiUF31, hUF31, JUF31⟩ : ∃ lo hi : Nat, (w18.heap.size ≤ lo ∧ hi ≤ wF31A1.heap.size ∧ (w21.heap.size < lo ∨ hi ≤ w21.heap.size) ∧ w18.heap.size ≤ w21.heap.size ∧ w21.heap.size < wF31A1.heap.size) ∧ Hid (Iv lo hi ((wF31A1.setCell ⟨w21.heap.size, 0, none⟩ (.int .i64 r0)).setCell ⟨w21.heap.size, 1, none⟩ (.slice aK1 r1.length cK1)) [.int .i64 r0, .slice aK1 r1.length cK1] (r0, r1)) := ⟨w20.heap.size, w21.heap.size, by omega, JK''.out⟩
          rw [hVF31] at hUF31
          clear hVF31 JK''
          generalize hhwUF31 : ((wF31A1.setCell ⟨w21.heap.size, 0, none⟩ (.int .i64 r0)).setCell ⟨w21.heap.size, 1, none⟩ (.slice aK1 r1.length cK1)) = wUF31 at hsF31 hUF31 JUF31 JWF8'''''''''''''''''''''''' HYG ⊢
          clear hhwUF31
          generalize hhgUF31 : w21.heap.size = gUF31 at hsF31 hUF31 JUF31 JWF8'''''''''''''''''''''''' HYG ⊢
          clear hhgUF31
          generalize at01 = zat01 at hsF31 hUF31 JUF31 JWF8'''''''''''''''''''''''' HYG ⊢
          generalize ct01 = zct01 at hsF31 hUF31 JUF31 JWF8'''''''''''''''''''''''' HYG ⊢
          generalize at12 = zat12 at hsF31 hUF31 JUF31 JWF8'''''''''''''''''''''''' HYG ⊢
          generalize ct12 = zct12 at hsF31 hUF31 JUF31 JWF8'''''''''''''''''''''''' HYG ⊢
          generalize aK1 = zaK1 at hsF31 hUF31 JUF31 JWF8'''''''''''''''''''''''' HYG ⊢
          generalize cK1 = zcK1 at hsF31 hUF31 JUF31 JWF8'''''''''''''''''''''''' HYG ⊢
          revert HYG
          revert JWF8''''''''''''''''''''''''
          revert JUF31
          revert hUF31
          revert hsF31
          revert zcK1
          revert zaK1
          revert zct12
          revert zat12
          revert zct01
          revert zat01
          revert hiUF31
          revert loUF31
          revert gUF31
          revert wUF31
          exact HJ.get
        · refine t4_hard rfl (by rfl) (fun K hK => ?_)
          go_wp2_with fail
          have hsF8sasasasdssdssmmsmsdssa := hsF8sasasasdssdssmmsmsdss.alloc #[.int .i64 0, .slice none 0 0] 32 rfl
          have JWF8'''''''''''''''''''''' := Lib.hid (Iv.mono JWF8'''''''''''''''''''''.out (belowA _ (.cells #[.int .i64 0, .slice none 0 0] 32)))
          try clear JWF8'''''''''''''''''''''
          have Jt0'' := Lib.hid (Iv.mono Jt0'.out (belowA _ (.cells #[.int .i64 0, .slice none 0 0] 32)))
          try clear Jt0'
          have Jt1' := Lib.hid (Iv.mono Jt1.out (belowA _ (.cells #[.int .i64 0, .slice none 0 0] 32)))
          try clear Jt1
          have HYG' := Lib.hid (Own.mono HYG.out (belowA _ (.cells #[.int .i64 0, .slice none 0 0] 32)))
          try clear HYG
          have HYG := HYG'
          clear HYG'
          have hzF31A2 : w20.heap.size + 1 ≤ (w20.alloc (.cells #[.int .i64 0, .slice none 0 0] 32)).heap.size := by simp
          generalize hgenF31A2 : w20.alloc (.cells #[.int .i64 0, .slice none 0 0] 32) = wF31A2 at *
          have HGF31A2 := Lib.hid hgenF31A2
          clear hgenF31A2
          refine ⟨⟨hsF8sasasasdssdssmmsmsdssa.cellAt 0 rfl 0 rfl, hsF8sasasasdssdssmmsmsdssa.cellAt 0 rfl 1 rfl, hsF8sasasasdssdssmmsmsdssa.cellAt 1 rfl 0 rfl, hsF8sasasasdssdssmmsmsdssa.cellAt 1 rfl 1 rfl, hsF8sasasasdssdssmmsmsdssa.cellAt 1 rfl 2 rfl, hsF8sasasasdssdssmmsmsdssa.cellAt 2 rfl 0 rfl, hsF8sasasasdssdssmmsmsdssa.cellAt 2 rfl 1 rfl, hsF8sasasasdssdssmmsmsdssa.cellAt 3 rfl 0 rfl, hsF8sasasasdssdssmmsmsdssa.cellAt 3 rfl 1 rfl, hsF8sasasasdssdssmmsmsdssa.cellAt 4 rfl 0 rfl, hsF8sasasasdssdssmmsmsdssa.cellAt 4 rfl 1 rfl, hsF8sasasasdssdssmmsmsdssa.cellAt 4 rfl 2 rfl, hsF8sasasasdssdssmmsmsdssa.cellAt 5 rfl 0 rfl, hsF8sasasasdssdssmmsmsdssa.cellAt 5 rfl 1 rfl⟩, ?_⟩
          (repeat (first | (apply t4_skip rfl (by rfl); try simp only [Act.put, List.setIfInBounds_toArray, List.set_cons_zero, List.set_cons_succ]) | (apply t4_float rfl (by rfl); (· (intro w' hS; go_simp <;> with_reducible rfl)); (try simp only [Act.put, List.setIfInBounds_toArray, List.set_cons_zero, List.set_cons_succ]))))
          refine t4_hard rfl (by rfl) (fun K hK => ?_)
          go_wp2_with (go_at_call 9; refine (CI.out _ _ _ _ _ _ (Iv.rd Jt0''.out) (Iv.rd Jt1'.out)).mono ?_; rintro e w21 ⟨uK0, uK1, rfl, frK, hb21⟩)
          have JWF8''''''''''''''''''''''' := Lib.hid (Iv.mono JWF8''''''''''''''''''''''.out hb21)
          try clear JWF8''''''''''''''''''''''
          have Jt0''' := Lib.hid (Iv.mono Jt0''.out hb21)
          try clear Jt0''
          have Jt1'' := Lib.hid (Iv.mono Jt1'.out hb21)
          try clear Jt1'
          have hsF8sasasasdssdssmmsmsdssas := hsF8sasasasdssdssmmsmsdssa.step hb21
          have hz18 : wF31A2.heap.size ≤ w21.heap.size := by simpa using hb21.size
          have JK := Lib.hid (Fresh.iv frK)
          have zK0 := rd_cons rfl (Iv.rd JK.out)
          obtain ⟨rfl, _⟩ := rd_i1 zK0.1
          obtain ⟨aK1, cK1, rfl, _⟩ := rd_list zK0.2
          clear zK0
          clear frK
          have HYG' := Lib.hid (Own.mono HYG.out hb21)
          try clear HYG
          have HYG := HYG'
          clear HYG'
          try clear Jt0'''
          try clear Jt1''
          refine ⟨⟨hsF8sasasasdssdssmmsmsdssas.cellAt 0 rfl 0 rfl, hsF8sasasasdssdssmmsmsdssas.cellAt 0 rfl 1 rfl, hsF8sasasasdssdssmmsmsdssas.cellAt 1 rfl 0 rfl, hsF8sasasasdssdssmmsmsdssas.cellAt 1 rfl 1 rfl, hsF8sasasasdssdssmmsmsdssas.cellAt 1 rfl 2 rfl, hsF8sasasasdssdssmmsmsdssas.cellAt 2 rfl 0 rfl, hsF8sasasasdssdssmmsmsdssas.cellAt 2 rfl 1 rfl, hsF8sasasasdssdssmmsmsdssas.cellAt 3 rfl 0 rfl, hsF8sasasasdssdssmmsmsdssas.cellAt 3 rfl 1 rfl, hsF8sasasasdssdssmmsmsdssas.cellAt 4 rfl 0 rfl, hsF8sasasasdssdssmmsmsdssas.cellAt 4 rfl 1 rfl, hsF8sasasasdssdssmmsmsdssas.cellAt 4 rfl 2 rfl, hsF8sasasasdssdssmmsmsdssas.cellAt 5 rfl 0 rfl, hsF8sasasasdssdssmmsmsdssas.cellAt 5 rfl 1 rfl⟩, ?_⟩
          (repeat (first | (apply t4_skip rfl (by rfl); try simp only [Act.put, List.setIfInBounds_toArray, List.set_cons_zero, List.set_cons_succ]) | (apply t4_float rfl (by rfl); (· (intro w' hS; go_simp <;> with_reducible rfl)); (try simp only [Act.put, List.setIfInBounds_toArray, List.set_cons_zero, List.set_cons_succ]))))
          refine t4_hard rfl (by rfl) (fun K hK => ?_)
          have fF310 := hsF8sasasasdssdssmmsmsdssas.freeAt 6 rfl 0
          have cF310 := hsF8sasasasdssdssmmsmsdssas.cellAt 6 rfl 0 rfl
          have fF311 := hsF8sasasasdssdssmmsmsdssas.freeAt 6 rfl 1
          have cF311 := hsF8sasasasdssdssmmsmsdssas.cellAt 6 rfl 1 rfl
          go_wp2_with fail
          have hsF8sasasasdssdssmmsmsdssast := ((hsF8sasasasdssdssmmsmsdssas.set (p := [_, _, _, _, _, _]) (by simp <;> omega) 0 (.int .i64 r0)).set (p := [_, _, _, _, _, _]) (by simp <;> omega) 1 (.slice aK1 r1.length cK1))
          have JWF8'''''''''''''''''''''''' := Lib.hid (Iv.setOut (Iv.setOut JWF8'''''''''''''''''''''''.out (a := ⟨w20.heap.size, 0, none⟩) (by first | (left; simp only; first | done | omega) | (right; simp only; first | done | omega)) (.int .i64 r0)) (a := ⟨w20.heap.size, 1, none⟩) (by first | (left; simp only; first | done | omega) | (right; simp only; first | done | omega)) (.slice aK1 r1.length cK1))
          try clear JWF8'''''''''''''''''''''''
          have JK' := Lib.hid (Iv.setOut (Iv.setOut JK.out (a := ⟨w20.heap.size, 0, none⟩) (by first | (left; simp only; first | done | omega) | (right; simp only; first | done | omega)) (.int .i64 r0)) (a := ⟨w20.heap.size, 1, none⟩) (by first | (left; simp only; first | done | omega) | (right; simp only; first | done | omega)) (.slice aK1 r1.length cK1))
          try clear JK
          have HYG' := Lib.hid (own_setOut (own_setOut HYG.out (b := w20.heap.size) (o := 0) (fun hk => by have := hqG _ hk; omega) (.int .i64 r0)) (b := w20.heap.size) (o := 1) (fun hk => by have := hqG _ hk; omega) (.slice aK1 r1.length cK1))
          try clear HYG
          have HYG := HYG'
          clear HYG'
          clear fF310 cF310 fF311 cF311
          refine ⟨?_, ?_⟩
          · first | (have u9 : w21.cell? ⟨w.heap.size, 0, none⟩ = some (.int .i64 x00) ∧ w21.cell? ⟨w.heap.size, 1, none⟩ = some (.slice a01 x01.length c01) ∧ w21.cell? ⟨w.heap.size + 1, 0, none⟩ = some (.int .i64 x10) ∧ w21.cell? ⟨w.heap.size + 1, 1, none⟩ = some (.int .i64 x11) ∧ w21.cell? ⟨w.heap.size + 1, 2, none⟩ = some (.slice a12 x12.length c12) ∧ w21.cell? ⟨gUF8, 0, none⟩ = some (.int .i64 r0) ∧ w21.cell? ⟨gUF8, 1, none⟩ = some (.slice aW1 r1.length cW1) ∧ w21.cell? ⟨w6.heap.size, 0, none⟩ = some (.int .i64 x00) ∧ w21.cell? ⟨w6.heap.size, 1, none⟩ = some (.slice ax01 x01.length cx01) ∧ w21.cell? ⟨w7.heap.size, 0, none⟩ = some (.int .i64 x10) ∧ w21.cell? ⟨w7.heap.size, 1, none⟩ = some (.int .i64 x11) ∧ w21.cell? ⟨w7.heap.size, 2, none⟩ = some (.slice ax12 x12.length cx12) ∧ w21.cell? ⟨w8.heap.size, 0, none⟩ = some (.int .i64 r0) ∧ w21.cell? ⟨w8.heap.size, 1, none⟩ = some (.slice aG1 r1.length cG1) := ⟨hsF8sasasasdssdssmmsmsdssas.cellAt 0 rfl 0 rfl, hsF8sasasasdssdssmmsmsdssas.cellAt 0 rfl 1 rfl, hsF8sasasasdssdssmmsmsdssas.cellAt 1 rfl 0 rfl, hsF8sasasasdssdssmmsmsdssas.cellAt 1 rfl 1 rfl, hsF8sasasasdssdssmmsmsdssas.cellAt 1 rfl 2 rfl, hsF8sasasasdssdssmmsmsdssas.cellAt 2 rfl 0 rfl, hsF8sasasasdssdssmmsmsdssas.cellAt 2 rfl 1 rfl, hsF8sasasasdssdssmmsmsdssas.cellAt 3 rfl 0 rfl, hsF8sasasasdssdssmmsmsdssas.cellAt 3 rfl 1 rfl, hsF8sasasasdssdssmmsmsdssas.cellAt 4 rfl 0 rfl, hsF8sasasasdssdssmmsmsdssas.cellAt 4 rfl 1 rfl, hsF8sasasasdssdssmmsmsdssas.cellAt 4 rfl 2 rfl, hsF8sasasasdssdssmmsmsdssas.cellAt 5 rfl 0 rfl, hsF8sasasasdssdssmmsmsdssas.cellAt 5 rfl 1 rfl⟩; with_reducible exact u9) | (have u9 : ((w21.setCell ⟨w20.heap.size, 0, none⟩ (.int .i64 r0)).setCell ⟨w20.heap.size, 1, none⟩ (.slice aK1 r1.length cK1)).cell? ⟨w.heap.size, 0, none⟩ = some (.int .i64 x00) ∧ ((w21.setCell ⟨w20.heap.size, 0, none⟩ (.int .i64 r0)).setCell ⟨w20.heap.size, 1, none⟩ (.slice aK1 r1.length cK1)).cell? ⟨w.heap.size, 1, none⟩ = some (.slice a01 x01.length c01) ∧ ((w21.setCell ⟨w20.heap.size, 0, none⟩ (.int .i64 r0)).setCell ⟨w20.heap.size, 1, none⟩ (.slice aK1 r1.length cK1)).cell? ⟨w.heap.size + 1, 0, none⟩ = some (.int .i64 x10) ∧ ((w21.setCell ⟨w20.heap.size, 0, none⟩ (.int .i64 r0)).setCell ⟨w20.heap.size, 1, none⟩ (.slice aK1 r1.length cK1)).cell? ⟨w.heap.size + 1, 1, none⟩ = some (.int .i64 x11) ∧ ((w21.setCell ⟨w20.heap.size, 0, none⟩ (.int .i64 r0)).setCell ⟨w20.heap.size, 1, none⟩ (.slice aK1 r1.length cK1)).cell? ⟨w.heap.size + 1, 2, none⟩ = some (.slice a12 x12.length c12) ∧ ((w21.setCell ⟨w20.heap.size, 0, none⟩ (.int .i64 r0)).setCell ⟨w20.heap.size, 1, none⟩ (.slice aK1 r1.length cK1)).cell? ⟨gUF8, 0, none⟩ = some (.int .i64 r0) ∧ ((w21.setCell ⟨w20.heap.size, 0, none⟩ (.int .i64 r0)).setCell ⟨w20.heap.size, 1, none⟩ (.slice aK1 r1.length cK1)).cell? ⟨gUF8, 1, none⟩ = some (.slice aW1 r1.length cW1) ∧ ((w21.setCell ⟨w20.heap.size, 0, none⟩ (.int .i64 r0)).setCell ⟨w20.heap.size, 1, none⟩ (.slice aK1 r1.length cK1)).cell? ⟨w6.heap.size, 0, none⟩ = some (.int .i64 x00) ∧ ((w21.setCell ⟨w20.heap.size, 0, none⟩ (.int .i64 r0)).setCell ⟨w20.heap.size, 1, none⟩ (.slice aK1 r1.length cK1)).cell? ⟨w6.heap.size, 1, none⟩ = some (.slice ax01 x01.length cx01) ∧ ((w21.setCell ⟨w20.heap.size, 0, none⟩ (.int .i64 r0)).setCell ⟨w20.heap.size, 1, none⟩ (.slice aK1 r1.length cK1)).cell? ⟨w7.heap.size, 0, none⟩ = some (.int .i64 x10) ∧ ((w21.setCell ⟨w20.heap.size, 0, none⟩ (.int .i64 r0)).setCell ⟨w20.heap.size, 1, none⟩ (.slice aK1 r1.length cK1)).cell? ⟨w7.heap.size, 1, none⟩ = some (.int .i64 x11) ∧ ((w21.setCell ⟨w20.heap.size, 0, none⟩ (.int .i64 r0)).setCell ⟨w20.heap.size, 1, none⟩ (.slice aK1 r1.length cK1)).cell? ⟨w7.heap.size, 2, none⟩ = some (.slice ax12 x12.length cx12) ∧ ((w21.setCell ⟨w20.heap.size, 0, none⟩ (.int .i64 r0)).setCell ⟨w20.heap.size, 1, none⟩ (.slice aK1 r1.length cK1)).cell? ⟨w8.heap.size, 0, none⟩ = some (.int .i64 r0) ∧ ((w21.setCell ⟨w20.heap.size, 0, none⟩ (.int .i64 r0)).setCell ⟨w20.heap.size, 1, none⟩ (.slice aK1 r1.length cK1)).cell? ⟨w8.heap.size, 1, none⟩ = some (.slice aG1 r1.length cG1) := ⟨hsF8sasasasdssdssmmsmsdssast.cellAt 0 rfl 0 rfl, hsF8sasasasdssdssmmsmsdssast.cellAt 0 rfl 1 rfl, hsF8sasasasdssdssmmsmsdssast.cellAt 1 rfl 0 rfl, hsF8sasasasdssdssmmsmsdssast.cellAt 1 rfl 1 rfl, hsF8sasasasdssdssmmsmsdssast.cellAt 1 rfl 2 rfl, hsF8sasasasdssdssmmsmsdssast.cellAt 2 rfl 0 rfl, hsF8sasasasdssdssmmsmsdssast.cellAt 2 rfl 1 rfl, hsF8sasasasdssdssmmsmsdssast.cellAt 3 rfl 0 rfl, hsF8sasasasdssdssmmsmsdssast.cellAt 3 rfl 1 rfl, hsF8sasasasdssdssmmsmsdssast.cellAt 4 rfl 0 rfl, hsF8sasasasdssdssmmsmsdssast.cellAt 4 rfl 1 rfl, hsF8sasasasdssdssmmsmsdssast.cellAt 4 rfl 2 rfl, hsF8sasasasdssdssmmsmsdssast.cellAt 5 rfl 0 rfl, hsF8sasasasdssdssmmsmsdssast.cellAt 5 rfl 1 rfl⟩; with_reducible exact u9) | exact ⟨hsF8sasasasdssdssmmsmsdssast.cellAt 0 rfl 0 rfl, hsF8sasasasdssdssmmsmsdssast.cellAt 0 rfl 1 rfl, hsF8sasasasdssdssmmsmsdssast.cellAt 1 rfl 0 rfl, hsF8sasasasdssdssmmsmsdssast.cellAt 1 rfl 1 rfl, hsF8sasasasdssdssmmsmsdssast.cellAt 1 rfl 2 rfl, hsF8sasasasdssdssmmsmsdssast.cellAt 2 rfl 0 rfl, hsF8sasasasdssdssmmsmsdssast.cellAt 2 rfl 1 rfl, hsF8sasasasdssdssmmsmsdssast.cellAt 3 rfl 0 rfl, hsF8sasasasdssdssmmsmsdssast.cellAt 3 rfl 1 rfl, hsF8sasasasdssdssmmsmsdssast.cellAt 4 rfl 0 rfl, hsF8sasasasdssdssmmsmsdssast.cellAt 4 rfl 1 rfl, hsF8sasasasdssdssmmsmsdssast.cellAt 4 rfl 2 rfl, hsF8sasasasdssdssmmsmsdssast.cellAt 5 rfl 0 rfl, hsF8sasasasdssdssmmsmsdssast.cellAt 5 rfl 1 rfl⟩ | exact ⟨hsF8sasasasdssdssmmsmsdssas.cellAt 0 rfl 0 rfl, hsF8sasasasdssdssmmsmsdssas.cellAt 0 rfl 1 rfl, hsF8sasasasdssdssmmsmsdssas.cellAt 1 rfl 0 rfl, hsF8sasasasdssdssmmsmsdssas.cellAt 1 rfl 1 rfl, hsF8sasasasdssdssmmsmsdssas.cellAt 1 rfl 2 rfl, hsF8sasasasdssdssmmsmsdssas.cellAt 2 rfl 0 rfl, hsF8sasasasdssdssmmsmsdssas.cellAt 2 rfl 1 rfl, hsF8sasasasdssdssmmsmsdssas.cellAt 3 rfl 0 rfl, hsF8sasasasdssdssmmsmsdssas.cellAt 3 rfl 1 rfl, hsF8sasasasdssdssmmsmsdssas.cellAt 4 rfl 0 rfl, hsF8sasasasdssdssmmsmsdssas.cellAt 4 rfl 1 rfl, hsF8sasasasdssdssmmsmsdssas.cellAt 4 rfl 2 rfl, hsF8sasasasdssdssmmsmsdssas.cellAt 5 rfl 0 rfl, hsF8sasasasdssdssmmsmsdssas.cellAt 5 rfl 1 rfl⟩
          (repeat (first | (apply t4_skip rfl (by rfl); try simp only [Act.put, List.setIfInBounds_toArray, List.set_cons_zero, List.set_cons_succ]) | (apply t4_float rfl (by rfl); (· (intro w' hS; go_simp <;> with_reducible rfl)); (try simp only [Act.put, List.setIfInBounds_toArray, List.set_cons_zero, List.set_cons_succ]))))
          refine t4_nil (NoPanic.normal ?_)
          have hsF31 : St w ((w21.setCell ⟨w20.heap.size, 0, none⟩ (.int .i64 r0)).setCell ⟨w20.heap.size, 1, none⟩ (.slice aK1 r1.length cK1)).heap.size ((w21.setCell ⟨w20.heap.size, 0, none⟩ (.int .i64 r0)).setCell ⟨w20.heap.size, 1, none⟩ (.slice aK1 r1.length cK1)) [(w.heap.size, #[.int .i64 x00, .slice a01 x01.length c01], 24), (w.heap.size + 1, #[.int .i64 x10, .int .i64 x11, .slice a12 x12.length c12], 27), (gUF8, #[.int .i64 r0, .slice aW1 r1.length cW1], 32), (w6.heap.size, #[.int .i64 x00, .slice ax01 x01.length cx01], 37), (w7.heap.size, #[.int .i64 x10, .int .i64 x11, .slice ax12 x12.length cx12], 41), (w8.heap.size, #[.int .i64 r0, .slice aG1 r1.length cG1], 32), (w20.heap.size, #[.int .i64 r0, .slice aK1 r1.length cK1], 32)] := hsF8sasasasdssdssmmsmsdssast.up hsF8sasasasdssdssmmsmsdssast.hi (Nat.le_refl _)
          have hVF31 : w21.heap.size = ((w21.setCell ⟨w20.heap.size, 0, none⟩ (.int .i64 r0)).setCell ⟨w20.heap.size, 1, none⟩ (.slice aK1 r1.length cK1)).heap.size := by simp [World.setCell]
          obtain ⟨loUF31, hiUF31, hUF31, JUF31⟩ : ∃ lo hi : Nat, (w18.heap.size ≤ lo ∧ hi ≤ w21.heap.size ∧ (w20.heap.size < lo ∨ hi ≤ w20.heap.size) ∧ w18.heap.size ≤ w20.heap.size ∧ w20.heap.size < w21.heap.size) ∧ Hid (Iv lo hi ((w21.setCell ⟨w20.heap.size, 0, none⟩ (.int .i64 r0)).setCell ⟨w20.heap.size, 1, none⟩ (.slice aK1 r1.length cK1)) [.int .i64 r0, .slice aK1 r1.length cK1] (r0, r1)) := ⟨wF31A2.heap.size, w21.heap.size, by omega, JK'.out⟩
          rw [hVF31] at hUF31
          clear hVF31 JK'
          generalize hhwUF31 : ((w21.setCell ⟨w20.heap.size, 0, none⟩ (.int .i64 r0)).setCell ⟨w20.heap.size, 1, none⟩ (.slice aK1 r1.length cK1)) = wUF31 at hsF31 hUF31 JUF31 JWF8'''''''''''''''''''''''' HYG ⊢
          clear hhwUF31
          generalize hhgUF31 : w20.heap.size = gUF31 at hsF31 hUF31 JUF31 JWF8'''''''''''''''''''''''' HYG ⊢
          clear hhgUF31
          generalize at01 = zat01 at hsF31 hUF31 JUF31 JWF8'''''''''''''''''''''''' HYG ⊢
          generalize ct01 = zct01 at hsF31 hUF31 JUF31 JWF8'''''''''''''''''''''''' HYG ⊢
          generalize at12 = zat12 at hsF31 hUF31 JUF31 JWF8'''''''''''''''''''''''' HYG ⊢
          generalize ct12 = zct12 at hsF31 hUF31 JUF31 JWF8'''''''''''''''''''''''' HYG ⊢
          generalize aK1 = zaK1 at hsF31 hUF31 JUF31 JWF8'''''''''''''''''''''''' HYG ⊢
          generalize cK1 = zcK1 at hsF31 hUF31 JUF31 JWF8'''''''''''''''''''''''' HYG ⊢
          revert HYG
          revert JWF8''''''''''''''''''''''''
          revert JUF31
          revert hUF31
          revert hsF31
          revert zcK1
          revert zaK1
          revert zct12
          revert zat12
          revert zct01
          revert zat01
          revert hiUF31
          revert loUF31
          revert gUF31
          revert wUF31
          exact HJ.get
      · refine t4_hard rfl (by rfl) (fun K hK => ?_)
        go_wp2_with fail
        have hsF8sasasasdssdssmmsmsdsa := hsF8sasasasdssdssmmsmsds.alloc #[.int .i64 0, .slice none 0 0] 32 rfl
        have JWF8''''''''''''''''''''' := Lib.hid (Iv.mono JWF8''''''''''''''''''''.out (belowA _ (.cells #[.int .i64 0, .slice none 0 0] 32)))
        try clear JWF8''''''''''''''''''''
        have Jt0' := Lib.hid (Iv.mono Jt0.out (belowA _ (.cells #[.int .i64 0, .slice none 0 0] 32)))
        try clear Jt0
        have HYG' := Lib.hid (Own.mono HYG.out (belowA _ (.cells #[.int .i64 0, .slice none 0 0] 32)))
        try clear HYG
        have HYG := HYG'
        clear HYG'
        have hzF31A3 : w19.heap.size + 1 ≤ (w19.alloc (.cells #[.int .i64 0, .slice none 0 0] 32)).heap.size := by simp
        generalize hgenF31A3 : w19.alloc (.cells #[.int .i64 0, .slice none 0 0] 32) = wF31A3 at *
        have HGF31A3 := Lib.hid hgenF31A3
        clear hgenF31A3
        refine ⟨⟨hsF8sasasasdssdssmmsmsdsa.cellAt 0 rfl 0 rfl, hsF8sasasasdssdssmmsmsdsa.cellAt 0 rfl 1 rfl, hsF8sasasasdssdssmmsmsdsa.cellAt 1 rfl 0 rfl, hsF8sasasasdssdssmmsmsdsa.cellAt 1 rfl 1 rfl, hsF8sasasasdssdssmmsmsdsa.cellAt 1 rfl 2 rfl, hsF8sasasasdssdssmmsmsdsa.cellAt 2 rfl 0 rfl, hsF8sasasasdssdssmmsmsdsa.cellAt 2 rfl 1 rfl, hsF8sasasasdssdssmmsmsdsa.cellAt 3 rfl 0 rfl, hsF8sasasasdssdssmmsmsdsa.cellAt 3 rfl 1 rfl, hsF8sasasasdssdssmmsmsdsa.cellAt 4 rfl 0 rfl, hsF8sasasasdssdssmmsmsdsa.cellAt 4 rfl 1 rfl, hsF8sasasasdssdssmmsmsdsa.cellAt 4 rfl 2 rfl, hsF8sasasasdssdssmmsmsdsa.cellAt 5 rfl 0 rfl, hsF8sasasasdssdssmmsmsdsa.cellAt 5 rfl 1 rfl⟩, ?_⟩
        (repeat (first | (apply t4_skip rfl (by rfl); try simp only [Act.put, List.setIfInBounds_toArray, List.set_cons_zero, List.set_cons_succ]) | (apply t4_float rfl (by rfl); (· (intro w' hS; go_simp <;> with_reducible rfl)); (try simp only [Act.put, List.setIfInBounds_toArray, List.set_cons_zero, List.set_cons_succ]))))
        refine t4_hard rfl (by rfl) (fun K hK => ?_)
        go_wp2_with (go_at_call 8; refine (toFormula_b (x10, x11, x12) _ _ _ _ (Rd.mono H1.out hsF8sasasasdssdssmmsmsdsa.bel) gc1).mono ?_; rintro e w20 ⟨ut10, ut11, ut12, rfl, frt1, hb20⟩)
        have JWF8'''''''''''''''''''''' := Lib.hid (Iv.mono JWF8'''''''''''''''''''''.out hb20)
        try clear JWF8'''''''''''''''''''''
        have Jt0'' := Lib.hid (Iv.mono Jt0'.out hb20)
        try clear Jt0'
        have hsF8sasasasdssdssmmsmsdsas := hsF8sasasasdssdssmmsmsdsa.step hb20
        have hz17 : wF31A3.heap.size ≤ w20.heap.size := by simpa using hb20.size
        have Jt1 := Lib.hid (Fresh.iv frt1)
        have zt10 := rd_cons rfl (Iv.rd Jt1.out)
        obtain ⟨rfl, _⟩ := rd_i1 zt10.1
        have zt11 := rd_cons rfl zt10.2
        obtain ⟨rfl, _⟩ := rd_i1 zt11.1
        obtain ⟨at12, ct12, rfl, _⟩ := rd_list zt11.2
        clear zt10 zt11
        clear frt1
        refine ⟨⟨hsF8sasasasdssdssmmsmsdsas.cellAt 0 rfl 0 rfl, hsF8sasasasdssdssmmsmsdsas.cellAt 0 rfl 1 rfl, hsF8sasasasdssdssmmsmsdsas.cellAt 1 rfl 0 rfl, hsF8sasasasdssdssmmsmsdsas.cellAt 1 rfl 1 rfl, hsF8sasasasdssdssmmsmsdsas.cellAt 1 rfl 2 rfl, hsF8sasasasdssdssmmsmsdsas.cellAt 2 rfl 0 rfl, hsF8sasasasdssdssmmsmsdsas.cellAt 2 rfl 1 rfl, hsF8sasasasdssdssmmsmsdsas.cellAt 3 rfl 0 rfl, hsF8sasasasdssdssmmsmsdsas.cellAt 3 rfl 1 rfl, hsF8sasasasdssdssmmsmsdsas.cellAt 4 rfl 0 rfl, hsF8sasasasdssdssmmsmsdsas.cellAt 4 rfl 1 rfl, hsF8sasasasdssdssmmsmsdsas.cellAt 4 rfl 2 rfl, hsF8sasasasdssdssmmsmsdsas.cellAt 5 rfl 0 rfl, hsF8sasasasdssdssmmsmsdsas.cellAt 5 rfl 1 rfl⟩, ?_⟩
        (repeat (first | (apply t4_skip rfl (by rfl); try simp only [Act.put, List.setIfInBounds_toArray, List.set_cons_zero, List.set_cons_succ]) | (apply t4_float rfl (by rfl); (· (intro w' hS; go_simp <;> with_reducible rfl)); (try simp only [Act.put, List.setIfInBounds_toArray, List.set_cons_zero, List.set_cons_succ]))))
        have HYG' := Lib.hid (Own.mono HYG.out hb20)
        try clear HYG
        have HYG := HYG'
        clear HYG'
        refine t4_hard rfl (by rfl) (fun K hK => ?_)
        go_wp2_with (go_at_call 9; refine (CI.out _ _ _ _ _ _ (Iv.rd Jt0''.out) (Iv.rd Jt1.out)).mono ?_; rintro e w21 ⟨uK0, uK1, rfl, frK, hb21⟩)
        have JWF8''''''''''''''''''''''' := Lib.hid (Iv.mono JWF8''''''''''''''''''''''.out hb21)
        try clear JWF8''''''''''''''''''''''
        have Jt0''' := Lib.hid (Iv.mono Jt0''.out hb21)
        try clear Jt0''
        have Jt1' := Lib.hid (Iv.mono Jt1.out hb21)
        try clear Jt1
        have hsF8sasasasdssdssmmsmsdsass := hsF8sasasasdssdssmmsmsdsas.step hb21
        have hz18 : w20.heap.size ≤ w21.heap.size := by simpa using hb21.size
        have JK := Lib.hid (Fresh.iv frK)
        have zK0 := rd_cons rfl (Iv.rd JK.out)
        obtain ⟨rfl, _⟩ := rd_i1 zK0.1
        obtain ⟨aK1, cK1, rfl, _⟩ := rd_list zK0.2
        clear zK0
        clear frK
        have HYG' := Lib.hid (Own.mono HYG.out hb21)
        try clear HYG
        have HYG := HYG'
        clear HYG'
        try clear Jt0'''
        try clear Jt1'
        refine ⟨⟨hsF8sasasasdssdssmmsmsdsass.cellAt 0 rfl 0 rfl, hsF8sasasasdssdssmmsmsdsass.cellAt 0 rfl 1 rfl, hsF8sasasasdssdssmmsmsdsass.cellAt 1 rfl 0 rfl, hsF8sasasasdssdssmmsmsdsass.cellAt 1 rfl 1 rfl, hsF8sasasasdssdssmmsmsdsass.cellAt 1 rfl 2 rfl, hsF8sasasasdssdssmmsmsdsass.cellAt 2 rfl 0 rfl, hsF8sasasasdssdssmmsmsdsass.cellAt 2 rfl 1 rfl, hsF8sasasasdssdssmmsmsdsass.cellAt 3 rfl 0 rfl, hsF8sasasasdssdssmmsmsdsass.cellAt 3 rfl 1 rfl, hsF8sasasasdssdssmmsmsdsass.cellAt 4 rfl 0 rfl, hsF8sasasasdssdssmmsmsdsass.cellAt 4 rfl 1 rfl, hsF8sasasasdssdssmmsmsdsass.cellAt 4 rfl 2 rfl, hsF8sasasasdssdssmmsmsdsass.cellAt 5 rfl 0 rfl, hsF8sasasasdssdssmmsmsdsass.cellAt 5 rfl 1 rfl⟩, ?_⟩
        (repeat (first | (apply t4_skip rfl (by rfl); try simp only [Act.put, List.setIfInBounds_toArray, List.set_cons_zero, List.set_cons_succ]) | (apply t4_float rfl (by rfl); (· (intro w' hS; go_simp <;> with_reducible rfl)); (try simp only [Act.put, List.setIfInBounds_toArray, List.set_cons_zero, List.set_cons_succ]))))
        refine t4_hard rfl (by rfl) (fun K hK => ?_)
        have fF310 := hsF8sasasasdssdssmmsmsdsass.freeAt 6 rfl 0
        have cF310 := hsF8sasasasdssdssmmsmsdsass.cellAt 6 rfl 0 rfl
        have fF311 := hsF8sasasasdssdssmmsmsdsass.freeAt 6 rfl 1
        have cF311 := hsF8sasasasdssdssmmsmsdsass.cellAt 6 rfl 1 rfl
        go_wp2_with fail
        have hsF8sasasasdssdssmmsmsdsasst := ((hsF8sasasasdssdssmmsmsdsass.set (p := [_, _, _, _, _, _]) (by simp <;> omega) 0 (.int .i64 r0)).set (p := [_, _, _, _, _, _]) (by simp <;> omega) 1 (.slice aK1 r1.length cK1))
        have JWF8'''''''''''''''''''''''' := Lib.hid (Iv.setOut (Iv.setOut JWF8'''''''''''''''''''''''.out (a := ⟨w19.heap.size, 0, none⟩) (by first | (left; simp only; first | done | omega) | (right; simp only; first | done | omega)) (.int .i64 r0)) (a := ⟨w19.heap.size, 1, none⟩) (by first | (left; simp only; first | done | omega) | (right; simp only; first | done | omega)) (.slice aK1 r1.length cK1))
        try clear JWF8'''''''''''''''''''''''
        have JK' := Lib.hid (Iv.setOut (Iv.setOut JK.out (a := ⟨w19.heap.size, 0, none⟩) (by first | (left; simp only; first | done | omega) | (right; simp only; first | done | omega)) (.int .i64 r0)) (a := ⟨w19.heap.size, 1, none⟩) (by first | (left; simp only; first | done | omega) | (right; simp only; first | done | omega)) (.slice aK1 r1.length cK1))
        try clear JK
        have HYG' := Lib.hid (own_setOut (own_setOut HYG.out (b := w19.heap.size) (o := 0) (fun hk => by have := hqG _ hk; omega) (.int .i64 r0)) (b := w19.heap.size) (o := 1) (fun hk => by have := hqG _ hk; omega) (.slice aK1 r1.length cK1))
        try clear HYG
        have HYG := HYG'
        clear HYG'
        clear fF310 cF310 fF311 cF311
        refine ⟨?_, ?_⟩
        · first | (have u9 : w21.cell? ⟨w.heap.size, 0, none⟩ = some (.int .i64 x00) ∧ w21.cell? ⟨w.heap.size, 1, none⟩ = some (.slice a01 x01.length c01) ∧ w21.cell? ⟨w.heap.size + 1, 0, none⟩ = some (.int .i64 x10) ∧ w21.cell? ⟨w.heap.size + 1, 1, none⟩ = some (.int .i64 x11) ∧ w21.cell? ⟨w.heap.size + 1, 2, none⟩ = some (.slice a12 x12.length c12) ∧ w21.cell? ⟨gUF8, 0, none⟩ = some (.int .i64 r0) ∧ w21.cell? ⟨gUF8, 1, none⟩ = some (.slice aW1 r1.length cW1) ∧ w21.cell? ⟨w6.heap.size, 0, none⟩ = some (.int .i64 x00) ∧ w21.cell? ⟨w6.heap.size, 1, none⟩ = some (.slice ax01 x01.length cx01) ∧ w21.cell? ⟨w7.heap.size, 0, none⟩ = some (.int .i64 x10) ∧ w21.cell? ⟨w7.heap.size, 1, none⟩ = some (.int .i64 x11) ∧ w21.cell? ⟨w7.heap.size, 2, none⟩ = some (.slice ax12 x12.length cx12) ∧ w21.cell? ⟨w8.heap.size, 0, none⟩ = some (.int .i64 r0) ∧ w21.cell? ⟨w8.heap.size, 1, none⟩ = some (.slice aG1 r1.length cG1) := ⟨hsF8sasasasdssdssmmsmsdsass.cellAt 0 rfl 0 rfl, hsF8sasasasdssdssmmsmsdsass.cellAt 0 rfl 1 rfl, hsF8sasasasdssdssmmsmsdsass.cellAt 1 rfl 0 rfl, hsF8sasasasdssdssmmsmsdsass.cellAt 1 rfl 1 rfl, hsF8sasasasdssdssmmsmsdsass.cellAt 1 rfl 2 rfl, hsF8sasasasdssdssmmsmsdsass.cellAt 2 rfl 0 rfl, hsF8sasasasdssdssmmsmsdsass.cellAt 2 rfl 1 rfl, hsF8sasasasdssdssmmsmsdsass.cellAt 3 rfl 0 rfl, hsF8sasasasdssdssmmsmsdsass.cellAt 3 rfl 1 rfl, hsF8sasasasdssdssmmsmsdsass.cellAt 4 rfl 0 rfl, hsF8sasasasdssdssmmsmsdsass.cellAt 4 rfl 1 rfl, hsF8sasasasdssdssmmsmsdsass.cellAt 4 rfl 2 rfl, hsF8sasasasdssdssmmsmsdsass.cellAt 5 rfl 0 rfl, hsF8sasasasdssdssmmsmsdsass.cellAt 5 rfl 1 rfl⟩; with_reducible exact u9) | (have u9 : ((w21.setCell ⟨w19.heap.size, 0, none⟩ (.int .i64 r0)).setCell ⟨w19.heap.size, 1, none⟩ (.slice aK1 r1.length cK1)).cell? ⟨w.heap.size, 0, none⟩ = some (.int .i64 x00) ∧ ((w21.setCell ⟨w19.heap.size, 0, none⟩ (.int .i64 r0)).setCell ⟨w19.heap.size, 1, none⟩ (.slice aK1 r1.length cK1)).cell? ⟨w.heap.size, 1, none⟩ = some (.slice a01 x01.length c01) ∧ ((w21.setCell ⟨w19.heap.size, 0, none⟩ (.int .i64 r0)).setCell ⟨w19.heap.size, 1, none⟩ (.slice aK1 r1.length cK1)).cell? ⟨w.heap.size + 1, 0, none⟩ = some (.int .i64 x10) ∧ ((w21.setCell ⟨w19.heap.size, 0, none⟩ (.int .i64 r0)).setCell ⟨w19.heap.size, 1, none⟩ (.slice aK1 r1.length cK1)).cell? ⟨w.heap.size + 1, 1, none⟩ = some (.int .i64 x11) ∧ ((w21.setCell ⟨w19.heap.size, 0, none⟩ (.int .i64 r0)).setCell ⟨w19.heap.size, 1, none⟩ (.slice aK1 r1.length cK1)).cell? ⟨w.heap.size + 1, 2, none⟩ = some (.slice a12 x12.length c12) ∧ ((w21.setCell ⟨w19.heap.size, 0, none⟩ (.int .i64 r0)).setCell ⟨w19.heap.size, 1, none⟩ (.slice aK1 r1.length cK1)).cell? ⟨gUF8, 0, none⟩ = some (.int .i64 r0) ∧ ((w21.setCell ⟨w19.heap.size, 0, none⟩ (.int .i64 r0)).setCell ⟨w19.heap.size, 1, none⟩ (.slice aK1 r1.length cK1)).cell? ⟨gUF8, 1, none⟩ = some (.slice aW1 r1.length cW1) ∧ ((w21.setCell ⟨w19.heap.size, 0, none⟩ (.int .i64 r0)).setCell ⟨w19.heap.size, 1, none⟩ (.slice aK1 r1.length cK1)).cell? ⟨w6.heap.size, 0, none⟩ = some (.int .i64 x00) ∧ ((w21.setCell ⟨w19.heap.size, 0, none⟩ (.int .i64 r0)).setCell ⟨w19.heap.size, 1, none⟩ (.slice aK1 r1.length cK1)).cell? ⟨w6.heap.size, 1, none⟩ = some (.slice ax01 x01.length cx01) ∧ ((w21.setCell ⟨w19.heap.size, 0, none⟩ (.int .i64 r0)).setCell ⟨w19.heap.size, 1, none⟩ (.slice aK1 r1.length cK1)).cell? ⟨w7.heap.size, 0, none⟩ = some (.int .i64 x10) ∧ ((w21.setCell ⟨w19.heap.size, 0, none⟩ (.int .i64 r0)).setCell ⟨w19.heap.size, 1, none⟩ (.slice aK1 r1.length cK1)).cell? ⟨w7.heap.size, 1, none⟩ = some (.int .i64 x11) ∧ ((w21.setCell ⟨w19.heap.size, 0, none⟩ (.int .i64 r0)).setCell ⟨w19.heap.size, 1, none⟩ (.slice aK1 r1.length cK1)).cell? ⟨w7.heap.size, 2, none⟩ = some (.slice ax12 x12.length cx12) ∧ ((w21.setCell ⟨w19.heap.size, 0, none⟩ (.int .i64 r0)).setCell ⟨w19.heap.size, 1, none⟩ (.slice aK1 r1.length cK1)).cell? ⟨w8.heap.size, 0, none⟩ = some (.int .i64 r0) ∧ ((w21.setCell ⟨w19.heap.size, 0, none⟩ (.int .i64 r0)).setCell ⟨w19.heap.size, 1, none⟩ (.slice aK1 r1.length cK1)).cell? ⟨w8.heap.size, 1, none⟩ = some (.slice aG1 r1.length cG1) := ⟨hsF8sasasasdssdssmmsmsdsasst.cellAt 0 rfl 0 rfl, hsF8sasasasdssdssmmsmsdsasst.cellAt 0 rfl 1 rfl, hsF8sasasasdssdssmmsmsdsasst.cellAt 1 rfl 0 rfl, hsF8sasasasdssdssmmsmsdsasst.cellAt 1 rfl 1 rfl, hsF8sasasasdssdssmmsmsdsasst.cellAt 1 rfl 2 rfl, hsF8sasasasdssdssmmsmsdsasst.cellAt 2 rfl 0 rfl, hsF8sasasasdssdssmmsmsdsasst.cellAt 2 rfl 1 rfl, hsF8sasasasdssdssmmsmsdsasst.cellAt 3 rfl 0 rfl, hsF8sasasasdssdssmmsmsdsasst.cellAt 3 rfl 1 rfl, hsF8sasasasdssdssmmsmsdsasst.cellAt 4 rfl 0 rfl, hsF8sasasasdssdssmmsmsdsasst.cellAt 4 rfl 1 rfl, hsF8sasasasdssdssmmsmsdsasst.cellAt 4 rfl 2 rfl, hsF8sasasasdssdssmmsmsdsasst.cellAt 5 rfl 0 rfl, hsF8sasasasdssdssmmsmsdsasst.cellAt 5 rfl 1 rfl⟩; with_reducible exact u9) | exact ⟨hsF8sasasasdssdssmmsmsdsasst.cellAt 0 rfl 0 rfl, hsF8sasasasdssdssmmsmsdsasst.cellAt 0 rfl 1 rfl, hsF8sasasasdssdssmmsmsdsasst.cellAt 1 rfl 0 rfl, hsF8sasasasdssdssmmsmsdsasst.cellAt 1 rfl 1 rfl, hsF8sasasasdssdssmmsmsdsasst.cellAt 1 rfl 2 rfl, hsF8sasasasdssdssmmsmsdsasst.cellAt 2 rfl 0 rfl, hsF8sasasasdssdssmmsmsdsasst.cellAt 2 rfl 1 rfl, hsF8sasasasdssdssmmsmsdsasst.cellAt 3 rfl 0 rfl, hsF8sasasasdssdssmmsmsdsasst.cellAt 3 rfl 1 rfl, hsF8sasasasdssdssmmsmsdsasst.cellAt 4 rfl 0 rfl, hsF8sasasasdssdssmmsmsdsasst.cellAt 4 rfl 1 rfl, hsF8sasasasdssdssmmsmsdsasst.cellAt 4 rfl 2 rfl, hsF8sasasasdssdssmmsmsdsasst.cellAt 5 rfl 0 rfl, hsF8sasasasdssdssmmsmsdsasst.cellAt 5 rfl 1 rfl⟩ | exact ⟨hsF8sasasasdssdssmmsmsdsass.cellAt 0 rfl 0 rfl, hsF8sasasasdssdssmmsmsdsass.cellAt 0 rfl 1 rfl, hsF8sasasasdssdssmmsmsdsass.cellAt 1 rfl 0 rfl, hsF8sasasasdssdssmmsmsdsass.cellAt 1 rfl 1 rfl, hsF8sasasasdssdssmmsmsdsass.cellAt 1 rfl 2 rfl, hsF8sasasasdssdssmmsmsdsass.cellAt 2 rfl 0 rfl, hsF8sasasasdssdssmmsmsdsass.cellAt 2 rfl 1 rfl, hsF8sasasasdssdssmmsmsdsass.cellAt 3 rfl 0 rfl, hsF8sasasasdssdssmmsmsdsass.cellAt 3 rfl 1 rfl, hsF8sasasasdssdssmmsmsdsass.cellAt 4 rfl 0 rfl, hsF8sasasasdssdssmmsmsdsass.cellAt 4 rfl 1 rfl, hsF8sasasasdssdssmmsmsdsass.cellAt 4 rfl 2 rfl, hsF8sasasasdssdssmmsmsdsass.cellAt 5 rfl 0 rfl, hsF8sasasasdssdssmmsmsdsass.cellAt 5 rfl 1 rfl⟩
        (repeat (first | (apply t4_skip rfl (by rfl); try simp only [Act.put, List.setIfInBounds_toArray, List.set_cons_zero, List.set_cons_succ]) | (apply t4_float rfl (by rfl); (· (intro w' hS; go_simp <;> with_reducible rfl)); (try simp only [Act.put, List.setIfInBounds_toArray, List.set_cons_zero, List.set_cons_succ]))))
        refine t4_nil (NoPanic.normal ?_)
        have hsF31 : St w ((w21.setCell ⟨w19.heap.size, 0, none⟩ (.int .i64 r0)).setCell ⟨w19.heap.size, 1, none⟩ (.slice aK1 r1.length cK1)).heap.size ((w21.setCell ⟨w19.heap.size, 0, none⟩ (.int .i64 r0)).setCell ⟨w19.heap.size, 1, none⟩ (.slice aK1 r1.length cK1)) [(w.heap.size, #[.int .i64 x00, .slice a01 x01.length c01], 24), (w.heap.size + 1, #[.int .i64 x10, .int .i64 x11, .slice a12 x12.length c12], 27), (gUF8, #[.int .i64 r0, .slice aW1 r1.length cW1], 32), (w6.heap.size, #[.int .i64 x00, .slice ax01 x01.length cx01], 37), (w7.heap.size, #[.int .i64 x10, .int .i64 x11, .slice ax12 x12.length cx12], 41), (w8.heap.size, #[.int .i64 r0, .slice aG1 r1.length cG1], 32), (w19.heap.size, #[.int .i64 r0, .slice aK1 r1.length cK1], 32)] := hsF8sasasasdssdssmmsmsdsasst.up hsF8sasasasdssdssmmsmsdsasst.hi (Nat.le_refl _)
        have hVF31 : w21.heap.size = ((w21.setCell ⟨w19.heap.size, 0, none⟩ (.int .i64 r0)).setCell ⟨w19.heap.size, 1, none⟩ (.slice aK1 r1.length cK1)).heap.size := by simp [World.setCell]
        obtain ⟨loUF31, hiUF31, hUF31, JUF31⟩ : ∃ lo hi : Nat, (w18.heap.size ≤ lo ∧ hi ≤ w21.heap.size ∧ (w19.heap.size < lo ∨ hi ≤ w19.heap.size) ∧ w18.heap.size ≤ w19.heap.size ∧ w19.heap.size < w21.heap.size) ∧ Hid (Iv lo hi ((w21.setCell ⟨w19.heap.size, 0, none⟩ (.int .i64 r0)).setCell ⟨w19.heap.size, 1, none⟩ (.slice aK1 r1.length cK1)) [.int .i64 r0, .slice aK1 r1.length cK1] (r0, r1)) := ⟨w20.heap.size, w21.heap.size, by omega, JK'.out⟩
        rw [hVF31] at hUF31
        clear hVF31 JK'
        generalize hhwUF31 : ((w21.setCell ⟨w19.heap.size, 0, none⟩ (.int .i64 r0)).setCell ⟨w19.heap.size, 1, none⟩ (.slice aK1 r1.length cK1)) = wUF31 at hsF31 hUF31 JUF31 JWF8'''''''''''''''''''''''' HYG ⊢
        clear hhwUF31
        generalize hhgUF31 : w19.heap.size = gUF31 at hsF31 hUF31 JUF31 JWF8'''''''''''''''''''''''' HYG ⊢
        clear hhgUF31
        generalize at01 = zat01 at hsF31 hUF31 JUF31 JWF8'''''''''''''''''''''''' HYG ⊢
        generalize ct01 = zct01 at hsF31 hUF31 JUF31 JWF8'''''''''''''''''''''''' HYG ⊢
        generalize at12 = zat12 at hsF31 hUF31 JUF31 JWF8'''''''''''''''''''''''' HYG ⊢
        generalize ct12 = zct12 at hsF31 hUF31 JUF31 JWF8'''''''''''''''''''''''' HYG ⊢
        generalize aK1 = zaK1 at hsF31 hUF31 JUF31 JWF8'''''''''''''''''''''''' HYG ⊢
        generalize cK1 = zcK1 at hsF31 hUF31 JUF31 JWF8'''''''''''''''''''''''' HYG ⊢
        revert HYG
        revert JWF8''''''''''''''''''''''''
        revert JUF31
        revert hUF31
        revert hsF31
        revert zcK1
        revert zaK1
        revert zct12
        revert zat12
        revert zct01
        revert zat01
        revert hiUF31
        revert loUF31
        revert gUF31
        revert wUF31
        exact HJ.get
    · refine t4_hard rfl (by rfl) (fun K hK => ?_)
      go_wp2_with fail
      have hsF8sasasasdssdssmmsmsda := hsF8sasasasdssdssmmsmsd.alloc #[.int .i64 0, .slice none 0 0] 32 rfl
      have JWF8'''''''''''''''''''' := Lib.hid (Iv.mono JWF8'''''''''''''''''''.out (belowA _ (.cells #[.int .i64 0, .slice none 0 0] 32)))
      try clear JWF8'''''''''''''''''''
      have HYG' := Lib.hid (Own.mono HYG.out (belowA _ (.cells #[.int .i64 0, .slice none 0 0] 32)))
      try clear HYG
      have HYG := HYG'
      clear HYG'
      have hzF31A4 : wF31.heap.size + 1 ≤ (wF31.alloc (.cells #[.int .i64 0, .slice none 0 0] 32)).heap.size := by simp
      generalize hgenF31A4 : wF31.alloc (.cells #[.int .i64 0, .slice none 0 0] 32) = wF31A4 at *
      have HGF31A4 := Lib.hid hgenF31A4
      clear hgenF31A4
      refine ⟨⟨hsF8sasasasdssdssmmsmsda.cellAt 0 rfl 0 rfl, hsF8sasasasdssdssmmsmsda.cellAt 0 rfl 1 rfl, hsF8sasasasdssdssmmsmsda.cellAt 1 rfl 0 rfl, hsF8sasasasdssdssmmsmsda.cellAt 1 rfl 1 rfl, hsF8sasasasdssdssmmsmsda.cellAt 1 rfl 2 rfl, hsF8sasasasdssdssmmsmsda.cellAt 2 rfl 0 rfl, hsF8sasasasdssdssmmsmsda.cellAt 2 rfl 1 rfl, hsF8sasasasdssdssmmsmsda.cellAt 3 rfl 0 rfl, hsF8sasasasdssdssmmsmsda.cellAt 3 rfl 1 rfl, hsF8sasasasdssdssmmsmsda.cellAt 4 rfl 0 rfl, hsF8sasasasdssdssmmsmsda.cellAt 4 rfl 1 rfl, hsF8sasasasdssdssmmsmsda.cellAt 4 rfl 2 rfl, hsF8sasasasdssdssmmsmsda.cellAt 5 rfl 0 rfl, hsF8sasasasdssdssmmsmsda.cellAt 5 rfl 1 rfl⟩, ?_⟩
      (repeat (first | (apply t4_skip rfl (by rfl); try simp only [Act.put, List.setIfInBounds_toArray, List.set_cons_zero, List.set_cons_succ]) | (apply t4_float rfl (by rfl); (· (intro w' hS; go_simp <;> with_reducible rfl)); (try simp only [Act.put, List.setIfInBounds_toArray, List.set_cons_zero, List.set_cons_succ]))))
      refine t4_hard rfl (by rfl) (fun K hK => ?_)
      go_wp2_with (go_at_call 7; refine (toTemplate_b (x00, x01) _ _ _ (Rd.mono H0.out hsF8sasasasdssdssmmsmsda.bel) gc0).mono ?_; rintro e w19 ⟨ut00, ut01, rfl, frt0, hb19⟩)
      have JWF8''''''''''''''''''''' := Lib.hid (Iv.mono JWF8''''''''''''''''''''.out hb19)
      try clear JWF8''''''''''''''''''''
      have hsF8sasasasdssdssmmsmsdas := hsF8sasasasdssdssmmsmsda.step hb19
      have hz16 : wF31A4.heap.size ≤ w19.heap.size := by simpa using hb19.size
      have Jt0 := Lib.hid (Fresh.iv frt0)
      have zt00 := rd_cons rfl (Iv.rd Jt0.out)
      obtain ⟨rfl, _⟩ := rd_i1 zt00.1
      obtain ⟨at01, ct01, rfl, _⟩ := rd_list zt00.2
      clear zt00
      clear frt0
      refine ⟨⟨hsF8sasasasdssdssmmsmsdas.cellAt 0 rfl 0 rfl, hsF8sasasasdssdssmmsmsdas.cellAt 0 rfl 1 rfl, hsF8sasasasdssdssmmsmsdas.cellAt 1 rfl 0 rfl, hsF8sasasasdssdssmmsmsdas.cellAt 1 rfl 1 rfl, hsF8sasasasdssdssmmsmsdas.cellAt 1 rfl 2 rfl, hsF8sasasasdssdssmmsmsdas.cellAt 2 rfl 0 rfl, hsF8sasasasdssdssmmsmsdas.cellAt 2 rfl 1 rfl, hsF8sasasasdssdssmmsmsdas.cellAt 3 rfl 0 rfl, hsF8sasasasdssdssmmsmsdas.cellAt 3 rfl 1 rfl, hsF8sasasasdssdssmmsmsdas.cellAt 4 rfl 0 rfl, hsF8sasasasdssdssmmsmsdas.cellAt 4 rfl 1 rfl, hsF8sasasasdssdssmmsmsdas.cellAt 4 rfl 2 rfl, hsF8sasasasdssdssmmsmsdas.cellAt 5 rfl 0 rfl, hsF8sasasasdssdssmmsmsdas.cellAt 5 rfl 1 rfl⟩, ?_⟩
      (repeat (first | (apply t4_skip rfl (by rfl); try simp only [Act.put, List.setIfInBounds_toArray, List.set_cons_zero, List.set_cons_succ]) | (apply t4_float rfl (by rfl); (· (intro w' hS; go_simp <;> with_reducible rfl)); (try simp only [Act.put, List.setIfInBounds_toArray, List.set_cons_zero, List.set_cons_succ]))))
      have HYG' := Lib.hid (Own.mono HYG.out hb19)
      try clear HYG
      have HYG := HYG'
      clear HYG'
      refine t4_hard rfl (by rfl) (fun K hK => ?_)
      go_wp2_with (go_at_call 8; refine (toFormula_b (x10, x11, x12) _ _ _ _ (Rd.mono H1.out hsF8sasasasdssdssmmsmsdas.bel) gc1).mono ?_; rintro e w20 ⟨ut10, ut11, ut12, rfl, frt1, hb20⟩)
      have JWF8'''''''''''''''''''''' := Lib.hid (Iv.mono JWF8'''''''''''''''''''''.out hb20)
      try clear JWF8'''''''''''''''''''''
      have Jt0' := Lib.hid (Iv.mono Jt0.out hb20)
      try clear Jt0
      have hsF8sasasasdssdssmmsmsdass := hsF8sasasasdssdssmmsmsdas.step hb20
      have hz17 : w19.heap.size ≤ w20.heap.size := by simpa using hb20.size
      have Jt1 := Lib.hid (Fresh.iv frt1)
      have zt10 := rd_cons rfl (Iv.rd Jt1.out)
      obtain ⟨rfl, _⟩ := rd_i1 zt10.1
      have zt11 := rd_cons rfl zt10.2
      obtain ⟨rfl, _⟩ := rd_i1 zt11.1
      obtain ⟨at12, ct12, rfl, _⟩ := rd_list zt11.2
      clear zt10 zt11
      clear frt1
      refine ⟨⟨hsF8sasasasdssdssmmsmsdass.cellAt 0 rfl 0 rfl, hsF8sasasasdssdssmmsmsdass.cellAt 0 rfl 1 rfl, hsF8sasasasdssdssmmsmsdass.cellAt 1 rfl 0 rfl, hsF8sasasasdssdssmmsmsdass.cellAt 1 rfl 1 rfl, hsF8sasasasdssdssmmsmsdass.cellAt 1 rfl 2 rfl, hsF8sasasasdssdssmmsmsdass.cellAt 2 rfl 0 rfl, hsF8sasasasdssdssmmsmsdass.cellAt 2 rfl 1 rfl, hsF8sasasasdssdssmmsmsdass.cellAt 3 rfl 0 rfl, hsF8sasasasdssdssmmsmsdass.cellAt 3 rfl 1 rfl, hsF8sasasasdssdssmmsmsdass.cellAt 4 rfl 0 rfl, hsF8sasasasdssdssmmsmsdass.cellAt 4 rfl 1 rfl, hsF8sasasasdssdssmmsmsdass.cellAt 4 rfl 2 rfl, hsF8sasasasdssdssmmsmsdass.cellAt 5 rfl 0 rfl, hsF8sasasasdssdssmmsmsdass.cellAt 5 rfl 1 rfl⟩, ?_⟩
      (repeat (first | (apply t4_skip rfl (by rfl); try simp only [Act.put, List.setIfInBounds_toArray, List.set_cons_zero, List.set_cons_succ]) | (apply t4_float rfl (by rfl); (· (intro w' hS; go_simp <;> with_reducible rfl)); (try simp only [Act.put, List.setIfInBounds_toArray, List.set_cons_zero, List.set_cons_succ]))))
      have HYG' := Lib.hid (Own.mono HYG.out hb20)
      try clear HYG
      have HYG := HYG'
      clear HYG'
      refine t4_hard rfl (by rfl) (fun K hK => ?_)
      go_wp2_with (go_at_call 9; refine (CI.out _ _ _ _ _ _ (Iv.rd Jt0'.out) (Iv.rd Jt1.out)).mono ?_; rintro e w21 ⟨uK0, uK1, rfl, frK, hb21⟩)
      have JWF8''''''''''''''''''''''' := Lib.hid (Iv.mono JWF8''''''''''''''''''''''.out hb21)
      try clear JWF8''''''''''''''''''''''
      have Jt0'' := Lib.hid (Iv.mono Jt0'.out hb21)
      try clear Jt0'
      have Jt1' := Lib.hid (Iv.mono Jt1.out hb21)
      try clear Jt1
      have hsF8sasasasdssdssmmsmsdasss := hsF8sasasasdssdssmmsmsdass.step hb21
      have hz18 : w20.heap.size ≤ w21.heap.size := by simpa using hb21.size
      have JK := Lib.hid (Fresh.iv frK)
      have zK0 := rd_cons rfl (Iv.rd JK.out)
      obtain ⟨rfl, _⟩ := rd_i1 zK0.1
      obtain ⟨aK1, cK1, rfl, _⟩ := rd_list zK0.2
      clear zK0
      clear frK
      have HYG' := Lib.hid (Own.mono HYG.out hb21)
      try clear HYG
      have HYG := HYG'
      clear HYG'
      try clear Jt0''
      try clear Jt1'
      refine ⟨⟨hsF8sasasasdssdssmmsmsdasss.cellAt 0 rfl 0 rfl, hsF8sasasasdssdssmmsmsdasss.cellAt 0 rfl 1 rfl, hsF8sasasasdssdssmmsmsdasss.cellAt 1 rfl 0 rfl, hsF8sasasasdssdssmmsmsdasss.cellAt 1 rfl 1 rfl, hsF8sasasasdssdssmmsmsdasss.cellAt 1 rfl 2 rfl, hsF8sasasasdssdssmmsmsdasss.cellAt 2 rfl 0 rfl, hsF8sasasasdssdssmmsmsdasss.cellAt 2 rfl 1 rfl, hsF8sasasasdssdssmmsmsdasss.cellAt 3 rfl 0 rfl, hsF8sasasasdssdssmmsmsdasss.cellAt 3 rfl 1 rfl, hsF8sasasasdssdssmmsmsdasss.cellAt 4 rfl 0 rfl, hsF8sasasasdssdssmmsmsdasss.cellAt 4 rfl 1 rfl, hsF8sasasasdssdssmmsmsdasss.cellAt 4 rfl 2 rfl, hsF8sasasasdssdssmmsmsdasss.cellAt 5 rfl 0 rfl, hsF8sasasasdssdssmmsmsdasss.cellAt 5 rfl 1 rfl⟩, ?_⟩
      (repeat (first | (apply t4_skip rfl (by rfl); try simp only [Act.put, List.setIfInBounds_toArray, List.set_cons_zero, List.set_cons_succ]) | (apply t4_float rfl (by rfl); (· (intro w' hS; go_simp <;> with_reducible rfl)); (try simp only [Act.put, List.setIfInBounds_toArray, List.set_cons_zero, List.set_cons_succ]))))
      refine t4_hard rfl (by rfl) (fun K hK => ?_)
      have fF310 := hsF8sasasasdssdssmmsmsdasss.freeAt 6 rfl 0
      have cF310 := hsF8sasasasdssdssmmsmsdasss.cellAt 6 rfl 0 rfl
      have fF311 := hsF8sasasasdssdssmmsmsdasss.freeAt 6 rfl 1
      have cF311 := hsF8sasasasdssdssmmsmsdasss.cellAt 6 rfl 1 rfl
      go_wp2_with fail
      have hsF8sasasasdssdssmmsmsdassst := ((hsF8sasasasdssdssmmsmsdasss.set (p := [_, _, _, _, _, _]) (by simp <;> omega) 0 (.int .i64 r0)).set (p := [_, _, _, _, _, _]) (by simp <;> omega) 1 (.slice aK1 r1.length cK1))
      have JWF8'''''''''''''''''''''''' := Lib.hid (Iv.setOut (Iv.setOut JWF8'''''''''''''''''''''''.out (a := ⟨wF31.heap.size, 0, none⟩) (by first | (left; simp only; first | done | omega) | (right; simp only; first | done | omega)) (.int .i64 r0)) (a := ⟨wF31.heap.size, 1, none⟩) (by first | (left; simp only; first | done | omega) | (right; simp only; first | done | omega)) (.slice aK1 r1.length cK1))
      try clear JWF8'''''''''''''''''''''''
      have JK' := Lib.hid (Iv.setOut (Iv.setOut JK.out (a := ⟨wF31.heap.size, 0, none⟩) (by first | (left; simp only; first | done | omega) | (right; simp only; first | done | omega)) (.int .i64 r0)) (a := ⟨wF31.heap.size, 1, none⟩) (by first | (left; simp only; first | done | omega) | (right; simp only; first | done | omega)) (.slice aK1 r1.length cK1))
      try clear JK
      have HYG' := Lib.hid (own_setOut (own_setOut HYG.out (b := wF31.heap.size) (o := 0) (fun hk => by have := hqG _ hk; omega) (.int .i64 r0)) (b := wF31.heap.size) (o := 1) (fun hk => by have := hqG _ hk; omega) (.slice aK1 r1.length cK1))
      try clear HYG
      have HYG := HYG'
      clear HYG'
      clear fF310 cF310 fF311 cF311
      refine ⟨?_, ?_⟩
      · first | (have u9 : w21.cell? ⟨w.heap.size, 0, none⟩ = some (.int .i64 x00) ∧ w21.cell? ⟨w.heap.size, 1, none⟩ = some (.slice a01 x01.length c01) ∧ w21.cell? ⟨w.heap.size + 1, 0, none⟩ = some (.int .i64 x10) ∧ w21.cell? ⟨w.heap.size + 1, 1, none⟩ = some (.int .i64 x11) ∧ w21.cell? ⟨w.heap.size + 1, 2, none⟩ = some (.slice a12 x12.length c12) ∧ w21.cell? ⟨gUF8, 0, none⟩ = some (.int .i64 r0) ∧ w21.cell? ⟨gUF8, 1, none⟩ = some (.slice aW1 r1.length cW1) ∧ w21.cell? ⟨w6.heap.size, 0, none⟩ = some (.int .i64 x00) ∧ w21.cell? ⟨w6.heap.size, 1, none⟩ = some (.slice ax01 x01.length cx01) ∧ w21.cell? ⟨w7.heap.size, 0, none⟩ = some (.int .i64 x10) ∧ w21.cell? ⟨w7.heap.size, 1, none⟩ = some (.int .i64 x11) ∧ w21.cell? ⟨w7.heap.size, 2, none⟩ = some (.slice ax12 x12.length cx12) ∧ w21.cell? ⟨w8.heap.size, 0, none⟩ = some (.int .i64 r0) ∧ w21.cell? ⟨w8.heap.size, 1, none⟩ = some (.slice aG1 r1.length cG1) := ⟨hsF8sasasasdssdssmmsmsdasss.cellAt 0 rfl 0 rfl, hsF8sasasasdssdssmmsmsdasss.cellAt 0 rfl 1 rfl, hsF8sasasasdssdssmmsmsdasss.cellAt 1 rfl 0 rfl, hsF8sasasasdssdssmmsmsdasss.cellAt 1 rfl 1 rfl, hsF8sasasasdssdssmmsmsdasss.cellAt 1 rfl 2 rfl, hsF8sasasasdssdssmmsmsdasss.cellAt 2 rfl 0 rfl, hsF8sasasasdssdssmmsmsdasss.cellAt 2 rfl 1 rfl, hsF8sasasasdssdssmmsmsdasss.cellAt 3 rfl 0 rfl, hsF8sasasasdssdssmmsmsdasss.cellAt 3 rfl 1 rfl, hsF8sasasasdssdssmmsmsdasss.cellAt 4 rfl 0 rfl, hsF8sasasasdssdssmmsmsdasss.cellAt 4 rfl 1 rfl, hsF8sasasasdssdssmmsmsdasss.cellAt 4 rfl 2 rfl, hsF8sasasasdssdssmmsmsdasss.cellAt 5 rfl 0 rfl, hsF8sasasasdssdssmmsmsdasss.cellAt 5 rfl 1 rfl⟩; with_reducible exact u9) | (have u9 : ((w21.setCell ⟨wF31.heap.size, 0, none⟩ (.int .i64 r0)).setCell ⟨wF31.heap.size, 1, none⟩ (.slice aK1 r1.length cK1)).cell? ⟨w.heap.size, 0, none⟩ = some (.int .i64 x00) ∧ ((w21.setCell ⟨wF31.heap.size, 0, none⟩ (.int .i64 r0)).setCell ⟨wF31.heap.size, 1, none⟩ (.slice aK1 r1.length cK1)).cell? ⟨w.heap.size, 1, none⟩ = some (.slice a01 x01.length c01) ∧ ((w21.setCell ⟨wF31.heap.size, 0, none⟩ (.int .i64 r0)).setCell ⟨wF31.heap.size, 1, none⟩ (.slice aK1 r1.length cK1)).cell? ⟨w.heap.size + 1, 0, none⟩ = some (.int .i64 x10) ∧ ((w21.setCell ⟨wF31.heap.size, 0, none⟩ (.int .i64 r0)).setCell ⟨wF31.heap.size, 1, none⟩ (.slice aK1 r1.length cK1)).cell? ⟨w.heap.size + 1, 1, none⟩ = some (.int .i64 x11) ∧ ((w21.setCell ⟨wF31.heap.size, 0, none⟩ (.int .i64 r0)).setCell ⟨wF31.heap.size, 1, none⟩ (.slice aK1 r1.length cK1)).cell? ⟨w.heap.size + 1, 2, none⟩ = some (.slice a12 x12.length c12) ∧ ((w21.setCell ⟨wF31.heap.size, 0, none⟩ (.int .i64 r0)).setCell ⟨wF31.heap.size, 1, none⟩ (.slice aK1 r1.length cK1)).cell? ⟨gUF8, 0, none⟩ = some (.int .i64 r0) ∧ ((w21.setCell ⟨wF31.heap.size, 0, none⟩ (.int .i64 r0)).setCell ⟨wF31.heap.size, 1, none⟩ (.slice aK1 r1.length cK1)).cell? ⟨gUF8, 1, none⟩ = some (.slice aW1 r1.length cW1) ∧ ((w21.setCell ⟨wF31.heap.size, 0, none⟩ (.int .i64 r0)).setCell ⟨wF31.heap.size, 1, none⟩ (.slice aK1 r1.length cK1)).cell? ⟨w6.heap.size, 0, none⟩ = some (.int .i64 x00) ∧ ((w21.setCell ⟨wF31.heap.size, 0, none⟩ (.int .i64 r0)).setCell ⟨wF31.heap.size, 1, none⟩ (.slice aK1 r1.length cK1)).cell? ⟨w6.heap.size, 1, none⟩ = some (.slice ax01 x01.length cx01) ∧ ((w21.setCell ⟨wF31.heap.size, 0, none⟩ (.int .i64 r0)).setCell ⟨wF31.heap.size, 1, none⟩ (.slice aK1 r1.length cK1)).cell? ⟨w7.heap.size, 0, none⟩ = some (.int .i64 x10) ∧ ((w21.setCell ⟨wF31.heap.size, 0, none⟩ (.int .i64 r0)).setCell ⟨wF31.heap.size, 1, none⟩ (.slice aK1 r1.length cK1)).cell? ⟨w7.heap.size, 1, none⟩ = some (.int .i64 x11) ∧ ((w21.setCell ⟨wF31.heap.size, 0, none⟩ (.int .i64 r0)).setCell ⟨wF31.heap.size, 1, none⟩ (.slice aK1 r1.length cK1)).cell? ⟨w7.heap.size, 2, none⟩ = some (.slice ax12 x12.length cx12) ∧ ((w21.setCell ⟨wF31.heap.size, 0, none⟩ (.int .i64 r0)).setCell ⟨wF31.heap.size, 1, none⟩ (.slice aK1 r1.length cK1)).cell? ⟨w8.heap.size, 0, none⟩ = some (.int .i64 r0) ∧ ((w21.setCell ⟨wF31.heap.size, 0, none⟩ (.int .i64 r0)).setCell ⟨wF31.heap.size, 1, none⟩ (.slice aK1 r1.length cK1)).cell? ⟨w8.heap.size, 1, none⟩ = some (.slice aG1 r1.length cG1) := ⟨hsF8sasasasdssdssmmsmsdassst.cellAt 0 rfl 0 rfl, hsF8sasasasdssdssmmsmsdassst.cellAt 0 rfl 1 rfl, hsF8sasasasdssdssmmsmsdassst.cellAt 1 rfl 0 rfl, hsF8sasasasdssdssmmsmsdassst.cellAt 1 rfl 1 rfl, hsF8sasasasdssdssmmsmsdassst.cellAt 1 rfl 2 rfl, hsF8sasasasdssdssmmsmsdassst.cellAt 2 rfl 0 rfl, hsF8sasasasdssdssmmsmsdassst.cellAt 2 rfl 1 rfl, hsF8sasasasdssdssmmsmsdassst.cellAt 3 rfl 0 rfl, hsF8sasasasdssdssmmsmsdassst.cellAt 3 rfl 1 rfl, hsF8sasasasdssdssmmsmsdassst.cellAt 4 rfl 0 rfl, hsF8sasasasdssdssmmsmsdassst.cellAt 4 rfl 1 rfl, hsF8sasasasdssdssmmsmsdassst.cellAt 4 rfl 2 rfl, hsF8sasasasdssdssmmsmsdassst.cellAt 5 rfl 0 rfl, hsF8sasasasdssdssmmsmsdassst.cellAt 5 rfl 1 rfl⟩; with_reducible exact u9) | exact ⟨hsF8sasasasdssdssmmsmsdassst.cellAt 0 rfl 0 rfl, hsF8sasasasdssdssmmsmsdassst.cellAt 0 rfl 1 rfl, hsF8sasasasdssdssmmsmsdassst.cellAt 1 rfl 0 rfl, hsF8sasasasdssdssmmsmsdassst.cellAt 1 rfl 1 rfl, hsF8sasasasdssdssmmsmsdassst.cellAt 1 rfl 2 rfl, hsF8sasasasdssdssmmsmsdassst.cellAt 2 rfl 0 rfl, hsF8sasasasdssdssmmsmsdassst.cellAt 2 rfl 1 rfl, hsF8sasasasdssdssmmsmsdassst.cellAt 3 rfl 0 rfl, hsF8sasasasdssdssmmsmsdassst.cellAt 3 rfl 1 rfl, hsF8sasasasdssdssmmsmsdassst.cellAt 4 rfl 0 rfl, hsF8sasasasdssdssmmsmsdassst.cellAt 4 rfl 1 rfl, hsF8sasasasdssdssmmsmsdassst.cellAt 4 rfl 2 rfl, hsF8sasasasdssdssmmsmsdassst.cellAt 5 rfl 0 rfl, hsF8sasasasdssdssmmsmsdassst.cellAt 5 rfl 1 rfl⟩ | exact ⟨hsF8sasasasdssdssmmsmsdasss.cellAt 0 rfl 0 rfl, hsF8sasasasdssdssmmsmsdasss.cellAt 0 rfl 1 rfl, hsF8sasasasdssdssmmsmsdasss.cellAt 1 rfl 0 rfl, hsF8sasasasdssdssmmsmsdasss.cellAt 1 rfl 1 rfl, hsF8sasasasdssdssmmsmsdasss.cellAt 1 rfl 2 rfl, hsF8sasasasdssdssmmsmsdasss.cellAt 2 rfl 0 rfl, hsF8sasasasdssdssmmsmsdasss.cellAt 2 rfl 1 rfl, hsF8sasasasdssdssmmsmsdasss.cellAt 3 rfl 0 rfl, hsF8sasasasdssdssmmsmsdasss.cellAt 3 rfl 1 rfl, hsF8sasasasdssdssmmsmsdasss.cellAt 4 rfl 0 rfl, hsF8sasasasdssdssmmsmsdasss.cellAt 4 rfl 1 rfl, hsF8sasasasdssdssmmsmsdasss.cellAt 4 rfl 2 rfl, hsF8sasasasdssdssmmsmsdasss.cellAt 5 rfl 0 rfl, hsF8sasasasdssdssmmsmsdasss.cellAt 5 rfl 1 rfl⟩
      (repeat (first | (apply t4_skip rfl (by rfl); try simp only [Act.put, List.setIfInBounds_toArray, List.set_cons_zero, List.set_cons_succ]) | (apply t4_float rfl (by rfl); (· (intro w' hS; go_simp <;> with_reducible rfl)); (try simp only [Act.put, List.setIfInBounds_toArray, List.set_cons_zero, List.set_cons_succ]))))
      refine t4_nil (NoPanic.normal ?_)
      have hsF31 : St w ((w21.setCell ⟨wF31.heap.size, 0, none⟩ (.int .i64 r0)).setCell ⟨wF31.heap.size, 1, none⟩ (.slice aK1 r1.length cK1)).heap.size ((w21.setCell ⟨wF31.heap.size, 0, none⟩ (.int .i64 r0)).setCell ⟨wF31.heap.size, 1, none⟩ (.slice aK1 r1.length cK1)) [(w.heap.size, #[.int .i64 x00, .slice a01 x01.length c01], 24), (w.heap.size + 1, #[.int .i64 x10, .int .i64 x11, .slice a12 x12.length c12], 27), (gUF8, #[.int .i64 r0, .slice aW1 r1.length cW1], 32), (w6.heap.size, #[.int .i64 x00, .slice ax01 x01.length cx01], 37), (w7.heap.size, #[.int .i64 x10, .int .i64 x11, .slice ax12 x12.length cx12], 41), (w8.heap.size, #[.int .i64 r0, .slice aG1 r1.length cG1], 32), (wF31.heap.size, #[.int .i64 r0, .slice aK1 r1.length cK1], 32)] := hsF8sasasasdssdssmmsmsdassst.up hsF8sasasasdssdssmmsmsdassst.hi (Nat.le_refl _)
      have hVF31 : w21.heap.size = ((w21.setCell ⟨wF31.heap.size, 0, none⟩ (.int .i64 r0)).setCell ⟨wF31.heap.size, 1, none⟩ (.slice aK1 r1.length cK1)).heap.size := by simp [World.setCell]
      obtain ⟨loUF31, hiUF31, hUF31, JUF31⟩ : ∃ lo hi : Nat, (w18.heap.size ≤ lo ∧ hi ≤ w21.heap.size ∧ (wF31.heap.size < lo ∨ hi ≤ wF31.heap.size) ∧ w18.heap.size ≤ wF31.heap.size ∧ wF31.heap.size < w21.heap.size) ∧ Hid (Iv lo hi ((w21.setCell ⟨wF31.heap.size, 0, none⟩ (.int .i64 r0)).setCell ⟨wF31.heap.size, 1, none⟩ (.slice aK1 r1.length cK1)) [.int .i64 r0, .slice aK1 r1.length cK1] (r0, r1)) := ⟨w20.heap.size, w21.heap.size, by omega, JK'.out⟩
      rw [hVF31] at hUF31
      clear hVF31 JK'
      generalize hhwUF31 : ((w21.setCell ⟨wF31.heap.size, 0, none⟩ (.int .i64 r0)).setCell ⟨wF31.heap.size, 1, none⟩ (.slice aK1 r1.length cK1)) = wUF31 at hsF31 hUF31 JUF31 JWF8'''''''''''''''''''''''' HYG ⊢
      clear hhwUF31
      generalize hhgUF31 : wF31.heap.size = gUF31 at hsF31 hUF31 JUF31 JWF8'''''''''''''''''''''''' HYG ⊢
      clear hhgUF31
      generalize at01 = zat01 at hsF31 hUF31 JUF31 JWF8'''''''''''''''''''''''' HYG ⊢
      generalize ct01 = zct01 at hsF31 hUF31 JUF31 JWF8'''''''''''''''''''''''' HYG ⊢
      generalize at12 = zat12 at hsF31 hUF31 JUF31 JWF8'''''''''''''''''''''''' HYG ⊢
      generalize ct12 = zct12 at hsF31 hUF31 JUF31 JWF8'''''''''''''''''''''''' HYG ⊢
      generalize aK1 = zaK1 at hsF31 hUF31 JUF31 JWF8'''''''''''''''''''''''' HYG ⊢
      generalize cK1 = zcK1 at hsF31 hUF31 JUF31 JWF8'''''''''''''''''''''''' HYG ⊢
      revert HYG
      revert JWF8''''''''''''''''''''''''
      revert JUF31
      revert hUF31
      revert hsF31
      revert zcK1
      revert zaK1
      revert zct12
      revert zat12
      revert zct01
      revert zat01
      revert hiUF31
      revert loUF31
      revert gUF31
      revert wUF31
      exact HJ.get
  intro wUF31 gUF31 loUF31 hiUF31 at01 ct01 at12 ct12 aK1 cK1
  intro hsF31 hUF31 JKF31 JWF31 HYG
  obtain ⟨h1F31, h2F31, h3F31, h4F31, h5F31⟩ := hUF31
  have qa00 := hsF31.cellAt 0 rfl 0 rfl
  have qa01 := hsF31.cellAt 0 rfl 1 rfl
  have qa10 := hsF31.cellAt 1 rfl 0 rfl
  have qa11 := hsF31.cellAt 1 rfl 1 rfl
  have qa12 := hsF31.cellAt 1 rfl 2 rfl
  have qw0 := hsF31.cellAt 2 rfl 0 rfl
  have qw1 := hsF31.cellAt 2 rfl 1 rfl
  have qx00 := hsF31.cellAt 3 rfl 0 rfl
  have qx01 := hsF31.cellAt 3 rfl 1 rfl
  have qx10 := hsF31.cellAt 4 rfl 0 rfl
  have qx11 := hsF31.cellAt 4 rfl 1 rfl
  have qx12 := hsF31.cellAt 4 rfl 2 rfl
  have qg0 := hsF31.cellAt 5 rfl 0 rfl
  have qg1 := hsF31.cellAt 5 rfl 1 rfl
  have qh0 := hsF31.cellAt 6 rfl 0 rfl
  have qh1 := hsF31.cellAt 6 rfl 1 rfl
  go_wp2_with fail
  refine (eqInstance_s (r0, r1) _ _ _ _ _ (Iv.rd JKF31.out) (Iv.rd JWF31.out)).mono ?_
  rintro e w22 ⟨rfl, hb22⟩
  have JWF31' := Lib.hid (Iv.mono JWF31.out hb22)
  clear JWF31
  have JKF31' := Lib.hid (Iv.mono JKF31.out hb22)
  clear JKF31
  have hsF31s := hsF31.step hb22
  have hz16 : wUF31.heap.size ≤ w22.heap.size := by simpa using hb22.size
  clear qa00 qa01 qa10 qa11 qa12 qw0 qw1 qx00 qx01 qx10 qx11 qx12 qg0 qg1 qh0 qh1
  have qa00 := hsF31s.cellAt 0 rfl 0 rfl
  have qa01 := hsF31s.cellAt 0 rfl 1 rfl
  have qa10 := hsF31s.cellAt 1 rfl 0 rfl
  have qa11 := hsF31s.cellAt 1 rfl 1 rfl
  have qa12 := hsF31s.cellAt 1 rfl 2 rfl
  have qw0 := hsF31s.cellAt 2 rfl 0 rfl
  have qw1 := hsF31s.cellAt 2 rfl 1 rfl
  have qx00 := hsF31s.cellAt 3 rfl 0 rfl
  have qx01 := hsF31s.cellAt 3 rfl 1 rfl
  have qx10 := hsF31s.cellAt 4 rfl 0 rfl
  have qx11 := hsF31s.cellAt 4 rfl 1 rfl
  have qx12 := hsF31s.cellAt 4 rfl 2 rfl
  have qg0 := hsF31s.cellAt 5 rfl 0 rfl
  have qg1 := hsF31s.cellAt 5 rfl 1 rfl
  have qh0 := hsF31s.cellAt 6 rfl 0 rfl
  have qh1 := hsF31s.cellAt 6 rfl 1 rfl
  have HYG' := Lib.hid (Own.mono HYG.out hb22)
  clear HYG
  have HYG := HYG'
  clear HYG'
  have HYr23 := Lib.hid (Own.rd HYG.out)
  go_wp2_with fail
  refine (heldInstance_g yG _ _ 1 mG _ HYr23.out HHG.out (by omega) (by omega) (by omega)).mono ?_
  rintro e w23 ⟨rfl, hb23⟩
  have HYG' := Lib.hid (Own.mono HYG.out hb23)
  clear HYG HYr23
  have HYG := HYG'
  clear HYG'
  have JWF31'' := Lib.hid (Iv.mono JWF31'.out hb23)
  clear JWF31'
  have JKF31'' := Lib.hid (Iv.mono JKF31'.out hb23)
  clear JKF31'
  have hsF31ss := hsF31s.step hb23
  have hz17 : w22.heap.size ≤ w23.heap.size := by simpa using hb23.size
  clear qa00 qa01 qa10 qa11 qa12 qw0 qw1 qx00 qx01 qx10 qx11 qx12 qg0 qg1 qh0 qh1
  have qa00 := hsF31ss.cellAt 0 rfl 0 rfl
  have qa01 := hsF31ss.cellAt 0 rfl 1 rfl
  have qa10 := hsF31ss.cellAt 1 rfl 0 rfl
  have qa11 := hsF31ss.cellAt 1 rfl 1 rfl
  have qa12 := hsF31ss.cellAt 1 rfl 2 rfl
  have qw0 := hsF31ss.cellAt 2 rfl 0 rfl
  have qw1 := hsF31ss.cellAt 2 rfl 1 rfl
  have qx00 := hsF31ss.cellAt 3 rfl 0 rfl
  have qx01 := hsF31ss.cellAt 3 rfl 1 rfl
  have qx10 := hsF31ss.cellAt 4 rfl 0 rfl
  have qx11 := hsF31ss.cellAt 4 rfl 1 rfl
  have qx12 := hsF31ss.cellAt 4 rfl 2 rfl
  have qg0 := hsF31ss.cellAt 5 rfl 0 rfl
  have qg1 := hsF31ss.cellAt 5 rfl 1 rfl
  have qh0 := hsF31ss.cellAt 6 rfl 0 rfl
  have qh1 := hsF31ss.cellAt 6 rfl 1 rfl
  go_wp2_with fail
  go_ret
  exact ⟨rfl, hsF31ss.bel⟩

end Go.Proofs.YtnefmhhemaenkaaGreat
