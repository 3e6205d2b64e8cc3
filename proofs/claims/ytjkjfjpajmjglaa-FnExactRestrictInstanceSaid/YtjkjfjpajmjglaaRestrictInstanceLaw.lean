/-
  THE LAW FnExactRestrictInstance, WALKED. (Printed by wip/genlawm.py.)
-/
import Derived.Test.YtjkjfjpajmjglaaKinds
import Derived.Test.YtjkjfjpajmjglaaMarkT
import Derived.Test.YtjkjfjpajmjglaaRestrictS
namespace Go.Proofs.Ytjkjfjpajmjglaa
open Go.RowKit Go.Shelf
open Rep (Rd Own sz)
set_option linter.unusedSimpArgs false
set_option linter.unusedVariables false

structure Cut (P : Prop) : Prop where
  get : P
theorem mp_cut {G P : Prop} (h1 : Cut P → G) (h2 : P) : G := h1 ⟨h2⟩
theorem own_setOut {α : Type} [Rep α] {ps : List Nat} {w : World} {vs : List Value} {x : α} (h : Own ps w vs x) {b o : Nat} (hb : b ∉ ps) (u : Value) : Own ps (w.setCell ⟨b, o, none⟩ u) vs x := Rep.own_frame (fun k hk => Below.heap_setCell _ _ _ _ (fun e => hb (by simp only at e; rw [← e]; exact hk))) h
set_option maxRecDepth 100000 in
set_option maxHeartbeats 8000000 in
theorem FnExactRestrictInstance_c (x0 : Tmpl) (v00 v01 : Value) (x1 : Inst) (v10 v11 : Value) (x2 : List Int) (v20 : Value) (w : World) (h0 : Rd w [v00, v01] x0) (h1 : Rd w [v10, v11] x1) (h2 : Rd w [v20] x2) :
    Calls Try.prog 6 #[.agg #[v00, v01], .agg #[v10, v11], v20] w fun e w' => e = .returned (.bool true) ∧ Below w.heap.size w w' := by
  have hsm : mc_Instance (restrictF x0 x1 x2).1 ≤ 1000000 := restrictF_small x0 x1 x2
  have cS := fun a00 a01 a10 a11 a20 W h0 h1 h2 z => sRestrictInstance_c x0 a00 a01 x1 a10 a11 x2 a20 W h0 h1 h2 z
  have cI := fun a00 a01 a10 a11 a20 W h0 h1 h2 z => RestrictInstance_c x0 a00 a01 x1 a10 a11 x2 a20 W h0 h1 h2 z
  generalize restrictF x0 x1 x2 = R at cS cI hsm
  obtain ⟨⟨r0, r1⟩, code⟩ := R
  have CS := Lib.hid cS
  have CI := Lib.hid cI
  clear cS cI
  obtain ⟨x00, x01⟩ := x0
  have z00 := rd_cons rfl h0
  obtain ⟨rfl, _⟩ := rd_i1 z00.1
  obtain ⟨a01, c01, rfl, _⟩ := rd_list z00.2
  clear z00
  have H0 := Lib.hid h0
  clear h0
  obtain ⟨x10, x11⟩ := x1
  have z10 := rd_cons rfl h1
  obtain ⟨rfl, _⟩ := rd_i1 z10.1
  obtain ⟨a11, c11, rfl, _⟩ := rd_list z10.2
  clear z10
  have H1 := Lib.hid h1
  clear h1
  obtain ⟨a2, c2, rfl, _⟩ := rd_list h2
  have H2 := Lib.hid h2
  clear h2
  have hs := ((St.start w).alloc #[.int .i64 x00, .slice a01 x01.length c01] 24 rfl).alloc #[.int .i64 x10, .slice a11 x11.length c11] 55 (n := w.heap.size + 1) (by simp)
  go_enter Try.func6, Try.ntmps6
  by_cases hL2 : 1048576 < x2.length
  · go_wp2_with fail
    go_ret
    exact ⟨rfl, hs.bel⟩
  go_wp2_with fail
  refine (szTemplate_b (x00, x01) _ _ (1048576) _ (Rd.mono H0.out hs.bel) (by omega) (by omega)).mono ?_
  rintro e w1 ⟨rfl, hb1⟩
  have hss := hs.step hb1
  have hz1 : w.heap.size + 2 ≤ w1.heap.size := by simpa using hb1.size
  rcases less_cases (1048576) (cost_Template (x00, x01)) with ⟨e1, g0⟩ | ⟨e1, g0⟩
  · rw [e1]
    clear e1
    go_wp2_with fail
    go_ret
    exact ⟨rfl, hss.bel⟩
  rw [e1]
  clear e1
  have qa00 := hss.cellAt 0 rfl 0 rfl
  have qa01 := hss.cellAt 0 rfl 1 rfl
  have qa10 := hss.cellAt 1 rfl 0 rfl
  have qa11 := hss.cellAt 1 rfl 1 rfl
  go_wp2_with fail
  refine (szInstance_b (x10, x11) _ _ (1048576 - (cost_Template (x00, x01))) _ (Rd.mono H1.out hss.bel) (by omega) (by omega)).mono ?_
  rintro e w2 ⟨rfl, hb2⟩
  have hsss := hss.step hb2
  have hz2 : w1.heap.size ≤ w2.heap.size := by simpa using hb2.size
  rcases less_cases (1048576 - (cost_Template (x00, x01))) (cost_Instance (x10, x11)) with ⟨e1, g1⟩ | ⟨e1, g1⟩
  · rw [e1]
    clear e1
    go_wp2_with fail
    go_ret
    exact ⟨rfl, hsss.bel⟩
  rw [e1]
  clear e1
  clear qa00 qa01 qa10 qa11
  have qa00 := hsss.cellAt 0 rfl 0 rfl
  have qa01 := hsss.cellAt 0 rfl 1 rfl
  have qa10 := hsss.cellAt 1 rfl 0 rfl
  have qa11 := hsss.cellAt 1 rfl 1 rfl
  have gc0 : cost_Template (x00, x01) ≤ 1048576 := by omega
  have gc1 : cost_Instance (x10, x11) ≤ 1048576 := by omega
  go_upto_region 10 with fail
  refine wp_region_noPanic (wp_region_tree4 (fun w' => w'.cell? ⟨w.heap.size, 0, none⟩ = some (.int .i64 x00) ∧ w'.cell? ⟨w.heap.size, 1, none⟩ = some (.slice a01 x01.length c01) ∧ w'.cell? ⟨w.heap.size + 1, 0, none⟩ = some (.int .i64 x10) ∧ w'.cell? ⟨w.heap.size + 1, 1, none⟩ = some (.slice a11 x11.length c11)) (.float 0 (.float 2 (.float 4 (.fork2 1 (.fork2 3 (.fork2 5 (.fork2 6 (.float 7 (.float 8 (.float 9 (.hard 10 (.hard 11 (.float 12 .nil)))))) 10 (.hard 6 (.float 7 (.float 8 (.float 9 (.hard 11 (.float 12 .nil))))))) 10 (.hard 5 (.hard 6 (.float 7 (.float 8 (.float 9 (.hard 11 (.float 12 .nil)))))))) 10 (.hard 3 (.hard 5 (.hard 6 (.float 7 (.float 8 (.float 9 (.hard 11 (.float 12 .nil))))))))) 10 (.hard 1 (.hard 3 (.hard 5 (.hard 6 (.float 7 (.float 8 (.float 9 (.hard 11 (.float 12 .nil))))))))))))) (by kernel_rfl) (by kernel_rfl) (by kernel_rfl) rfl ?_ (fun _ _ _ _ _ h => h) ?_)
  · exact ⟨(hsss.drew).cellAt 0 rfl 0 rfl, (hsss.drew).cellAt 0 rfl 1 rfl, (hsss.drew).cellAt 1 rfl 0 rfl, (hsss.drew).cellAt 1 rfl 1 rfl⟩
  have hsssd := hsss.drew
  clear qa00 qa01 qa10 qa11
  have hzF10 : w2.heap.size ≤ (w2.drew).heap.size := by simp
  generalize hgenF10 : w2.drew = wF10 at *
  have HGF10 := Lib.hid hgenF10
  clear hgenF10
  (repeat (first | (apply t4_skip rfl (by rfl); try simp only [Act.put, List.setIfInBounds_toArray, List.set_cons_zero, List.set_cons_succ]) | (apply t4_float rfl (by rfl); (· (intro w' hS; go_simp <;> with_reducible rfl)); (try simp only [Act.put, List.setIfInBounds_toArray, List.set_cons_zero, List.set_cons_succ]))))
  apply mp_cut
  · intro HJ
    refine t4_fork2 ?_ ?_
    · refine t4_hard rfl (by rfl) (fun K hK => ?_)
      go_wp2_with (go_at_call 11; refine (toTemplate_b (x00, x01) _ _ _ (Rd.mono H0.out hsssd.bel) gc0).mono ?_; rintro e w3 ⟨us00, us01, rfl, frs0, hb3⟩)
      have hsssds := hsssd.step hb3
      have hz3 : wF10.heap.size ≤ w3.heap.size := by simpa using hb3.size
      have Js0 := Lib.hid (Fresh.iv frs0)
      have zs00 := rd_cons rfl (Iv.rd Js0.out)
      obtain ⟨rfl, _⟩ := rd_i1 zs00.1
      obtain ⟨as01, cs01, rfl, _⟩ := rd_list zs00.2
      clear zs00
      clear frs0
      refine ⟨⟨hsssds.cellAt 0 rfl 0 rfl, hsssds.cellAt 0 rfl 1 rfl, hsssds.cellAt 1 rfl 0 rfl, hsssds.cellAt 1 rfl 1 rfl⟩, ?_⟩
      (repeat (first | (apply t4_skip rfl (by rfl); try simp only [Act.put, List.setIfInBounds_toArray, List.set_cons_zero, List.set_cons_succ]) | (apply t4_float rfl (by rfl); (· (intro w' hS; go_simp <;> with_reducible rfl)); (try simp only [Act.put, List.setIfInBounds_toArray, List.set_cons_zero, List.set_cons_succ]))))
      refine t4_fork2 ?_ ?_
      · refine t4_hard rfl (by rfl) (fun K hK => ?_)
        go_wp2_with (go_at_call 26; refine (toInstance_b (x10, x11) _ _ _ (Rd.mono H1.out hsssds.bel) gc1).mono ?_; rintro e w4 ⟨us10, us11, rfl, frs1, hb4⟩)
        have Js0' := Lib.hid (Iv.mono Js0.out hb4)
        try clear Js0
        have hsssdss := hsssds.step hb4
        have hz4 : w3.heap.size ≤ w4.heap.size := by simpa using hb4.size
        have Js1 := Lib.hid (Fresh.iv frs1)
        have zs10 := rd_cons rfl (Iv.rd Js1.out)
        obtain ⟨rfl, _⟩ := rd_i1 zs10.1
        obtain ⟨as11, cs11, rfl, _⟩ := rd_list zs10.2
        clear zs10
        clear frs1
        refine ⟨⟨hsssdss.cellAt 0 rfl 0 rfl, hsssdss.cellAt 0 rfl 1 rfl, hsssdss.cellAt 1 rfl 0 rfl, hsssdss.cellAt 1 rfl 1 rfl⟩, ?_⟩
        (repeat (first | (apply t4_skip rfl (by rfl); try simp only [Act.put, List.setIfInBounds_toArray, List.set_cons_zero, List.set_cons_succ]) | (apply t4_float rfl (by rfl); (· (intro w' hS; go_simp <;> with_reducible rfl)); (try simp only [Act.put, List.setIfInBounds_toArray, List.set_cons_zero, List.set_cons_succ]))))
        refine t4_fork2 ?_ ?_
        · refine t4_hard rfl (by rfl) (fun K hK => ?_)
          go_wp2_with (go_at_call 13; refine (toInt64S_b x2 _ _ (Rd.mono H2.out hsssdss.bel) (by omega)).mono ?_; rintro e w5 ⟨us20, rfl, frs2, hb5⟩)
          have Js0'' := Lib.hid (Iv.mono Js0'.out hb5)
          try clear Js0'
          have Js1' := Lib.hid (Iv.mono Js1.out hb5)
          try clear Js1
          have hsssdsss := hsssdss.step hb5
          have hz5 : w4.heap.size ≤ w5.heap.size := by simpa using hb5.size
          have Js2 := Lib.hid (Fresh.iv frs2)
          obtain ⟨as2, cs2, rfl, _⟩ := rd_list (Iv.rd Js2.out)
          clear frs2
          refine ⟨⟨hsssdsss.cellAt 0 rfl 0 rfl, hsssdsss.cellAt 0 rfl 1 rfl, hsssdsss.cellAt 1 rfl 0 rfl, hsssdsss.cellAt 1 rfl 1 rfl⟩, ?_⟩
          (repeat (first | (apply t4_skip rfl (by rfl); try simp only [Act.put, List.setIfInBounds_toArray, List.set_cons_zero, List.set_cons_succ]) | (apply t4_float rfl (by rfl); (· (intro w' hS; go_simp <;> with_reducible rfl)); (try simp only [Act.put, List.setIfInBounds_toArray, List.set_cons_zero, List.set_cons_succ]))))
          refine t4_fork2 ?_ ?_
          · refine t4_hard rfl (by rfl) (fun K hK => ?_)
            go_wp2_with (go_at_call 31; refine (CS.out _ _ _ _ _ _ (Iv.rd Js0''.out) (Iv.rd Js1'.out) (Iv.rd Js2.out) (by omega)).mono ?_; rintro e w6 ⟨uW0, uW1, rfl, frW, hb6⟩)
            have Js0''' := Lib.hid (Iv.mono Js0''.out hb6)
            try clear Js0''
            have Js1'' := Lib.hid (Iv.mono Js1'.out hb6)
            try clear Js1'
            have Js2' := Lib.hid (Iv.mono Js2.out hb6)
            try clear Js2
            have hsssdssss := hsssdsss.step hb6
            have hz6 : w5.heap.size ≤ w6.heap.size := by simpa using hb6.size
            have JW := Lib.hid (Fresh.iv frW)
            have zW0 := rd_cons rfl (Iv.rd JW.out)
            obtain ⟨rfl, _⟩ := rd_i1 zW0.1
            obtain ⟨aW1, cW1, rfl, _⟩ := rd_list zW0.2
            clear zW0
            clear frW
            try clear Js0'''
            try clear Js1''
            try clear Js2'
            refine ⟨⟨hsssdssss.cellAt 0 rfl 0 rfl, hsssdssss.cellAt 0 rfl 1 rfl, hsssdssss.cellAt 1 rfl 0 rfl, hsssdssss.cellAt 1 rfl 1 rfl⟩, ?_⟩
            (repeat (first | (apply t4_skip rfl (by rfl); try simp only [Act.put, List.setIfInBounds_toArray, List.set_cons_zero, List.set_cons_succ]) | (apply t4_float rfl (by rfl); (· (intro w' hS; go_simp <;> with_reducible rfl)); (try simp only [Act.put, List.setIfInBounds_toArray, List.set_cons_zero, List.set_cons_succ]))))
            refine t4_hard rfl (by rfl) (fun K hK => ?_)
            go_wp2_with fail
            have hsssdssssa := hsssdssss.alloc #[.int .i64 0, .slice none 0 0] 61 rfl
            have JW' := Lib.hid (Iv.mono JW.out (belowA _ (.cells #[.int .i64 0, .slice none 0 0] 61)))
            try clear JW
            have hzF10A1 : w6.heap.size + 1 ≤ (w6.alloc (.cells #[.int .i64 0, .slice none 0 0] 61)).heap.size := by simp
            generalize hgenF10A1 : w6.alloc (.cells #[.int .i64 0, .slice none 0 0] 61) = wF10A1 at *
            have HGF10A1 := Lib.hid hgenF10A1
            clear hgenF10A1
            refine ⟨⟨hsssdssssa.cellAt 0 rfl 0 rfl, hsssdssssa.cellAt 0 rfl 1 rfl, hsssdssssa.cellAt 1 rfl 0 rfl, hsssdssssa.cellAt 1 rfl 1 rfl⟩, ?_⟩
            (repeat (first | (apply t4_skip rfl (by rfl); try simp only [Act.put, List.setIfInBounds_toArray, List.set_cons_zero, List.set_cons_succ]) | (apply t4_float rfl (by rfl); (· (intro w' hS; go_simp <;> with_reducible rfl)); (try simp only [Act.put, List.setIfInBounds_toArray, List.set_cons_zero, List.set_cons_succ]))))
            refine t4_hard rfl (by rfl) (fun K hK => ?_)
            have fF100 := hsssdssssa.freeAt 2 rfl 0
            have cF100 := hsssdssssa.cellAt 2 rfl 0 rfl
            have fF101 := hsssdssssa.freeAt 2 rfl 1
            have cF101 := hsssdssssa.cellAt 2 rfl 1 rfl
            go_wp2_with fail
            have hsssdssssat := ((hsssdssssa.set (p := [_, _]) (by simp <;> omega) 0 (.int .i64 r0)).set (p := [_, _]) (by simp <;> omega) 1 (.slice aW1 r1.length cW1))
            have JW'' := Lib.hid (Iv.setOut (Iv.setOut JW'.out (a := ⟨w6.heap.size, 0, none⟩) (by first | (left; simp only; first | done | omega) | (right; simp only; first | done | omega)) (.int .i64 r0)) (a := ⟨w6.heap.size, 1, none⟩) (by first | (left; simp only; first | done | omega) | (right; simp only; first | done | omega)) (.slice aW1 r1.length cW1))
            try clear JW'
            clear fF100 cF100 fF101 cF101
            refine ⟨?_, ?_⟩
            · first | exact ⟨hsssdssssat.cellAt 0 rfl 0 rfl, hsssdssssat.cellAt 0 rfl 1 rfl, hsssdssssat.cellAt 1 rfl 0 rfl, hsssdssssat.cellAt 1 rfl 1 rfl⟩ | exact ⟨hsssdssssa.cellAt 0 rfl 0 rfl, hsssdssssa.cellAt 0 rfl 1 rfl, hsssdssssa.cellAt 1 rfl 0 rfl, hsssdssssa.cellAt 1 rfl 1 rfl⟩
            (repeat (first | (apply t4_skip rfl (by rfl); try simp only [Act.put, List.setIfInBounds_toArray, List.set_cons_zero, List.set_cons_succ]) | (apply t4_float rfl (by rfl); (· (intro w' hS; go_simp <;> with_reducible rfl)); (try simp only [Act.put, List.setIfInBounds_toArray, List.set_cons_zero, List.set_cons_succ]))))
            refine t4_nil (NoPanic.normal ?_)
            have hsF10 : St w ((wF10A1.setCell ⟨w6.heap.size, 0, none⟩ (.int .i64 r0)).setCell ⟨w6.heap.size, 1, none⟩ (.slice aW1 r1.length cW1)).heap.size ((wF10A1.setCell ⟨w6.heap.size, 0, none⟩ (.int .i64 r0)).setCell ⟨w6.heap.size, 1, none⟩ (.slice aW1 r1.length cW1)) [(w.heap.size, #[.int .i64 x00, .slice a01 x01.length c01], 24), (w.heap.size + 1, #[.int .i64 x10, .slice a11 x11.length c11], 55), (w6.heap.size, #[.int .i64 r0, .slice aW1 r1.length cW1], 61)] := hsssdssssat.up hsssdssssat.hi (Nat.le_refl _)
            have hVF10 : wF10A1.heap.size = ((wF10A1.setCell ⟨w6.heap.size, 0, none⟩ (.int .i64 r0)).setCell ⟨w6.heap.size, 1, none⟩ (.slice aW1 r1.length cW1)).heap.size := by simp [World.setCell]
            obtain ⟨loUF10, hiUF10, hUF10, JUF10⟩ : ∃ lo hi : Nat, (w2.heap.size ≤ lo ∧ hi ≤ wF10A1.heap.size ∧ (w6.heap.size < lo ∨ hi ≤ w6.heap.size) ∧ w2.heap.size ≤ w6.heap.size ∧ w6.heap.size < wF10A1.heap.size) ∧ Hid (Iv lo hi ((wF10A1.setCell ⟨w6.heap.size, 0, none⟩ (.int .i64 r0)).setCell ⟨w6.heap.size, 1, none⟩ (.slice aW1 r1.length cW1)) [.int .i64 r0, .slice aW1 r1.length cW1] (r0, r1)) := ⟨w5.heap.size, w6.heap.size, by omega, JW''.out⟩
            rw [hVF10] at hUF10
            clear hVF10 JW''
            generalize hhwUF10 : ((wF10A1.setCell ⟨w6.heap.size, 0, none⟩ (.int .i64 r0)).setCell ⟨w6.heap.size, 1, none⟩ (.slice aW1 r1.length cW1)) = wUF10 at hsF10 hUF10 JUF10 ⊢
            clear hhwUF10
            generalize hhgUF10 : w6.heap.size = gUF10 at hsF10 hUF10 JUF10 ⊢
            clear hhgUF10
            generalize as01 = zas01 at hsF10 hUF10 JUF10 ⊢
            generalize cs01 = zcs01 at hsF10 hUF10 JUF10 ⊢
            generalize as11 = zas11 at hsF10 hUF10 JUF10 ⊢
            generalize cs11 = zcs11 at hsF10 hUF10 JUF10 ⊢
            generalize as2 = zas2 at hsF10 hUF10 JUF10 ⊢
            generalize cs2 = zcs2 at hsF10 hUF10 JUF10 ⊢
            generalize aW1 = zaW1 at hsF10 hUF10 JUF10 ⊢
            generalize cW1 = zcW1 at hsF10 hUF10 JUF10 ⊢
            revert JUF10
            revert hUF10
            revert hsF10
            revert zcW1
            revert zaW1
            revert zcs2
            revert zas2
            revert zcs11
            revert zas11
            revert zcs01
            revert zas01
            revert hiUF10
            revert loUF10
            revert gUF10
            revert wUF10
            exact HJ.get
          · refine t4_hard rfl (by rfl) (fun K hK => ?_)
            go_wp2_with fail
            have hsssdsssa := hsssdsss.alloc #[.int .i64 0, .slice none 0 0] 61 rfl
            have Js0''' := Lib.hid (Iv.mono Js0''.out (belowA _ (.cells #[.int .i64 0, .slice none 0 0] 61)))
            try clear Js0''
            have Js1'' := Lib.hid (Iv.mono Js1'.out (belowA _ (.cells #[.int .i64 0, .slice none 0 0] 61)))
            try clear Js1'
            have Js2' := Lib.hid (Iv.mono Js2.out (belowA _ (.cells #[.int .i64 0, .slice none 0 0] 61)))
            try clear Js2
            have hzF10A2 : w5.heap.size + 1 ≤ (w5.alloc (.cells #[.int .i64 0, .slice none 0 0] 61)).heap.size := by simp
            generalize hgenF10A2 : w5.alloc (.cells #[.int .i64 0, .slice none 0 0] 61) = wF10A2 at *
            have HGF10A2 := Lib.hid hgenF10A2
            clear hgenF10A2
            refine ⟨⟨hsssdsssa.cellAt 0 rfl 0 rfl, hsssdsssa.cellAt 0 rfl 1 rfl, hsssdsssa.cellAt 1 rfl 0 rfl, hsssdsssa.cellAt 1 rfl 1 rfl⟩, ?_⟩
            (repeat (first | (apply t4_skip rfl (by rfl); try simp only [Act.put, List.setIfInBounds_toArray, List.set_cons_zero, List.set_cons_succ]) | (apply t4_float rfl (by rfl); (· (intro w' hS; go_simp <;> with_reducible rfl)); (try simp only [Act.put, List.setIfInBounds_toArray, List.set_cons_zero, List.set_cons_succ]))))
            refine t4_hard rfl (by rfl) (fun K hK => ?_)
            go_wp2_with (go_at_call 31; refine (CS.out _ _ _ _ _ _ (Iv.rd Js0'''.out) (Iv.rd Js1''.out) (Iv.rd Js2'.out) (by omega)).mono ?_; rintro e w6 ⟨uW0, uW1, rfl, frW, hb6⟩)
            have Js0'''' := Lib.hid (Iv.mono Js0'''.out hb6)
            try clear Js0'''
            have Js1''' := Lib.hid (Iv.mono Js1''.out hb6)
            try clear Js1''
            have Js2'' := Lib.hid (Iv.mono Js2'.out hb6)
            try clear Js2'
            have hsssdsssas := hsssdsssa.step hb6
            have hz6 : wF10A2.heap.size ≤ w6.heap.size := by simpa using hb6.size
            have JW := Lib.hid (Fresh.iv frW)
            have zW0 := rd_cons rfl (Iv.rd JW.out)
            obtain ⟨rfl, _⟩ := rd_i1 zW0.1
            obtain ⟨aW1, cW1, rfl, _⟩ := rd_list zW0.2
            clear zW0
            clear frW
            try clear Js0''''
            try clear Js1'''
            try clear Js2''
            refine ⟨⟨hsssdsssas.cellAt 0 rfl 0 rfl, hsssdsssas.cellAt 0 rfl 1 rfl, hsssdsssas.cellAt 1 rfl 0 rfl, hsssdsssas.cellAt 1 rfl 1 rfl⟩, ?_⟩
            (repeat (first | (apply t4_skip rfl (by rfl); try simp only [Act.put, List.setIfInBounds_toArray, List.set_cons_zero, List.set_cons_succ]) | (apply t4_float rfl (by rfl); (· (intro w' hS; go_simp <;> with_reducible rfl)); (try simp only [Act.put, List.setIfInBounds_toArray, List.set_cons_zero, List.set_cons_succ]))))
            refine t4_hard rfl (by rfl) (fun K hK => ?_)
            have fF100 := hsssdsssas.freeAt 2 rfl 0
            have cF100 := hsssdsssas.cellAt 2 rfl 0 rfl
            have fF101 := hsssdsssas.freeAt 2 rfl 1
            have cF101 := hsssdsssas.cellAt 2 rfl 1 rfl
            go_wp2_with fail
            have hsssdsssast := ((hsssdsssas.set (p := [_, _]) (by simp <;> omega) 0 (.int .i64 r0)).set (p := [_, _]) (by simp <;> omega) 1 (.slice aW1 r1.length cW1))
            have JW' := Lib.hid (Iv.setOut (Iv.setOut JW.out (a := ⟨w5.heap.size, 0, none⟩) (by first | (left; simp only; first | done | omega) | (right; simp only; first | done | omega)) (.int .i64 r0)) (a := ⟨w5.heap.size, 1, none⟩) (by first | (left; simp only; first | done | omega) | (right; simp only; first | done | omega)) (.slice aW1 r1.length cW1))
            try clear JW
            clear fF100 cF100 fF101 cF101
            refine ⟨?_, ?_⟩
            · first | exact ⟨hsssdsssast.cellAt 0 rfl 0 rfl, hsssdsssast.cellAt 0 rfl 1 rfl, hsssdsssast.cellAt 1 rfl 0 rfl, hsssdsssast.cellAt 1 rfl 1 rfl⟩ | exact ⟨hsssdsssas.cellAt 0 rfl 0 rfl, hsssdsssas.cellAt 0 rfl 1 rfl, hsssdsssas.cellAt 1 rfl 0 rfl, hsssdsssas.cellAt 1 rfl 1 rfl⟩
            (repeat (first | (apply t4_skip rfl (by rfl); try simp only [Act.put, List.setIfInBounds_toArray, List.set_cons_zero, List.set_cons_succ]) | (apply t4_float rfl (by rfl); (· (intro w' hS; go_simp <;> with_reducible rfl)); (try simp only [Act.put, List.setIfInBounds_toArray, List.set_cons_zero, List.set_cons_succ]))))
            refine t4_nil (NoPanic.normal ?_)
            have hsF10 : St w ((w6.setCell ⟨w5.heap.size, 0, none⟩ (.int .i64 r0)).setCell ⟨w5.heap.size, 1, none⟩ (.slice aW1 r1.length cW1)).heap.size ((w6.setCell ⟨w5.heap.size, 0, none⟩ (.int .i64 r0)).setCell ⟨w5.heap.size, 1, none⟩ (.slice aW1 r1.length cW1)) [(w.heap.size, #[.int .i64 x00, .slice a01 x01.length c01], 24), (w.heap.size + 1, #[.int .i64 x10, .slice a11 x11.length c11], 55), (w5.heap.size, #[.int .i64 r0, .slice aW1 r1.length cW1], 61)] := hsssdsssast.up hsssdsssast.hi (Nat.le_refl _)
            have hVF10 : w6.heap.size = ((w6.setCell ⟨w5.heap.size, 0, none⟩ (.int .i64 r0)).setCell ⟨w5.heap.size, 1, none⟩ (.slice aW1 r1.length cW1)).heap.size := by simp [World.setCell]
            obtain ⟨loUF10, hiUF10, hUF10, JUF10⟩ : ∃ lo hi : Nat, (w2.heap.size ≤ lo ∧ hi ≤ w6.heap.size ∧ (w5.heap.size < lo ∨ hi ≤ w5.heap.size) ∧ w2.heap.size ≤ w5.heap.size ∧ w5.heap.size < w6.heap.size) ∧ Hid (Iv lo hi ((w6.setCell ⟨w5.heap.size, 0, none⟩ (.int .i64 r0)).setCell ⟨w5.heap.size, 1, none⟩ (.slice aW1 r1.length cW1)) [.int .i64 r0, .slice aW1 r1.length cW1] (r0, r1)) := ⟨wF10A2.heap.size, w6.heap.size, by omega, JW'.out⟩
            rw [hVF10] at hUF10
            clear hVF10 JW'
            generalize hhwUF10 : ((w6.setCell ⟨w5.heap.size, 0, none⟩ (.int .i64 r0)).setCell ⟨w5.heap.size, 1, none⟩ (.slice aW1 r1.length cW1)) = wUF10 at hsF10 hUF10 JUF10 ⊢
            clear hhwUF10
            generalize hhgUF10 : w5.heap.size = gUF10 at hsF10 hUF10 JUF10 ⊢
            clear hhgUF10
            generalize as01 = zas01 at hsF10 hUF10 JUF10 ⊢
            generalize cs01 = zcs01 at hsF10 hUF10 JUF10 ⊢
            generalize as11 = zas11 at hsF10 hUF10 JUF10 ⊢
            generalize cs11 = zcs11 at hsF10 hUF10 JUF10 ⊢
            generalize as2 = zas2 at hsF10 hUF10 JUF10 ⊢
            generalize cs2 = zcs2 at hsF10 hUF10 JUF10 ⊢
            generalize aW1 = zaW1 at hsF10 hUF10 JUF10 ⊢
            generalize cW1 = zcW1 at hsF10 hUF10 JUF10 ⊢
            revert JUF10
            revert hUF10
            revert hsF10
            revert zcW1
            revert zaW1
            revert zcs2
            revert zas2
            revert zcs11
            revert zas11
            revert zcs01
            revert zas01
            revert hiUF10
            revert loUF10
            revert gUF10
            revert wUF10
            exact HJ.get
        · refine t4_hard rfl (by rfl) (fun K hK => ?_)
          go_wp2_with fail
          have hsssdssa := hsssdss.alloc #[.int .i64 0, .slice none 0 0] 61 rfl
          have Js0'' := Lib.hid (Iv.mono Js0'.out (belowA _ (.cells #[.int .i64 0, .slice none 0 0] 61)))
          try clear Js0'
          have Js1' := Lib.hid (Iv.mono Js1.out (belowA _ (.cells #[.int .i64 0, .slice none 0 0] 61)))
          try clear Js1
          have hzF10A3 : w4.heap.size + 1 ≤ (w4.alloc (.cells #[.int .i64 0, .slice none 0 0] 61)).heap.size := by simp
          generalize hgenF10A3 : w4.alloc (.cells #[.int .i64 0, .slice none 0 0] 61) = wF10A3 at *
          have HGF10A3 := Lib.hid hgenF10A3
          clear hgenF10A3
          refine ⟨⟨hsssdssa.cellAt 0 rfl 0 rfl, hsssdssa.cellAt 0 rfl 1 rfl, hsssdssa.cellAt 1 rfl 0 rfl, hsssdssa.cellAt 1 rfl 1 rfl⟩, ?_⟩
          (repeat (first | (apply t4_skip rfl (by rfl); try simp only [Act.put, List.setIfInBounds_toArray, List.set_cons_zero, List.set_cons_succ]) | (apply t4_float rfl (by rfl); (· (intro w' hS; go_simp <;> with_reducible rfl)); (try simp only [Act.put, List.setIfInBounds_toArray, List.set_cons_zero, List.set_cons_succ]))))
          refine t4_hard rfl (by rfl) (fun K hK => ?_)
          go_wp2_with (go_at_call 13; refine (toInt64S_b x2 _ _ (Rd.mono H2.out hsssdssa.bel) (by omega)).mono ?_; rintro e w5 ⟨us20, rfl, frs2, hb5⟩)
          have Js0''' := Lib.hid (Iv.mono Js0''.out hb5)
          try clear Js0''
          have Js1'' := Lib.hid (Iv.mono Js1'.out hb5)
          try clear Js1'
          have hsssdssas := hsssdssa.step hb5
          have hz5 : wF10A3.heap.size ≤ w5.heap.size := by simpa using hb5.size
          have Js2 := Lib.hid (Fresh.iv frs2)
          obtain ⟨as2, cs2, rfl, _⟩ := rd_list (Iv.rd Js2.out)
          clear frs2
          refine ⟨⟨hsssdssas.cellAt 0 rfl 0 rfl, hsssdssas.cellAt 0 rfl 1 rfl, hsssdssas.cellAt 1 rfl 0 rfl, hsssdssas.cellAt 1 rfl 1 rfl⟩, ?_⟩
          (repeat (first | (apply t4_skip rfl (by rfl); try simp only [Act.put, List.setIfInBounds_toArray, List.set_cons_zero, List.set_cons_succ]) | (apply t4_float rfl (by rfl); (· (intro w' hS; go_simp <;> with_reducible rfl)); (try simp only [Act.put, List.setIfInBounds_toArray, List.set_cons_zero, List.set_cons_succ]))))
          refine t4_hard rfl (by rfl) (fun K hK => ?_)
          go_wp2_with (go_at_call 31; refine (CS.out _ _ _ _ _ _ (Iv.rd Js0'''.out) (Iv.rd Js1''.out) (Iv.rd Js2.out) (by omega)).mono ?_; rintro e w6 ⟨uW0, uW1, rfl, frW, hb6⟩)
          have Js0'''' := Lib.hid (Iv.mono Js0'''.out hb6)
          try clear Js0'''
          have Js1''' := Lib.hid (Iv.mono Js1''.out hb6)
          try clear Js1''
          have Js2' := Lib.hid (Iv.mono Js2.out hb6)
          try clear Js2
          have hsssdssass := hsssdssas.step hb6
          have hz6 : w5.heap.size ≤ w6.heap.size := by simpa using hb6.size
          have JW := Lib.hid (Fresh.iv frW)
          have zW0 := rd_cons rfl (Iv.rd JW.out)
          obtain ⟨rfl, _⟩ := rd_i1 zW0.1
          obtain ⟨aW1, cW1, rfl, _⟩ := rd_list zW0.2
          clear zW0
          clear frW
          try clear Js0''''
          try clear Js1'''
          try clear Js2'
          refine ⟨⟨hsssdssass.cellAt 0 rfl 0 rfl, hsssdssass.cellAt 0 rfl 1 rfl, hsssdssass.cellAt 1 rfl 0 rfl, hsssdssass.cellAt 1 rfl 1 rfl⟩, ?_⟩
          (repeat (first | (apply t4_skip rfl (by rfl); try simp only [Act.put, List.setIfInBounds_toArray, List.set_cons_zero, List.set_cons_succ]) | (apply t4_float rfl (by rfl); (· (intro w' hS; go_simp <;> with_reducible rfl)); (try simp only [Act.put, List.setIfInBounds_toArray, List.set_cons_zero, List.set_cons_succ]))))
          refine t4_hard rfl (by rfl) (fun K hK => ?_)
          have fF100 := hsssdssass.freeAt 2 rfl 0
          have cF100 := hsssdssass.cellAt 2 rfl 0 rfl
          have fF101 := hsssdssass.freeAt 2 rfl 1
          have cF101 := hsssdssass.cellAt 2 rfl 1 rfl
          go_wp2_with fail
          have hsssdssasst := ((hsssdssass.set (p := [_, _]) (by simp <;> omega) 0 (.int .i64 r0)).set (p := [_, _]) (by simp <;> omega) 1 (.slice aW1 r1.length cW1))
          have JW' := Lib.hid (Iv.setOut (Iv.setOut JW.out (a := ⟨w4.heap.size, 0, none⟩) (by first | (left; simp only; first | done | omega) | (right; simp only; first | done | omega)) (.int .i64 r0)) (a := ⟨w4.heap.size, 1, none⟩) (by first | (left; simp only; first | done | omega) | (right; simp only; first | done | omega)) (.slice aW1 r1.length cW1))
          try clear JW
          clear fF100 cF100 fF101 cF101
          refine ⟨?_, ?_⟩
          · first | exact ⟨hsssdssasst.cellAt 0 rfl 0 rfl, hsssdssasst.cellAt 0 rfl 1 rfl, hsssdssasst.cellAt 1 rfl 0 rfl, hsssdssasst.cellAt 1 rfl 1 rfl⟩ | exact ⟨hsssdssass.cellAt 0 rfl 0 rfl, hsssdssass.cellAt 0 rfl 1 rfl, hsssdssass.cellAt 1 rfl 0 rfl, hsssdssass.cellAt 1 rfl 1 rfl⟩
          (repeat (first | (apply t4_skip rfl (by rfl); try simp only [Act.put, List.setIfInBounds_toArray, List.set_cons_zero, List.set_cons_succ]) | (apply t4_float rfl (by rfl); (· (intro w' hS; go_simp <;> with_reducible rfl)); (try simp only [Act.put, List.setIfInBounds_toArray, List.set_cons_zero, List.set_cons_succ]))))
          refine t4_nil (NoPanic.normal ?_)
          have hsF10 : St w ((w6.setCell ⟨w4.heap.size, 0, none⟩ (.int .i64 r0)).setCell ⟨w4.heap.size, 1, none⟩ (.slice aW1 r1.length cW1)).heap.size ((w6.setCell ⟨w4.heap.size, 0, none⟩ (.int .i64 r0)).setCell ⟨w4.heap.size, 1, none⟩ (.slice aW1 r1.length cW1)) [(w.heap.size, #[.int .i64 x00, .slice a01 x01.length c01], 24), (w.heap.size + 1, #[.int .i64 x10, .slice a11 x11.length c11], 55), (w4.heap.size, #[.int .i64 r0, .slice aW1 r1.length cW1], 61)] := hsssdssasst.up hsssdssasst.hi (Nat.le_refl _)
          have hVF10 : w6.heap.size = ((w6.setCell ⟨w4.heap.size, 0, none⟩ (.int .i64 r0)).setCell ⟨w4.heap.size, 1, none⟩ (.slice aW1 r1.length cW1)).heap.size := by simp [World.setCell]
          obtain ⟨loUF10, hiUF10, hUF10, JUF10⟩ : ∃ lo hi : Nat, (w2.heap.size ≤ lo ∧ hi ≤ w6.heap.size ∧ (w4.heap.size < lo ∨ hi ≤ w4.heap.size) ∧ w2.heap.size ≤ w4.heap.size ∧ w4.heap.size < w6.heap.size) ∧ Hid (Iv lo hi ((w6.setCell ⟨w4.heap.size, 0, none⟩ (.int .i64 r0)).setCell ⟨w4.heap.size, 1, none⟩ (.slice aW1 r1.length cW1)) [.int .i64 r0, .slice aW1 r1.length cW1] (r0, r1)) := ⟨w5.heap.size, w6.heap.size, by omega, JW'.out⟩
          rw [hVF10] at hUF10
          clear hVF10 JW'
          generalize hhwUF10 : ((w6.setCell ⟨w4.heap.size, 0, none⟩ (.int .i64 r0)).setCell ⟨w4.heap.size, 1, none⟩ (.slice aW1 r1.length cW1)) = wUF10 at hsF10 hUF10 JUF10 ⊢
          clear hhwUF10
          generalize hhgUF10 : w4.heap.size = gUF10 at hsF10 hUF10 JUF10 ⊢
          clear hhgUF10
          generalize as01 = zas01 at hsF10 hUF10 JUF10 ⊢
          generalize cs01 = zcs01 at hsF10 hUF10 JUF10 ⊢
          generalize as11 = zas11 at hsF10 hUF10 JUF10 ⊢
          generalize cs11 = zcs11 at hsF10 hUF10 JUF10 ⊢
          generalize as2 = zas2 at hsF10 hUF10 JUF10 ⊢
          generalize cs2 = zcs2 at hsF10 hUF10 JUF10 ⊢
          generalize aW1 = zaW1 at hsF10 hUF10 JUF10 ⊢
          generalize cW1 = zcW1 at hsF10 hUF10 JUF10 ⊢
          revert JUF10
          revert hUF10
          revert hsF10
          revert zcW1
          revert zaW1
          revert zcs2
          revert zas2
          revert zcs11
          revert zas11
          revert zcs01
          revert zas01
          revert hiUF10
          revert loUF10
          revert gUF10
          revert wUF10
          exact HJ.get
      · refine t4_hard rfl (by rfl) (fun K hK => ?_)
        go_wp2_with fail
        have hsssdsa := hsssds.alloc #[.int .i64 0, .slice none 0 0] 61 rfl
        have Js0' := Lib.hid (Iv.mono Js0.out (belowA _ (.cells #[.int .i64 0, .slice none 0 0] 61)))
        try clear Js0
        have hzF10A4 : w3.heap.size + 1 ≤ (w3.alloc (.cells #[.int .i64 0, .slice none 0 0] 61)).heap.size := by simp
        generalize hgenF10A4 : w3.alloc (.cells #[.int .i64 0, .slice none 0 0] 61) = wF10A4 at *
        have HGF10A4 := Lib.hid hgenF10A4
        clear hgenF10A4
        refine ⟨⟨hsssdsa.cellAt 0 rfl 0 rfl, hsssdsa.cellAt 0 rfl 1 rfl, hsssdsa.cellAt 1 rfl 0 rfl, hsssdsa.cellAt 1 rfl 1 rfl⟩, ?_⟩
        (repeat (first | (apply t4_skip rfl (by rfl); try simp only [Act.put, List.setIfInBounds_toArray, List.set_cons_zero, List.set_cons_succ]) | (apply t4_float rfl (by rfl); (· (intro w' hS; go_simp <;> with_reducible rfl)); (try simp only [Act.put, List.setIfInBounds_toArray, List.set_cons_zero, List.set_cons_succ]))))
        refine t4_hard rfl (by rfl) (fun K hK => ?_)
        go_wp2_with (go_at_call 26; refine (toInstance_b (x10, x11) _ _ _ (Rd.mono H1.out hsssdsa.bel) gc1).mono ?_; rintro e w4 ⟨us10, us11, rfl, frs1, hb4⟩)
        have Js0'' := Lib.hid (Iv.mono Js0'.out hb4)
        try clear Js0'
        have hsssdsas := hsssdsa.step hb4
        have hz4 : wF10A4.heap.size ≤ w4.heap.size := by simpa using hb4.size
        have Js1 := Lib.hid (Fresh.iv frs1)
        have zs10 := rd_cons rfl (Iv.rd Js1.out)
        obtain ⟨rfl, _⟩ := rd_i1 zs10.1
        obtain ⟨as11, cs11, rfl, _⟩ := rd_list zs10.2
        clear zs10
        clear frs1
        refine ⟨⟨hsssdsas.cellAt 0 rfl 0 rfl, hsssdsas.cellAt 0 rfl 1 rfl, hsssdsas.cellAt 1 rfl 0 rfl, hsssdsas.cellAt 1 rfl 1 rfl⟩, ?_⟩
        (repeat (first | (apply t4_skip rfl (by rfl); try simp only [Act.put, List.setIfInBounds_toArray, List.set_cons_zero, List.set_cons_succ]) | (apply t4_float rfl (by rfl); (· (intro w' hS; go_simp <;> with_reducible rfl)); (try simp only [Act.put, List.setIfInBounds_toArray, List.set_cons_zero, List.set_cons_succ]))))
        refine t4_hard rfl (by rfl) (fun K hK => ?_)
        go_wp2_with (go_at_call 13; refine (toInt64S_b x2 _ _ (Rd.mono H2.out hsssdsas.bel) (by omega)).mono ?_; rintro e w5 ⟨us20, rfl, frs2, hb5⟩)
        have Js0''' := Lib.hid (Iv.mono Js0''.out hb5)
        try clear Js0''
        have Js1' := Lib.hid (Iv.mono Js1.out hb5)
        try clear Js1
        have hsssdsass := hsssdsas.step hb5
        have hz5 : w4.heap.size ≤ w5.heap.size := by simpa using hb5.size
        have Js2 := Lib.hid (Fresh.iv frs2)
        obtain ⟨as2, cs2, rfl, _⟩ := rd_list (Iv.rd Js2.out)
        clear frs2
        refine ⟨⟨hsssdsass.cellAt 0 rfl 0 rfl, hsssdsass.cellAt 0 rfl 1 rfl, hsssdsass.cellAt 1 rfl 0 rfl, hsssdsass.cellAt 1 rfl 1 rfl⟩, ?_⟩
        (repeat (first | (apply t4_skip rfl (by rfl); try simp only [Act.put, List.setIfInBounds_toArray, List.set_cons_zero, List.set_cons_succ]) | (apply t4_float rfl (by rfl); (· (intro w' hS; go_simp <;> with_reducible rfl)); (try simp only [Act.put, List.setIfInBounds_toArray, List.set_cons_zero, List.set_cons_succ]))))
        refine t4_hard rfl (by rfl) (fun K hK => ?_)
        go_wp2_with (go_at_call 31; refine (CS.out _ _ _ _ _ _ (Iv.rd Js0'''.out) (Iv.rd Js1'.out) (Iv.rd Js2.out) (by omega)).mono ?_; rintro e w6 ⟨uW0, uW1, rfl, frW, hb6⟩)
        have Js0'''' := Lib.hid (Iv.mono Js0'''.out hb6)
        try clear Js0'''
        have Js1'' := Lib.hid (Iv.mono Js1'.out hb6)
        try clear Js1'
        have Js2' := Lib.hid (Iv.mono Js2.out hb6)
        try clear Js2
        have hsssdsasss := hsssdsass.step hb6
        have hz6 : w5.heap.size ≤ w6.heap.size := by simpa using hb6.size
        have JW := Lib.hid (Fresh.iv frW)
        have zW0 := rd_cons rfl (Iv.rd JW.out)
        obtain ⟨rfl, _⟩ := rd_i1 zW0.1
        obtain ⟨aW1, cW1, rfl, _⟩ := rd_list zW0.2
        clear zW0
        clear frW
        try clear Js0''''
        try clear Js1''
        try clear Js2'
        refine ⟨⟨hsssdsasss.cellAt 0 rfl 0 rfl, hsssdsasss.cellAt 0 rfl 1 rfl, hsssdsasss.cellAt 1 rfl 0 rfl, hsssdsasss.cellAt 1 rfl 1 rfl⟩, ?_⟩
        (repeat (first | (apply t4_skip rfl (by rfl); try simp only [Act.put, List.setIfInBounds_toArray, List.set_cons_zero, List.set_cons_succ]) | (apply t4_float rfl (by rfl); (· (intro w' hS; go_simp <;> with_reducible rfl)); (try simp only [Act.put, List.setIfInBounds_toArray, List.set_cons_zero, List.set_cons_succ]))))
        refine t4_hard rfl (by rfl) (fun K hK => ?_)
        have fF100 := hsssdsasss.freeAt 2 rfl 0
        have cF100 := hsssdsasss.cellAt 2 rfl 0 rfl
        have fF101 := hsssdsasss.freeAt 2 rfl 1
        have cF101 := hsssdsasss.cellAt 2 rfl 1 rfl
        go_wp2_with fail
        have hsssdsassst := ((hsssdsasss.set (p := [_, _]) (by simp <;> omega) 0 (.int .i64 r0)).set (p := [_, _]) (by simp <;> omega) 1 (.slice aW1 r1.length cW1))
        have JW' := Lib.hid (Iv.setOut (Iv.setOut JW.out (a := ⟨w3.heap.size, 0, none⟩) (by first | (left; simp only; first | done | omega) | (right; simp only; first | done | omega)) (.int .i64 r0)) (a := ⟨w3.heap.size, 1, none⟩) (by first | (left; simp only; first | done | omega) | (right; simp only; first | done | omega)) (.slice aW1 r1.length cW1))
        try clear JW
        clear fF100 cF100 fF101 cF101
        refine ⟨?_, ?_⟩
        · first | exact ⟨hsssdsassst.cellAt 0 rfl 0 rfl, hsssdsassst.cellAt 0 rfl 1 rfl, hsssdsassst.cellAt 1 rfl 0 rfl, hsssdsassst.cellAt 1 rfl 1 rfl⟩ | exact ⟨hsssdsasss.cellAt 0 rfl 0 rfl, hsssdsasss.cellAt 0 rfl 1 rfl, hsssdsasss.cellAt 1 rfl 0 rfl, hsssdsasss.cellAt 1 rfl 1 rfl⟩
        (repeat (first | (apply t4_skip rfl (by rfl); try simp only [Act.put, List.setIfInBounds_toArray, List.set_cons_zero, List.set_cons_succ]) | (apply t4_float rfl (by rfl); (· (intro w' hS; go_simp <;> with_reducible rfl)); (try simp only [Act.put, List.setIfInBounds_toArray, List.set_cons_zero, List.set_cons_succ]))))
        refine t4_nil (NoPanic.normal ?_)
        have hsF10 : St w ((w6.setCell ⟨w3.heap.size, 0, none⟩ (.int .i64 r0)).setCell ⟨w3.heap.size, 1, none⟩ (.slice aW1 r1.length cW1)).heap.size ((w6.setCell ⟨w3.heap.size, 0, none⟩ (.int .i64 r0)).setCell ⟨w3.heap.size, 1, none⟩ (.slice aW1 r1.length cW1)) [(w.heap.size, #[.int .i64 x00, .slice a01 x01.length c01], 24), (w.heap.size + 1, #[.int .i64 x10, .slice a11 x11.length c11], 55), (w3.heap.size, #[.int .i64 r0, .slice aW1 r1.length cW1], 61)] := hsssdsassst.up hsssdsassst.hi (Nat.le_refl _)
        have hVF10 : w6.heap.size = ((w6.setCell ⟨w3.heap.size, 0, none⟩ (.int .i64 r0)).setCell ⟨w3.heap.size, 1, none⟩ (.slice aW1 r1.length cW1)).heap.size := by simp [World.setCell]
        obtain ⟨loUF10, hiUF10, hUF10, JUF10⟩ : ∃ lo hi : Nat, (w2.heap.size ≤ lo ∧ hi ≤ w6.heap.size ∧ (w3.heap.size < lo ∨ hi ≤ w3.heap.size) ∧ w2.heap.size ≤ w3.heap.size ∧ w3.heap.size < w6.heap.size) ∧ Hid (Iv lo hi ((w6.setCell ⟨w3.heap.size, 0, none⟩ (.int .i64 r0)).setCell ⟨w3.heap.size, 1, none⟩ (.slice aW1 r1.length cW1)) [.int .i64 r0, .slice aW1 r1.length cW1] (r0, r1)) := ⟨w5.heap.size, w6.heap.size, by omega, JW'.out⟩
        rw [hVF10] at hUF10
        clear hVF10 JW'
        generalize hhwUF10 : ((w6.setCell ⟨w3.heap.size, 0, none⟩ (.int .i64 r0)).setCell ⟨w3.heap.size, 1, none⟩ (.slice aW1 r1.length cW1)) = wUF10 at hsF10 hUF10 JUF10 ⊢
        clear hhwUF10
        generalize hhgUF10 : w3.heap.size = gUF10 at hsF10 hUF10 JUF10 ⊢
        clear hhgUF10
        generalize as01 = zas01 at hsF10 hUF10 JUF10 ⊢
        generalize cs01 = zcs01 at hsF10 hUF10 JUF10 ⊢
        generalize as11 = zas11 at hsF10 hUF10 JUF10 ⊢
        generalize cs11 = zcs11 at hsF10 hUF10 JUF10 ⊢
        generalize as2 = zas2 at hsF10 hUF10 JUF10 ⊢
        generalize cs2 = zcs2 at hsF10 hUF10 JUF10 ⊢
        generalize aW1 = zaW1 at hsF10 hUF10 JUF10 ⊢
        generalize cW1 = zcW1 at hsF10 hUF10 JUF10 ⊢
        revert JUF10
        revert hUF10
        revert hsF10
        revert zcW1
        revert zaW1
        revert zcs2
        revert zas2
        revert zcs11
        revert zas11
        revert zcs01
        revert zas01
        revert hiUF10
        revert loUF10
        revert gUF10
        revert wUF10
        exact HJ.get
    · refine t4_hard rfl (by rfl) (fun K hK => ?_)
      go_wp2_with fail
      have hsssda := hsssd.alloc #[.int .i64 0, .slice none 0 0] 61 rfl
      have hzF10A5 : wF10.heap.size + 1 ≤ (wF10.alloc (.cells #[.int .i64 0, .slice none 0 0] 61)).heap.size := by simp
      generalize hgenF10A5 : wF10.alloc (.cells #[.int .i64 0, .slice none 0 0] 61) = wF10A5 at *
      have HGF10A5 := Lib.hid hgenF10A5
      clear hgenF10A5
      refine ⟨⟨hsssda.cellAt 0 rfl 0 rfl, hsssda.cellAt 0 rfl 1 rfl, hsssda.cellAt 1 rfl 0 rfl, hsssda.cellAt 1 rfl 1 rfl⟩, ?_⟩
      (repeat (first | (apply t4_skip rfl (by rfl); try simp only [Act.put, List.setIfInBounds_toArray, List.set_cons_zero, List.set_cons_succ]) | (apply t4_float rfl (by rfl); (· (intro w' hS; go_simp <;> with_reducible rfl)); (try simp only [Act.put, List.setIfInBounds_toArray, List.set_cons_zero, List.set_cons_succ]))))
      refine t4_hard rfl (by rfl) (fun K hK => ?_)
      go_wp2_with (go_at_call 11; refine (toTemplate_b (x00, x01) _ _ _ (Rd.mono H0.out hsssda.bel) gc0).mono ?_; rintro e w3 ⟨us00, us01, rfl, frs0, hb3⟩)
      have hsssdas := hsssda.step hb3
      have hz3 : wF10A5.heap.size ≤ w3.heap.size := by simpa using hb3.size
      have Js0 := Lib.hid (Fresh.iv frs0)
      have zs00 := rd_cons rfl (Iv.rd Js0.out)
      obtain ⟨rfl, _⟩ := rd_i1 zs00.1
      obtain ⟨as01, cs01, rfl, _⟩ := rd_list zs00.2
      clear zs00
      clear frs0
      refine ⟨⟨hsssdas.cellAt 0 rfl 0 rfl, hsssdas.cellAt 0 rfl 1 rfl, hsssdas.cellAt 1 rfl 0 rfl, hsssdas.cellAt 1 rfl 1 rfl⟩, ?_⟩
      (repeat (first | (apply t4_skip rfl (by rfl); try simp only [Act.put, List.setIfInBounds_toArray, List.set_cons_zero, List.set_cons_succ]) | (apply t4_float rfl (by rfl); (· (intro w' hS; go_simp <;> with_reducible rfl)); (try simp only [Act.put, List.setIfInBounds_toArray, List.set_cons_zero, List.set_cons_succ]))))
      refine t4_hard rfl (by rfl) (fun K hK => ?_)
      go_wp2_with (go_at_call 26; refine (toInstance_b (x10, x11) _ _ _ (Rd.mono H1.out hsssdas.bel) gc1).mono ?_; rintro e w4 ⟨us10, us11, rfl, frs1, hb4⟩)
      have Js0' := Lib.hid (Iv.mono Js0.out hb4)
      try clear Js0
      have hsssdass := hsssdas.step hb4
      have hz4 : w3.heap.size ≤ w4.heap.size := by simpa using hb4.size
      have Js1 := Lib.hid (Fresh.iv frs1)
      have zs10 := rd_cons rfl (Iv.rd Js1.out)
      obtain ⟨rfl, _⟩ := rd_i1 zs10.1
      obtain ⟨as11, cs11, rfl, _⟩ := rd_list zs10.2
      clear zs10
      clear frs1
      refine ⟨⟨hsssdass.cellAt 0 rfl 0 rfl, hsssdass.cellAt 0 rfl 1 rfl, hsssdass.cellAt 1 rfl 0 rfl, hsssdass.cellAt 1 rfl 1 rfl⟩, ?_⟩
      (repeat (first | (apply t4_skip rfl (by rfl); try simp only [Act.put, List.setIfInBounds_toArray, List.set_cons_zero, List.set_cons_succ]) | (apply t4_float rfl (by rfl); (· (intro w' hS; go_simp <;> with_reducible rfl)); (try simp only [Act.put, List.setIfInBounds_toArray, List.set_cons_zero, List.set_cons_succ]))))
      refine t4_hard rfl (by rfl) (fun K hK => ?_)
      go_wp2_with (go_at_call 13; refine (toInt64S_b x2 _ _ (Rd.mono H2.out hsssdass.bel) (by omega)).mono ?_; rintro e w5 ⟨us20, rfl, frs2, hb5⟩)
      have Js0'' := Lib.hid (Iv.mono Js0'.out hb5)
      try clear Js0'
      have Js1' := Lib.hid (Iv.mono Js1.out hb5)
      try clear Js1
      have hsssdasss := hsssdass.step hb5
      have hz5 : w4.heap.size ≤ w5.heap.size := by simpa using hb5.size
      have Js2 := Lib.hid (Fresh.iv frs2)
      obtain ⟨as2, cs2, rfl, _⟩ := rd_list (Iv.rd Js2.out)
      clear frs2
      refine ⟨⟨hsssdasss.cellAt 0 rfl 0 rfl, hsssdasss.cellAt 0 rfl 1 rfl, hsssdasss.cellAt 1 rfl 0 rfl, hsssdasss.cellAt 1 rfl 1 rfl⟩, ?_⟩
      (repeat (first | (apply t4_skip rfl (by rfl); try simp only [Act.put, List.setIfInBounds_toArray, List.set_cons_zero, List.set_cons_succ]) | (apply t4_float rfl (by rfl); (· (intro w' hS; go_simp <;> with_reducible rfl)); (try simp only [Act.put, List.setIfInBounds_toArray, List.set_cons_zero, List.set_cons_succ]))))
      refine t4_hard rfl (by rfl) (fun K hK => ?_)
      go_wp2_with (go_at_call 31; refine (CS.out _ _ _ _ _ _ (Iv.rd Js0''.out) (Iv.rd Js1'.out) (Iv.rd Js2.out) (by omega)).mono ?_; rintro e w6 ⟨uW0, uW1, rfl, frW, hb6⟩)
      have Js0''' := Lib.hid (Iv.mono Js0''.out hb6)
      try clear Js0''
      have Js1'' := Lib.hid (Iv.mono Js1'.out hb6)
      try clear Js1'
      have Js2' := Lib.hid (Iv.mono Js2.out hb6)
      try clear Js2
      have hsssdassss := hsssdasss.step hb6
      have hz6 : w5.heap.size ≤ w6.heap.size := by simpa using hb6.size
      have JW := Lib.hid (Fresh.iv frW)
      have zW0 := rd_cons rfl (Iv.rd JW.out)
      obtain ⟨rfl, _⟩ := rd_i1 zW0.1
      obtain ⟨aW1, cW1, rfl, _⟩ := rd_list zW0.2
      clear zW0
      clear frW
      try clear Js0'''
      try clear Js1''
      try clear Js2'
      refine ⟨⟨hsssdassss.cellAt 0 rfl 0 rfl, hsssdassss.cellAt 0 rfl 1 rfl, hsssdassss.cellAt 1 rfl 0 rfl, hsssdassss.cellAt 1 rfl 1 rfl⟩, ?_⟩
      (repeat (first | (apply t4_skip rfl (by rfl); try simp only [Act.put, List.setIfInBounds_toArray, List.set_cons_zero, List.set_cons_succ]) | (apply t4_float rfl (by rfl); (· (intro w' hS; go_simp <;> with_reducible rfl)); (try simp only [Act.put, List.setIfInBounds_toArray, List.set_cons_zero, List.set_cons_succ]))))
      refine t4_hard rfl (by rfl) (fun K hK => ?_)
      have fF100 := hsssdassss.freeAt 2 rfl 0
      have cF100 := hsssdassss.cellAt 2 rfl 0 rfl
      have fF101 := hsssdassss.freeAt 2 rfl 1
      have cF101 := hsssdassss.cellAt 2 rfl 1 rfl
      go_wp2_with fail
      have hsssdasssst := ((hsssdassss.set (p := [_, _]) (by simp <;> omega) 0 (.int .i64 r0)).set (p := [_, _]) (by simp <;> omega) 1 (.slice aW1 r1.length cW1))
      have JW' := Lib.hid (Iv.setOut (Iv.setOut JW.out (a := ⟨wF10.heap.size, 0, none⟩) (by first | (left; simp only; first | done | omega) | (right; simp only; first | done | omega)) (.int .i64 r0)) (a := ⟨wF10.heap.size, 1, none⟩) (by first | (left; simp only; first | done | omega) | (right; simp only; first | done | omega)) (.slice aW1 r1.length cW1))
      try clear JW
      clear fF100 cF100 fF101 cF101
      refine ⟨?_, ?_⟩
      · first | exact ⟨hsssdasssst.cellAt 0 rfl 0 rfl, hsssdasssst.cellAt 0 rfl 1 rfl, hsssdasssst.cellAt 1 rfl 0 rfl, hsssdasssst.cellAt 1 rfl 1 rfl⟩ | exact ⟨hsssdassss.cellAt 0 rfl 0 rfl, hsssdassss.cellAt 0 rfl 1 rfl, hsssdassss.cellAt 1 rfl 0 rfl, hsssdassss.cellAt 1 rfl 1 rfl⟩
      (repeat (first | (apply t4_skip rfl (by rfl); try simp only [Act.put, List.setIfInBounds_toArray, List.set_cons_zero, List.set_cons_succ]) | (apply t4_float rfl (by rfl); (· (intro w' hS; go_simp <;> with_reducible rfl)); (try simp only [Act.put, List.setIfInBounds_toArray, List.set_cons_zero, List.set_cons_succ]))))
      refine t4_nil (NoPanic.normal ?_)
      have hsF10 : St w ((w6.setCell ⟨wF10.heap.size, 0, none⟩ (.int .i64 r0)).setCell ⟨wF10.heap.size, 1, none⟩ (.slice aW1 r1.length cW1)).heap.size ((w6.setCell ⟨wF10.heap.size, 0, none⟩ (.int .i64 r0)).setCell ⟨wF10.heap.size, 1, none⟩ (.slice aW1 r1.length cW1)) [(w.heap.size, #[.int .i64 x00, .slice a01 x01.length c01], 24), (w.heap.size + 1, #[.int .i64 x10, .slice a11 x11.length c11], 55), (wF10.heap.size, #[.int .i64 r0, .slice aW1 r1.length cW1], 61)] := hsssdasssst.up hsssdasssst.hi (Nat.le_refl _)
      have hVF10 : w6.heap.size = ((w6.setCell ⟨wF10.heap.size, 0, none⟩ (.int .i64 r0)).setCell ⟨wF10.heap.size, 1, none⟩ (.slice aW1 r1.length cW1)).heap.size := by simp [World.setCell]
      obtain ⟨loUF10, hiUF10, hUF10, JUF10⟩ : ∃ lo hi : Nat, (w2.heap.size ≤ lo ∧ hi ≤ w6.heap.size ∧ (wF10.heap.size < lo ∨ hi ≤ wF10.heap.size) ∧ w2.heap.size ≤ wF10.heap.size ∧ wF10.heap.size < w6.heap.size) ∧ Hid (Iv lo hi ((w6.setCell ⟨wF10.heap.size, 0, none⟩ (.int .i64 r0)).setCell ⟨wF10.heap.size, 1, none⟩ (.slice aW1 r1.length cW1)) [.int .i64 r0, .slice aW1 r1.length cW1] (r0, r1)) := ⟨w5.heap.size, w6.heap.size, by omega, JW'.out⟩
      rw [hVF10] at hUF10
      clear hVF10 JW'
      generalize hhwUF10 : ((w6.setCell ⟨wF10.heap.size, 0, none⟩ (.int .i64 r0)).setCell ⟨wF10.heap.size, 1, none⟩ (.slice aW1 r1.length cW1)) = wUF10 at hsF10 hUF10 JUF10 ⊢
      clear hhwUF10
      generalize hhgUF10 : wF10.heap.size = gUF10 at hsF10 hUF10 JUF10 ⊢
      clear hhgUF10
      generalize as01 = zas01 at hsF10 hUF10 JUF10 ⊢
      generalize cs01 = zcs01 at hsF10 hUF10 JUF10 ⊢
      generalize as11 = zas11 at hsF10 hUF10 JUF10 ⊢
      generalize cs11 = zcs11 at hsF10 hUF10 JUF10 ⊢
      generalize as2 = zas2 at hsF10 hUF10 JUF10 ⊢
      generalize cs2 = zcs2 at hsF10 hUF10 JUF10 ⊢
      generalize aW1 = zaW1 at hsF10 hUF10 JUF10 ⊢
      generalize cW1 = zcW1 at hsF10 hUF10 JUF10 ⊢
      revert JUF10
      revert hUF10
      revert hsF10
      revert zcW1
      revert zaW1
      revert zcs2
      revert zas2
      revert zcs11
      revert zas11
      revert zcs01
      revert zas01
      revert hiUF10
      revert loUF10
      revert gUF10
      revert wUF10
      exact HJ.get
  intro wUF10 gUF10 loUF10 hiUF10 as01 cs01 as11 cs11 as2 cs2 aW1 cW1
  intro hsF10 hUF10 JWF10
  obtain ⟨h1F10, h2F10, h3F10, h4F10, h5F10⟩ := hUF10
  have qa00 := hsF10.cellAt 0 rfl 0 rfl
  have qa01 := hsF10.cellAt 0 rfl 1 rfl
  have qa10 := hsF10.cellAt 1 rfl 0 rfl
  have qa11 := hsF10.cellAt 1 rfl 1 rfl
  have qw0 := hsF10.cellAt 2 rfl 0 rfl
  have qw1 := hsF10.cellAt 2 rfl 1 rfl
  go_wp2_with fail
  refine (toTemplate_b (x00, x01) _ _ _ (Rd.mono H0.out hsF10.bel) gc0).mono ?_
  rintro e w7 ⟨ux00, ux01, rfl, frx0, hb7⟩
  have JWF10' := Lib.hid (Iv.mono JWF10.out hb7)
  clear JWF10
  have hsF10s := hsF10.step hb7
  have hz3 : wUF10.heap.size ≤ w7.heap.size := by simpa using hb7.size
  have Jx0 := Lib.hid (Fresh.iv frx0)
  have zx00 := rd_cons rfl (Iv.rd Jx0.out)
  obtain ⟨rfl, _⟩ := rd_i1 zx00.1
  obtain ⟨ax01, cx01, rfl, _⟩ := rd_list zx00.2
  clear zx00
  clear frx0
  clear qa00 qa01 qa10 qa11 qw0 qw1
  have qa00 := hsF10s.cellAt 0 rfl 0 rfl
  have qa01 := hsF10s.cellAt 0 rfl 1 rfl
  have qa10 := hsF10s.cellAt 1 rfl 0 rfl
  have qa11 := hsF10s.cellAt 1 rfl 1 rfl
  have qw0 := hsF10s.cellAt 2 rfl 0 rfl
  have qw1 := hsF10s.cellAt 2 rfl 1 rfl
  have hsF10sa := hsF10s.alloc #[.int .i64 x00, .slice ax01 x01.length cx01] 34 rfl
  have JWF10'' := Lib.hid (Iv.mono JWF10'.out (belowA _ (.cells #[.int .i64 x00, .slice ax01 x01.length cx01] 34)))
  clear JWF10'
  have Jx0' := Lib.hid (Iv.mono Jx0.out (belowA _ (.cells #[.int .i64 x00, .slice ax01 x01.length cx01] 34)))
  clear Jx0
  clear qa00 qa01 qa10 qa11 qw0 qw1
  have qa00 := hsF10sa.cellAt 0 rfl 0 rfl
  have qa01 := hsF10sa.cellAt 0 rfl 1 rfl
  have qa10 := hsF10sa.cellAt 1 rfl 0 rfl
  have qa11 := hsF10sa.cellAt 1 rfl 1 rfl
  have qw0 := hsF10sa.cellAt 2 rfl 0 rfl
  have qw1 := hsF10sa.cellAt 2 rfl 1 rfl
  have qx00 := hsF10sa.cellAt 3 rfl 0 rfl
  have qx01 := hsF10sa.cellAt 3 rfl 1 rfl
  go_wp2_with fail
  refine (toInstance_b (x10, x11) _ _ _ (Rd.mono H1.out hsF10sa.bel) gc1).mono ?_
  rintro e w8 ⟨ux10, ux11, rfl, frx1, hb8⟩
  have JWF10''' := Lib.hid (Iv.mono JWF10''.out hb8)
  clear JWF10''
  have Jx0'' := Lib.hid (Iv.mono Jx0'.out hb8)
  clear Jx0'
  have hsF10sas := hsF10sa.step hb8
  have hz4 : w7.heap.size + 1 ≤ w8.heap.size := by simpa using hb8.size
  have Jx1 := Lib.hid (Fresh.iv frx1)
  have zx10 := rd_cons rfl (Iv.rd Jx1.out)
  obtain ⟨rfl, _⟩ := rd_i1 zx10.1
  obtain ⟨ax11, cx11, rfl, _⟩ := rd_list zx10.2
  clear zx10
  clear frx1
  clear qa00 qa01 qa10 qa11 qw0 qw1 qx00 qx01
  have qa00 := hsF10sas.cellAt 0 rfl 0 rfl
  have qa01 := hsF10sas.cellAt 0 rfl 1 rfl
  have qa10 := hsF10sas.cellAt 1 rfl 0 rfl
  have qa11 := hsF10sas.cellAt 1 rfl 1 rfl
  have qw0 := hsF10sas.cellAt 2 rfl 0 rfl
  have qw1 := hsF10sas.cellAt 2 rfl 1 rfl
  have qx00 := hsF10sas.cellAt 3 rfl 0 rfl
  have qx01 := hsF10sas.cellAt 3 rfl 1 rfl
  have hsF10sasa := hsF10sas.alloc #[.int .i64 x10, .slice ax11 x11.length cx11] 61 rfl
  have JWF10'''' := Lib.hid (Iv.mono JWF10'''.out (belowA _ (.cells #[.int .i64 x10, .slice ax11 x11.length cx11] 61)))
  clear JWF10'''
  have Jx0''' := Lib.hid (Iv.mono Jx0''.out (belowA _ (.cells #[.int .i64 x10, .slice ax11 x11.length cx11] 61)))
  clear Jx0''
  have Jx1' := Lib.hid (Iv.mono Jx1.out (belowA _ (.cells #[.int .i64 x10, .slice ax11 x11.length cx11] 61)))
  clear Jx1
  clear qa00 qa01 qa10 qa11 qw0 qw1 qx00 qx01
  have qa00 := hsF10sasa.cellAt 0 rfl 0 rfl
  have qa01 := hsF10sasa.cellAt 0 rfl 1 rfl
  have qa10 := hsF10sasa.cellAt 1 rfl 0 rfl
  have qa11 := hsF10sasa.cellAt 1 rfl 1 rfl
  have qw0 := hsF10sasa.cellAt 2 rfl 0 rfl
  have qw1 := hsF10sasa.cellAt 2 rfl 1 rfl
  have qx00 := hsF10sasa.cellAt 3 rfl 0 rfl
  have qx01 := hsF10sasa.cellAt 3 rfl 1 rfl
  have qx10 := hsF10sasa.cellAt 4 rfl 0 rfl
  have qx11 := hsF10sasa.cellAt 4 rfl 1 rfl
  go_wp2_with fail
  refine (toInt64S_b x2 _ _ (Rd.mono H2.out hsF10sasa.bel) (by omega)).mono ?_
  rintro e w9 ⟨ux20, rfl, frx2, hb9⟩
  have JWF10''''' := Lib.hid (Iv.mono JWF10''''.out hb9)
  clear JWF10''''
  have Jx0'''' := Lib.hid (Iv.mono Jx0'''.out hb9)
  clear Jx0'''
  have Jx1'' := Lib.hid (Iv.mono Jx1'.out hb9)
  clear Jx1'
  have hsF10sasas := hsF10sasa.step hb9
  have hz5 : w8.heap.size + 1 ≤ w9.heap.size := by simpa using hb9.size
  have Jx2 := Lib.hid (Fresh.iv frx2)
  obtain ⟨ax2, cx2, rfl, _⟩ := rd_list (Iv.rd Jx2.out)
  clear frx2
  clear qa00 qa01 qa10 qa11 qw0 qw1 qx00 qx01 qx10 qx11
  have qa00 := hsF10sasas.cellAt 0 rfl 0 rfl
  have qa01 := hsF10sasas.cellAt 0 rfl 1 rfl
  have qa10 := hsF10sasas.cellAt 1 rfl 0 rfl
  have qa11 := hsF10sasas.cellAt 1 rfl 1 rfl
  have qw0 := hsF10sasas.cellAt 2 rfl 0 rfl
  have qw1 := hsF10sasas.cellAt 2 rfl 1 rfl
  have qx00 := hsF10sasas.cellAt 3 rfl 0 rfl
  have qx01 := hsF10sasas.cellAt 3 rfl 1 rfl
  have qx10 := hsF10sasas.cellAt 4 rfl 0 rfl
  have qx11 := hsF10sasas.cellAt 4 rfl 1 rfl
  go_wp2_with fail
  refine (CI.out _ _ _ _ _ _ (Iv.rd Jx0''''.out) (Iv.rd Jx1''.out) (Iv.rd Jx2.out) (by omega)).mono ?_
  rintro e w10 ⟨uG0, uG1, rfl, frG, hb10⟩
  have JWF10'''''' := Lib.hid (Iv.mono JWF10'''''.out hb10)
  clear JWF10'''''
  have Jx0''''' := Lib.hid (Iv.mono Jx0''''.out hb10)
  clear Jx0''''
  have Jx1''' := Lib.hid (Iv.mono Jx1''.out hb10)
  clear Jx1''
  have Jx2' := Lib.hid (Iv.mono Jx2.out hb10)
  clear Jx2
  have hsF10sasass := hsF10sasas.step hb10
  have hz6 : w9.heap.size ≤ w10.heap.size := by simpa using hb10.size
  have JG := Lib.hid (Fresh.iv frG)
  have zG0 := rd_cons rfl (Iv.rd JG.out)
  obtain ⟨rfl, _⟩ := rd_i1 zG0.1
  obtain ⟨aG1, cG1, rfl, _⟩ := rd_list zG0.2
  clear zG0
  clear frG
  clear qa00 qa01 qa10 qa11 qw0 qw1 qx00 qx01 qx10 qx11
  have qa00 := hsF10sasass.cellAt 0 rfl 0 rfl
  have qa01 := hsF10sasass.cellAt 0 rfl 1 rfl
  have qa10 := hsF10sasass.cellAt 1 rfl 0 rfl
  have qa11 := hsF10sasass.cellAt 1 rfl 1 rfl
  have qw0 := hsF10sasass.cellAt 2 rfl 0 rfl
  have qw1 := hsF10sasass.cellAt 2 rfl 1 rfl
  have qx00 := hsF10sasass.cellAt 3 rfl 0 rfl
  have qx01 := hsF10sasass.cellAt 3 rfl 1 rfl
  have qx10 := hsF10sasass.cellAt 4 rfl 0 rfl
  have qx11 := hsF10sasass.cellAt 4 rfl 1 rfl
  have hsF10sasassa := hsF10sasass.alloc #[.int .i64 r0, .slice aG1 r1.length cG1] 61 rfl
  have JWF10''''''' := Lib.hid (Iv.mono JWF10''''''.out (belowA _ (.cells #[.int .i64 r0, .slice aG1 r1.length cG1] 61)))
  clear JWF10''''''
  have Jx0'''''' := Lib.hid (Iv.mono Jx0'''''.out (belowA _ (.cells #[.int .i64 r0, .slice aG1 r1.length cG1] 61)))
  clear Jx0'''''
  have Jx1'''' := Lib.hid (Iv.mono Jx1'''.out (belowA _ (.cells #[.int .i64 r0, .slice aG1 r1.length cG1] 61)))
  clear Jx1'''
  have Jx2'' := Lib.hid (Iv.mono Jx2'.out (belowA _ (.cells #[.int .i64 r0, .slice aG1 r1.length cG1] 61)))
  clear Jx2'
  have JG' := Lib.hid (Iv.mono JG.out (belowA _ (.cells #[.int .i64 r0, .slice aG1 r1.length cG1] 61)))
  clear JG
  clear qa00 qa01 qa10 qa11 qw0 qw1 qx00 qx01 qx10 qx11
  have qa00 := hsF10sasassa.cellAt 0 rfl 0 rfl
  have qa01 := hsF10sasassa.cellAt 0 rfl 1 rfl
  have qa10 := hsF10sasassa.cellAt 1 rfl 0 rfl
  have qa11 := hsF10sasassa.cellAt 1 rfl 1 rfl
  have qw0 := hsF10sasassa.cellAt 2 rfl 0 rfl
  have qw1 := hsF10sasassa.cellAt 2 rfl 1 rfl
  have qx00 := hsF10sasassa.cellAt 3 rfl 0 rfl
  have qx01 := hsF10sasassa.cellAt 3 rfl 1 rfl
  have qx10 := hsF10sasassa.cellAt 4 rfl 0 rfl
  have qx11 := hsF10sasassa.cellAt 4 rfl 1 rfl
  have qg0 := hsF10sasassa.cellAt 5 rfl 0 rfl
  have qg1 := hsF10sasassa.cellAt 5 rfl 1 rfl
  go_wp2_with fail
  refine (eqInstance_s (r0, r1) _ _ _ _ _ (Iv.rd JG'.out) (Iv.rd JWF10'''''''.out)).mono ?_
  rintro e w11 ⟨rfl, hb11⟩
  have JWF10'''''''' := Lib.hid (Iv.mono JWF10'''''''.out hb11)
  clear JWF10'''''''
  have Jx0''''''' := Lib.hid (Iv.mono Jx0''''''.out hb11)
  clear Jx0''''''
  have Jx1''''' := Lib.hid (Iv.mono Jx1''''.out hb11)
  clear Jx1''''
  have Jx2''' := Lib.hid (Iv.mono Jx2''.out hb11)
  clear Jx2''
  have JG'' := Lib.hid (Iv.mono JG'.out hb11)
  clear JG'
  have hsF10sasassas := hsF10sasassa.step hb11
  have hz7 : w10.heap.size + 1 ≤ w11.heap.size := by simpa using hb11.size
  clear qa00 qa01 qa10 qa11 qw0 qw1 qx00 qx01 qx10 qx11 qg0 qg1
  have qa00 := hsF10sasassas.cellAt 0 rfl 0 rfl
  have qa01 := hsF10sasassas.cellAt 0 rfl 1 rfl
  have qa10 := hsF10sasassas.cellAt 1 rfl 0 rfl
  have qa11 := hsF10sasassas.cellAt 1 rfl 1 rfl
  have qw0 := hsF10sasassas.cellAt 2 rfl 0 rfl
  have qw1 := hsF10sasassas.cellAt 2 rfl 1 rfl
  have qx00 := hsF10sasassas.cellAt 3 rfl 0 rfl
  have qx01 := hsF10sasassas.cellAt 3 rfl 1 rfl
  have qx10 := hsF10sasassas.cellAt 4 rfl 0 rfl
  have qx11 := hsF10sasassas.cellAt 4 rfl 1 rfl
  have qg0 := hsF10sasassas.cellAt 5 rfl 0 rfl
  have qg1 := hsF10sasassas.cellAt 5 rfl 1 rfl
  have hcode : (code != code) = false := by simp
  go_wp2_with fail
  refine wp_region_noPanic (wp_region_el (fun w' => w'.cell? ⟨w.heap.size, 0, none⟩ = some (.int .i64 x00) ∧ w'.cell? ⟨w.heap.size, 1, none⟩ = some (.slice a01 x01.length c01) ∧ w'.cell? ⟨w.heap.size + 1, 0, none⟩ = some (.int .i64 x10) ∧ w'.cell? ⟨w.heap.size + 1, 1, none⟩ = some (.slice a11 x11.length c11) ∧ w'.cell? ⟨gUF10, 0, none⟩ = some (.int .i64 r0) ∧ w'.cell? ⟨gUF10, 1, none⟩ = some (.slice aW1 r1.length cW1) ∧ w'.cell? ⟨w7.heap.size, 0, none⟩ = some (.int .i64 x00) ∧ w'.cell? ⟨w7.heap.size, 1, none⟩ = some (.slice ax01 x01.length cx01) ∧ w'.cell? ⟨w8.heap.size, 0, none⟩ = some (.int .i64 x10) ∧ w'.cell? ⟨w8.heap.size, 1, none⟩ = some (.slice ax11 x11.length cx11) ∧ w'.cell? ⟨w10.heap.size, 0, none⟩ = some (.int .i64 r0) ∧ w'.cell? ⟨w10.heap.size, 1, none⟩ = some (.slice aG1 r1.length cG1)) [(0, 0), (1, 0), (2, 1), (3, 1), (4, 0)] (by kernel_rfl) (by kernel_rfl) (by kernel_rfl) rfl ?_ (fun _ _ _ _ _ h => h) ?_)
  · exact ⟨(hsF10sasassas.drew).cellAt 0 rfl 0 rfl, (hsF10sasassas.drew).cellAt 0 rfl 1 rfl, (hsF10sasassas.drew).cellAt 1 rfl 0 rfl, (hsF10sasassas.drew).cellAt 1 rfl 1 rfl, (hsF10sasassas.drew).cellAt 2 rfl 0 rfl, (hsF10sasassas.drew).cellAt 2 rfl 1 rfl, (hsF10sasassas.drew).cellAt 3 rfl 0 rfl, (hsF10sasassas.drew).cellAt 3 rfl 1 rfl, (hsF10sasassas.drew).cellAt 4 rfl 0 rfl, (hsF10sasassas.drew).cellAt 4 rfl 1 rfl, (hsF10sasassas.drew).cellAt 5 rfl 0 rfl, (hsF10sasassas.drew).cellAt 5 rfl 1 rfl⟩
  have JWF10''''''''' := Lib.hid (Iv.mono JWF10''''''''.out (belowD _))
  clear JWF10''''''''
  have Jx0'''''''' := Lib.hid (Iv.mono Jx0'''''''.out (belowD _))
  clear Jx0'''''''
  have Jx1'''''' := Lib.hid (Iv.mono Jx1'''''.out (belowD _))
  clear Jx1'''''
  have Jx2'''' := Lib.hid (Iv.mono Jx2'''.out (belowD _))
  clear Jx2'''
  have JG''' := Lib.hid (Iv.mono JG''.out (belowD _))
  clear JG''
  have hsF10sasassasd := hsF10sasassas.drew
  (repeat (first | (apply el_skip rfl (by rfl); try simp only [Act.put, List.setIfInBounds_toArray, List.set_cons_zero, List.set_cons_succ]) | (apply el_float rfl (by rfl); (· (intro w' hS; go_simp <;> with_reducible rfl)); (try simp only [Act.put, List.setIfInBounds_toArray, List.set_cons_zero, List.set_cons_succ]))))
  refine el_hard rfl (by rfl) (fun K hK => ?_)
  go_wp2_with (go_at_call 11; refine (toTemplate_b (x00, x01) _ _ _ (Rd.mono H0.out hsF10sasassasd.bel) gc0).mono ?_; rintro e w12 ⟨uy00, uy01, rfl, fry0, hb12⟩)
  have JWF10'''''''''' := Lib.hid (Iv.mono JWF10'''''''''.out hb12)
  clear JWF10'''''''''
  have Jx0''''''''' := Lib.hid (Iv.mono Jx0''''''''.out hb12)
  clear Jx0''''''''
  have Jx1''''''' := Lib.hid (Iv.mono Jx1''''''.out hb12)
  clear Jx1''''''
  have Jx2''''' := Lib.hid (Iv.mono Jx2''''.out hb12)
  clear Jx2''''
  have JG'''' := Lib.hid (Iv.mono JG'''.out hb12)
  clear JG'''
  have hsF10sasassasds := hsF10sasassasd.step hb12
  have hz8 : w11.heap.size ≤ w12.heap.size := by simpa using hb12.size
  have Jy0 := Lib.hid (Fresh.iv fry0)
  have zy00 := rd_cons rfl (Iv.rd Jy0.out)
  obtain ⟨rfl, _⟩ := rd_i1 zy00.1
  obtain ⟨ay01, cy01, rfl, _⟩ := rd_list zy00.2
  clear zy00
  clear fry0
  refine ⟨⟨hsF10sasassasds.cellAt 0 rfl 0 rfl, hsF10sasassasds.cellAt 0 rfl 1 rfl, hsF10sasassasds.cellAt 1 rfl 0 rfl, hsF10sasassasds.cellAt 1 rfl 1 rfl, hsF10sasassasds.cellAt 2 rfl 0 rfl, hsF10sasassasds.cellAt 2 rfl 1 rfl, hsF10sasassasds.cellAt 3 rfl 0 rfl, hsF10sasassasds.cellAt 3 rfl 1 rfl, hsF10sasassasds.cellAt 4 rfl 0 rfl, hsF10sasassasds.cellAt 4 rfl 1 rfl, hsF10sasassasds.cellAt 5 rfl 0 rfl, hsF10sasassasds.cellAt 5 rfl 1 rfl⟩, ?_⟩
  (repeat (first | (apply el_skip rfl (by rfl); try simp only [Act.put, List.setIfInBounds_toArray, List.set_cons_zero, List.set_cons_succ]) | (apply el_float rfl (by rfl); (· (intro w' hS; go_simp <;> with_reducible rfl)); (try simp only [Act.put, List.setIfInBounds_toArray, List.set_cons_zero, List.set_cons_succ]))))
  refine el_hard rfl (by rfl) (fun K hK => ?_)
  go_wp2_with (go_at_call 15; refine (eqTemplate_s (x00, x01) _ _ _ _ _ (Iv.rd Jx0'''''''''.out) (Iv.rd Jy0.out)).mono ?_; rintro e w13 ⟨rfl, hb13⟩)
  clear Jy0
  have JWF10''''''''''' := Lib.hid (Iv.mono JWF10''''''''''.out hb13)
  clear JWF10''''''''''
  have Jx0'''''''''' := Lib.hid (Iv.mono Jx0'''''''''.out hb13)
  clear Jx0'''''''''
  have Jx1'''''''' := Lib.hid (Iv.mono Jx1'''''''.out hb13)
  clear Jx1'''''''
  have Jx2'''''' := Lib.hid (Iv.mono Jx2'''''.out hb13)
  clear Jx2'''''
  have JG''''' := Lib.hid (Iv.mono JG''''.out hb13)
  clear JG''''
  have hsF10sasassasdss := hsF10sasassasds.step hb13
  have hz9 : w12.heap.size ≤ w13.heap.size := by simpa using hb13.size
  refine ⟨⟨hsF10sasassasdss.cellAt 0 rfl 0 rfl, hsF10sasassasdss.cellAt 0 rfl 1 rfl, hsF10sasassasdss.cellAt 1 rfl 0 rfl, hsF10sasassasdss.cellAt 1 rfl 1 rfl, hsF10sasassasdss.cellAt 2 rfl 0 rfl, hsF10sasassasdss.cellAt 2 rfl 1 rfl, hsF10sasassasdss.cellAt 3 rfl 0 rfl, hsF10sasassasdss.cellAt 3 rfl 1 rfl, hsF10sasassasdss.cellAt 4 rfl 0 rfl, hsF10sasassasdss.cellAt 4 rfl 1 rfl, hsF10sasassasdss.cellAt 5 rfl 0 rfl, hsF10sasassasdss.cellAt 5 rfl 1 rfl⟩, ?_⟩
  (repeat (first | (apply el_skip rfl (by rfl); try simp only [Act.put, List.setIfInBounds_toArray, List.set_cons_zero, List.set_cons_succ]) | (apply el_float rfl (by rfl); (· (intro w' hS; go_simp <;> with_reducible rfl)); (try simp only [Act.put, List.setIfInBounds_toArray, List.set_cons_zero, List.set_cons_succ]))))
  refine el_nil (NoPanic.normal ?_)
  clear qa00 qa01 qa10 qa11 qw0 qw1 qx00 qx01 qx10 qx11 qg0 qg1
  have qa00 := hsF10sasassasdss.cellAt 0 rfl 0 rfl
  have qa01 := hsF10sasassasdss.cellAt 0 rfl 1 rfl
  have qa10 := hsF10sasassasdss.cellAt 1 rfl 0 rfl
  have qa11 := hsF10sasassasdss.cellAt 1 rfl 1 rfl
  have qw0 := hsF10sasassasdss.cellAt 2 rfl 0 rfl
  have qw1 := hsF10sasassasdss.cellAt 2 rfl 1 rfl
  have qx00 := hsF10sasassasdss.cellAt 3 rfl 0 rfl
  have qx01 := hsF10sasassasdss.cellAt 3 rfl 1 rfl
  have qx10 := hsF10sasassasdss.cellAt 4 rfl 0 rfl
  have qx11 := hsF10sasassasdss.cellAt 4 rfl 1 rfl
  have qg0 := hsF10sasassasdss.cellAt 5 rfl 0 rfl
  have qg1 := hsF10sasassasdss.cellAt 5 rfl 1 rfl
  go_wp2_with fail
  refine wp_region_noPanic (wp_region_el (fun w' => w'.cell? ⟨w.heap.size, 0, none⟩ = some (.int .i64 x00) ∧ w'.cell? ⟨w.heap.size, 1, none⟩ = some (.slice a01 x01.length c01) ∧ w'.cell? ⟨w.heap.size + 1, 0, none⟩ = some (.int .i64 x10) ∧ w'.cell? ⟨w.heap.size + 1, 1, none⟩ = some (.slice a11 x11.length c11) ∧ w'.cell? ⟨gUF10, 0, none⟩ = some (.int .i64 r0) ∧ w'.cell? ⟨gUF10, 1, none⟩ = some (.slice aW1 r1.length cW1) ∧ w'.cell? ⟨w7.heap.size, 0, none⟩ = some (.int .i64 x00) ∧ w'.cell? ⟨w7.heap.size, 1, none⟩ = some (.slice ax01 x01.length cx01) ∧ w'.cell? ⟨w8.heap.size, 0, none⟩ = some (.int .i64 x10) ∧ w'.cell? ⟨w8.heap.size, 1, none⟩ = some (.slice ax11 x11.length cx11) ∧ w'.cell? ⟨w10.heap.size, 0, none⟩ = some (.int .i64 r0) ∧ w'.cell? ⟨w10.heap.size, 1, none⟩ = some (.slice aG1 r1.length cG1)) [(0, 0), (1, 0), (2, 1), (3, 1), (4, 0)] (by kernel_rfl) (by kernel_rfl) (by kernel_rfl) rfl ?_ (fun _ _ _ _ _ h => h) ?_)
  · exact ⟨(hsF10sasassasdss.drew).cellAt 0 rfl 0 rfl, (hsF10sasassasdss.drew).cellAt 0 rfl 1 rfl, (hsF10sasassasdss.drew).cellAt 1 rfl 0 rfl, (hsF10sasassasdss.drew).cellAt 1 rfl 1 rfl, (hsF10sasassasdss.drew).cellAt 2 rfl 0 rfl, (hsF10sasassasdss.drew).cellAt 2 rfl 1 rfl, (hsF10sasassasdss.drew).cellAt 3 rfl 0 rfl, (hsF10sasassasdss.drew).cellAt 3 rfl 1 rfl, (hsF10sasassasdss.drew).cellAt 4 rfl 0 rfl, (hsF10sasassasdss.drew).cellAt 4 rfl 1 rfl, (hsF10sasassasdss.drew).cellAt 5 rfl 0 rfl, (hsF10sasassasdss.drew).cellAt 5 rfl 1 rfl⟩
  have JWF10'''''''''''' := Lib.hid (Iv.mono JWF10'''''''''''.out (belowD _))
  clear JWF10'''''''''''
  have Jx0''''''''''' := Lib.hid (Iv.mono Jx0''''''''''.out (belowD _))
  clear Jx0''''''''''
  have Jx1''''''''' := Lib.hid (Iv.mono Jx1''''''''.out (belowD _))
  clear Jx1''''''''
  have Jx2''''''' := Lib.hid (Iv.mono Jx2''''''.out (belowD _))
  clear Jx2''''''
  have JG'''''' := Lib.hid (Iv.mono JG'''''.out (belowD _))
  clear JG'''''
  have hsF10sasassasdssd := hsF10sasassasdss.drew
  (repeat (first | (apply el_skip rfl (by rfl); try simp only [Act.put, List.setIfInBounds_toArray, List.set_cons_zero, List.set_cons_succ]) | (apply el_float rfl (by rfl); (· (intro w' hS; go_simp <;> with_reducible rfl)); (try simp only [Act.put, List.setIfInBounds_toArray, List.set_cons_zero, List.set_cons_succ]))))
  refine el_hard rfl (by rfl) (fun K hK => ?_)
  go_wp2_with (go_at_call 26; refine (toInstance_b (x10, x11) _ _ _ (Rd.mono H1.out hsF10sasassasdssd.bel) gc1).mono ?_; rintro e w14 ⟨uy10, uy11, rfl, fry1, hb14⟩)
  have JWF10''''''''''''' := Lib.hid (Iv.mono JWF10''''''''''''.out hb14)
  clear JWF10''''''''''''
  have Jx0'''''''''''' := Lib.hid (Iv.mono Jx0'''''''''''.out hb14)
  clear Jx0'''''''''''
  have Jx1'''''''''' := Lib.hid (Iv.mono Jx1'''''''''.out hb14)
  clear Jx1'''''''''
  have Jx2'''''''' := Lib.hid (Iv.mono Jx2'''''''.out hb14)
  clear Jx2'''''''
  have JG''''''' := Lib.hid (Iv.mono JG''''''.out hb14)
  clear JG''''''
  have hsF10sasassasdssds := hsF10sasassasdssd.step hb14
  have hz10 : w13.heap.size ≤ w14.heap.size := by simpa using hb14.size
  have Jy1 := Lib.hid (Fresh.iv fry1)
  have zy10 := rd_cons rfl (Iv.rd Jy1.out)
  obtain ⟨rfl, _⟩ := rd_i1 zy10.1
  obtain ⟨ay11, cy11, rfl, _⟩ := rd_list zy10.2
  clear zy10
  clear fry1
  refine ⟨⟨hsF10sasassasdssds.cellAt 0 rfl 0 rfl, hsF10sasassasdssds.cellAt 0 rfl 1 rfl, hsF10sasassasdssds.cellAt 1 rfl 0 rfl, hsF10sasassasdssds.cellAt 1 rfl 1 rfl, hsF10sasassasdssds.cellAt 2 rfl 0 rfl, hsF10sasassasdssds.cellAt 2 rfl 1 rfl, hsF10sasassasdssds.cellAt 3 rfl 0 rfl, hsF10sasassasdssds.cellAt 3 rfl 1 rfl, hsF10sasassasdssds.cellAt 4 rfl 0 rfl, hsF10sasassasdssds.cellAt 4 rfl 1 rfl, hsF10sasassasdssds.cellAt 5 rfl 0 rfl, hsF10sasassasdssds.cellAt 5 rfl 1 rfl⟩, ?_⟩
  (repeat (first | (apply el_skip rfl (by rfl); try simp only [Act.put, List.setIfInBounds_toArray, List.set_cons_zero, List.set_cons_succ]) | (apply el_float rfl (by rfl); (· (intro w' hS; go_simp <;> with_reducible rfl)); (try simp only [Act.put, List.setIfInBounds_toArray, List.set_cons_zero, List.set_cons_succ]))))
  refine el_hard rfl (by rfl) (fun K hK => ?_)
  go_wp2_with (go_at_call 29; refine (eqInstance_s (x10, x11) _ _ _ _ _ (Iv.rd Jx1''''''''''.out) (Iv.rd Jy1.out)).mono ?_; rintro e w15 ⟨rfl, hb15⟩)
  clear Jy1
  have JWF10'''''''''''''' := Lib.hid (Iv.mono JWF10'''''''''''''.out hb15)
  clear JWF10'''''''''''''
  have Jx0''''''''''''' := Lib.hid (Iv.mono Jx0''''''''''''.out hb15)
  clear Jx0''''''''''''
  have Jx1''''''''''' := Lib.hid (Iv.mono Jx1''''''''''.out hb15)
  clear Jx1''''''''''
  have Jx2''''''''' := Lib.hid (Iv.mono Jx2''''''''.out hb15)
  clear Jx2''''''''
  have JG'''''''' := Lib.hid (Iv.mono JG'''''''.out hb15)
  clear JG'''''''
  have hsF10sasassasdssdss := hsF10sasassasdssds.step hb15
  have hz11 : w14.heap.size ≤ w15.heap.size := by simpa using hb15.size
  refine ⟨⟨hsF10sasassasdssdss.cellAt 0 rfl 0 rfl, hsF10sasassasdssdss.cellAt 0 rfl 1 rfl, hsF10sasassasdssdss.cellAt 1 rfl 0 rfl, hsF10sasassasdssdss.cellAt 1 rfl 1 rfl, hsF10sasassasdssdss.cellAt 2 rfl 0 rfl, hsF10sasassasdssdss.cellAt 2 rfl 1 rfl, hsF10sasassasdssdss.cellAt 3 rfl 0 rfl, hsF10sasassasdssdss.cellAt 3 rfl 1 rfl, hsF10sasassasdssdss.cellAt 4 rfl 0 rfl, hsF10sasassasdssdss.cellAt 4 rfl 1 rfl, hsF10sasassasdssdss.cellAt 5 rfl 0 rfl, hsF10sasassasdssdss.cellAt 5 rfl 1 rfl⟩, ?_⟩
  (repeat (first | (apply el_skip rfl (by rfl); try simp only [Act.put, List.setIfInBounds_toArray, List.set_cons_zero, List.set_cons_succ]) | (apply el_float rfl (by rfl); (· (intro w' hS; go_simp <;> with_reducible rfl)); (try simp only [Act.put, List.setIfInBounds_toArray, List.set_cons_zero, List.set_cons_succ]))))
  refine el_nil (NoPanic.normal ?_)
  clear qa00 qa01 qa10 qa11 qw0 qw1 qx00 qx01 qx10 qx11 qg0 qg1
  have qa00 := hsF10sasassasdssdss.cellAt 0 rfl 0 rfl
  have qa01 := hsF10sasassasdssdss.cellAt 0 rfl 1 rfl
  have qa10 := hsF10sasassasdssdss.cellAt 1 rfl 0 rfl
  have qa11 := hsF10sasassasdssdss.cellAt 1 rfl 1 rfl
  have qw0 := hsF10sasassasdssdss.cellAt 2 rfl 0 rfl
  have qw1 := hsF10sasassasdssdss.cellAt 2 rfl 1 rfl
  have qx00 := hsF10sasassasdssdss.cellAt 3 rfl 0 rfl
  have qx01 := hsF10sasassasdssdss.cellAt 3 rfl 1 rfl
  have qx10 := hsF10sasassasdssdss.cellAt 4 rfl 0 rfl
  have qx11 := hsF10sasassasdssdss.cellAt 4 rfl 1 rfl
  have qg0 := hsF10sasassasdssdss.cellAt 5 rfl 0 rfl
  have qg1 := hsF10sasassasdssdss.cellAt 5 rfl 1 rfl
  go_wp2_with fail
  refine (toInt64S_b x2 _ _ (Rd.mono H2.out hsF10sasassasdssdss.bel) (by omega)).mono ?_
  rintro e w16 ⟨uy20, rfl, fry2, hb16⟩
  have JWF10''''''''''''''' := Lib.hid (Iv.mono JWF10''''''''''''''.out hb16)
  clear JWF10''''''''''''''
  have Jx0'''''''''''''' := Lib.hid (Iv.mono Jx0'''''''''''''.out hb16)
  clear Jx0'''''''''''''
  have Jx1'''''''''''' := Lib.hid (Iv.mono Jx1'''''''''''.out hb16)
  clear Jx1'''''''''''
  have Jx2'''''''''' := Lib.hid (Iv.mono Jx2'''''''''.out hb16)
  clear Jx2'''''''''
  have JG''''''''' := Lib.hid (Iv.mono JG''''''''.out hb16)
  clear JG''''''''
  have hsF10sasassasdssdsss := hsF10sasassasdssdss.step hb16
  have hz12 : w15.heap.size ≤ w16.heap.size := by simpa using hb16.size
  have Jy2 := Lib.hid (Fresh.iv fry2)
  obtain ⟨ay2, cy2, rfl, _⟩ := rd_list (Iv.rd Jy2.out)
  clear fry2
  clear qa00 qa01 qa10 qa11 qw0 qw1 qx00 qx01 qx10 qx11 qg0 qg1
  have qa00 := hsF10sasassasdssdsss.cellAt 0 rfl 0 rfl
  have qa01 := hsF10sasassasdssdsss.cellAt 0 rfl 1 rfl
  have qa10 := hsF10sasassasdssdsss.cellAt 1 rfl 0 rfl
  have qa11 := hsF10sasassasdssdsss.cellAt 1 rfl 1 rfl
  have qw0 := hsF10sasassasdssdsss.cellAt 2 rfl 0 rfl
  have qw1 := hsF10sasassasdssdsss.cellAt 2 rfl 1 rfl
  have qx00 := hsF10sasassasdssdsss.cellAt 3 rfl 0 rfl
  have qx01 := hsF10sasassasdssdsss.cellAt 3 rfl 1 rfl
  have qx10 := hsF10sasassasdssdsss.cellAt 4 rfl 0 rfl
  have qx11 := hsF10sasassasdssdsss.cellAt 4 rfl 1 rfl
  have qg0 := hsF10sasassasdssdsss.cellAt 5 rfl 0 rfl
  have qg1 := hsF10sasassasdssdsss.cellAt 5 rfl 1 rfl
  go_wp2_with fail
  refine (eqInt64S_s x2 _ _ _ (Iv.rd Jx2''''''''''.out) (Iv.rd Jy2.out)).mono ?_
  rintro e w17 ⟨rfl, hb17⟩
  clear Jy2
  have JWF10'''''''''''''''' := Lib.hid (Iv.mono JWF10'''''''''''''''.out hb17)
  clear JWF10'''''''''''''''
  have Jx0''''''''''''''' := Lib.hid (Iv.mono Jx0''''''''''''''.out hb17)
  clear Jx0''''''''''''''
  have Jx1''''''''''''' := Lib.hid (Iv.mono Jx1''''''''''''.out hb17)
  clear Jx1''''''''''''
  have Jx2''''''''''' := Lib.hid (Iv.mono Jx2''''''''''.out hb17)
  clear Jx2''''''''''
  have JG'''''''''' := Lib.hid (Iv.mono JG'''''''''.out hb17)
  clear JG'''''''''
  have hsF10sasassasdssdssss := hsF10sasassasdssdsss.step hb17
  have hz13 : w16.heap.size ≤ w17.heap.size := by simpa using hb17.size
  clear qa00 qa01 qa10 qa11 qw0 qw1 qx00 qx01 qx10 qx11 qg0 qg1
  have qa00 := hsF10sasassasdssdssss.cellAt 0 rfl 0 rfl
  have qa01 := hsF10sasassasdssdssss.cellAt 0 rfl 1 rfl
  have qa10 := hsF10sasassasdssdssss.cellAt 1 rfl 0 rfl
  have qa11 := hsF10sasassasdssdssss.cellAt 1 rfl 1 rfl
  have qw0 := hsF10sasassasdssdssss.cellAt 2 rfl 0 rfl
  have qw1 := hsF10sasassasdssdssss.cellAt 2 rfl 1 rfl
  have qx00 := hsF10sasassasdssdssss.cellAt 3 rfl 0 rfl
  have qx01 := hsF10sasassasdssdssss.cellAt 3 rfl 1 rfl
  have qx10 := hsF10sasassasdssdssss.cellAt 4 rfl 0 rfl
  have qx11 := hsF10sasassasdssdssss.cellAt 4 rfl 1 rfl
  have qg0 := hsF10sasassasdssdssss.cellAt 5 rfl 0 rfl
  have qg1 := hsF10sasassasdssdssss.cellAt 5 rfl 1 rfl
  have mcb0 := mcb_Template (x00, x01)
  obtain ⟨psx0, hox0, hnx0, hpx0⟩ := Jx0'''''''''''''''.out
  have HOx0 := Lib.hid hox0
  clear hox0
  clear Jx0'''''''''''''''
  go_wp2_with fail
  refine (markTemplate_g (x00, x01) _ _ psx0 1 _ HOx0.out hnx0 (by omega) (by omega)).mono ?_
  rintro e w18 ⟨yx0, mx0, rfl, l0x0, l1x0, hyx0, hhx0, hbutx0⟩
  have HYx0 := Lib.hid hyx0
  have HHx0 := Lib.hid hhx0
  clear hyx0 hhx0 HOx0
  have hqx0 : ∀ k, k ∈ psx0 → wUF10.heap.size ≤ k ∧ k < w7.heap.size := fun k hk => by have := hpx0 k hk; simpa using this
  have JWF10''''''''''''''''' := Lib.hid (Iv.but JWF10''''''''''''''''.out hbutx0 (fun k hk => by have := hqx0 k hk; simp; omega))
  clear JWF10''''''''''''''''
  have Jx1'''''''''''''' := Lib.hid (Iv.but Jx1'''''''''''''.out hbutx0 (fun k hk => by have := hqx0 k hk; simp; omega))
  clear Jx1'''''''''''''
  have Jx2'''''''''''' := Lib.hid (Iv.but Jx2'''''''''''.out hbutx0 (fun k hk => by have := hqx0 k hk; simp; omega))
  clear Jx2'''''''''''
  have JG''''''''''' := Lib.hid (Iv.but JG''''''''''.out hbutx0 (fun k hk => by have := hqx0 k hk; simp; omega))
  clear JG''''''''''
  have hsF10sasassasdssdssssm := hsF10sasassasdssdssss.butIv hbutx0 (fun k hk => by have := hqx0 k hk; omega) (fun x hx hp => by
    have := hqx0 _ hp
    simp only [List.mem_append, List.mem_cons, List.mem_nil_iff, or_false, List.not_mem_nil, false_or, or_assoc] at hx
    rcases hx with rfl | rfl | rfl | rfl | rfl | rfl <;> (simp only at this; omega))
  have hz14 : w17.heap.size ≤ w18.heap.size := by simpa using hbutx0.size
  clear qa00 qa01 qa10 qa11 qw0 qw1 qx00 qx01 qx10 qx11 qg0 qg1
  have qa00 := hsF10sasassasdssdssssm.cellAt 0 rfl 0 rfl
  have qa01 := hsF10sasassasdssdssssm.cellAt 0 rfl 1 rfl
  have qa10 := hsF10sasassasdssdssssm.cellAt 1 rfl 0 rfl
  have qa11 := hsF10sasassasdssdssssm.cellAt 1 rfl 1 rfl
  have qw0 := hsF10sasassasdssdssssm.cellAt 2 rfl 0 rfl
  have qw1 := hsF10sasassasdssdssssm.cellAt 2 rfl 1 rfl
  have qx00 := hsF10sasassasdssdssssm.cellAt 3 rfl 0 rfl
  have qx01 := hsF10sasassasdssdssssm.cellAt 3 rfl 1 rfl
  have qx10 := hsF10sasassasdssdssssm.cellAt 4 rfl 0 rfl
  have qx11 := hsF10sasassasdssdssssm.cellAt 4 rfl 1 rfl
  have qg0 := hsF10sasassasdssdssssm.cellAt 5 rfl 0 rfl
  have qg1 := hsF10sasassasdssdssssm.cellAt 5 rfl 1 rfl
  have mcb1 := mcb_Instance (x10, x11)
  obtain ⟨psx1, hox1, hnx1, hpx1⟩ := Jx1''''''''''''''.out
  have HOx1 := Lib.hid hox1
  clear hox1
  clear Jx1''''''''''''''
  go_wp2_with fail
  refine (markInstance_g (x10, x11) _ _ psx1 mx0 _ HOx1.out hnx1 (by omega) (by omega)).mono ?_
  rintro e w19 ⟨yx1, mx1, rfl, l0x1, l1x1, hyx1, hhx1, hbutx1⟩
  have HYx1 := Lib.hid hyx1
  have HHx1 := Lib.hid hhx1
  clear hyx1 hhx1 HOx1
  have hqx1 : ∀ k, k ∈ psx1 → w7.heap.size + 1 ≤ k ∧ k < w8.heap.size := fun k hk => by have := hpx1 k hk; simpa using this
  have JWF10'''''''''''''''''' := Lib.hid (Iv.but JWF10'''''''''''''''''.out hbutx1 (fun k hk => by have := hqx1 k hk; simp; omega))
  clear JWF10'''''''''''''''''
  have Jx2''''''''''''' := Lib.hid (Iv.but Jx2''''''''''''.out hbutx1 (fun k hk => by have := hqx1 k hk; simp; omega))
  clear Jx2''''''''''''
  have JG'''''''''''' := Lib.hid (Iv.but JG'''''''''''.out hbutx1 (fun k hk => by have := hqx1 k hk; simp; omega))
  clear JG'''''''''''
  have hsF10sasassasdssdssssmm := hsF10sasassasdssdssssm.butIv hbutx1 (fun k hk => by have := hqx1 k hk; omega) (fun x hx hp => by
    have := hqx1 _ hp
    simp only [List.mem_append, List.mem_cons, List.mem_nil_iff, or_false, List.not_mem_nil, false_or, or_assoc] at hx
    rcases hx with rfl | rfl | rfl | rfl | rfl | rfl <;> (simp only at this; omega))
  have hz15 : w18.heap.size ≤ w19.heap.size := by simpa using hbutx1.size
  clear qa00 qa01 qa10 qa11 qw0 qw1 qx00 qx01 qx10 qx11 qg0 qg1
  have qa00 := hsF10sasassasdssdssssmm.cellAt 0 rfl 0 rfl
  have qa01 := hsF10sasassasdssdssssmm.cellAt 0 rfl 1 rfl
  have qa10 := hsF10sasassasdssdssssmm.cellAt 1 rfl 0 rfl
  have qa11 := hsF10sasassasdssdssssmm.cellAt 1 rfl 1 rfl
  have qw0 := hsF10sasassasdssdssssmm.cellAt 2 rfl 0 rfl
  have qw1 := hsF10sasassasdssdssssmm.cellAt 2 rfl 1 rfl
  have qx00 := hsF10sasassasdssdssssmm.cellAt 3 rfl 0 rfl
  have qx01 := hsF10sasassasdssdssssmm.cellAt 3 rfl 1 rfl
  have qx10 := hsF10sasassasdssdssssmm.cellAt 4 rfl 0 rfl
  have qx11 := hsF10sasassasdssdssssmm.cellAt 4 rfl 1 rfl
  have qg0 := hsF10sasassasdssdssssmm.cellAt 5 rfl 0 rfl
  have qg1 := hsF10sasassasdssdssssmm.cellAt 5 rfl 1 rfl
  obtain ⟨psx2, hox2, hnx2, hpx2⟩ := Jx2'''''''''''''.out
  have HOx2 := Lib.hid hox2
  clear hox2
  clear Jx2'''''''''''''
  go_wp2_with fail
  refine (markInt64S_g x2 _ psx2 mx1 _ HOx2.out hnx2 (by omega) (by unfold mc_Int64S; omega)).mono ?_
  rintro e w20 ⟨yx2, mx2, rfl, l0x2, l1x2, hyx2, hhx2, hbutx2⟩
  have HYx2 := Lib.hid hyx2
  have HHx2 := Lib.hid hhx2
  clear hyx2 hhx2 HOx2
  have hqx2 : ∀ k, k ∈ psx2 → w8.heap.size + 1 ≤ k ∧ k < w9.heap.size := fun k hk => by have := hpx2 k hk; simpa using this
  have JWF10''''''''''''''''''' := Lib.hid (Iv.but JWF10''''''''''''''''''.out hbutx2 (fun k hk => by have := hqx2 k hk; simp; omega))
  clear JWF10''''''''''''''''''
  have JG''''''''''''' := Lib.hid (Iv.but JG''''''''''''.out hbutx2 (fun k hk => by have := hqx2 k hk; simp; omega))
  clear JG''''''''''''
  have hsF10sasassasdssdssssmmm := hsF10sasassasdssdssssmm.butIv hbutx2 (fun k hk => by have := hqx2 k hk; omega) (fun x hx hp => by
    have := hqx2 _ hp
    simp only [List.mem_append, List.mem_cons, List.mem_nil_iff, or_false, List.not_mem_nil, false_or, or_assoc] at hx
    rcases hx with rfl | rfl | rfl | rfl | rfl | rfl <;> (simp only at this; omega))
  have hz16 : w19.heap.size ≤ w20.heap.size := by simpa using hbutx2.size
  clear qa00 qa01 qa10 qa11 qw0 qw1 qx00 qx01 qx10 qx11 qg0 qg1
  have qa00 := hsF10sasassasdssdssssmmm.cellAt 0 rfl 0 rfl
  have qa01 := hsF10sasassasdssdssssmmm.cellAt 0 rfl 1 rfl
  have qa10 := hsF10sasassasdssdssssmmm.cellAt 1 rfl 0 rfl
  have qa11 := hsF10sasassasdssdssssmmm.cellAt 1 rfl 1 rfl
  have qw0 := hsF10sasassasdssdssssmmm.cellAt 2 rfl 0 rfl
  have qw1 := hsF10sasassasdssdssssmmm.cellAt 2 rfl 1 rfl
  have qx00 := hsF10sasassasdssdssssmmm.cellAt 3 rfl 0 rfl
  have qx01 := hsF10sasassasdssdssssmmm.cellAt 3 rfl 1 rfl
  have qx10 := hsF10sasassasdssdssssmmm.cellAt 4 rfl 0 rfl
  have qx11 := hsF10sasassasdssdssssmmm.cellAt 4 rfl 1 rfl
  have qg0 := hsF10sasassasdssdssssmmm.cellAt 5 rfl 0 rfl
  have qg1 := hsF10sasassasdssdssssmmm.cellAt 5 rfl 1 rfl
  go_wp2_with fail
  refine (eqInstance_s (r0, r1) _ _ _ _ _ (Iv.rd JG'''''''''''''.out) (Iv.rd JWF10'''''''''''''''''''.out)).mono ?_
  rintro e w21 ⟨rfl, hb21⟩
  have JWF10'''''''''''''''''''' := Lib.hid (Iv.mono JWF10'''''''''''''''''''.out hb21)
  clear JWF10'''''''''''''''''''
  have JG'''''''''''''' := Lib.hid (Iv.mono JG'''''''''''''.out hb21)
  clear JG'''''''''''''
  have hsF10sasassasdssdssssmmms := hsF10sasassasdssdssssmmm.step hb21
  have hz17 : w20.heap.size ≤ w21.heap.size := by simpa using hb21.size
  clear qa00 qa01 qa10 qa11 qw0 qw1 qx00 qx01 qx10 qx11 qg0 qg1
  have qa00 := hsF10sasassasdssdssssmmms.cellAt 0 rfl 0 rfl
  have qa01 := hsF10sasassasdssdssssmmms.cellAt 0 rfl 1 rfl
  have qa10 := hsF10sasassasdssdssssmmms.cellAt 1 rfl 0 rfl
  have qa11 := hsF10sasassasdssdssssmmms.cellAt 1 rfl 1 rfl
  have qw0 := hsF10sasassasdssdssssmmms.cellAt 2 rfl 0 rfl
  have qw1 := hsF10sasassasdssdssssmmms.cellAt 2 rfl 1 rfl
  have qx00 := hsF10sasassasdssdssssmmms.cellAt 3 rfl 0 rfl
  have qx01 := hsF10sasassasdssdssssmmms.cellAt 3 rfl 1 rfl
  have qx10 := hsF10sasassasdssdssssmmms.cellAt 4 rfl 0 rfl
  have qx11 := hsF10sasassasdssdssssmmms.cellAt 4 rfl 1 rfl
  have qg0 := hsF10sasassasdssdssssmmms.cellAt 5 rfl 0 rfl
  have qg1 := hsF10sasassasdssdssssmmms.cellAt 5 rfl 1 rfl
  obtain ⟨psG, hoG, hnG, hpG⟩ := JG''''''''''''''.out
  have HOG := Lib.hid hoG
  clear hoG
  clear JG''''''''''''''
  go_wp2_with fail
  refine (markInstance_g (r0, r1) _ _ psG 1 _ HOG.out hnG (by omega) (by omega)).mono ?_
  rintro e w22 ⟨yG, mG, rfl, l0G, l1G, hyG, hhG, hbutG⟩
  have HYG := Lib.hid hyG
  have HHG := Lib.hid hhG
  clear hyG hhG HOG
  have hqG : ∀ k, k ∈ psG → w9.heap.size ≤ k ∧ k < w10.heap.size := fun k hk => by have := hpG k hk; simpa using this
  have JWF10''''''''''''''''''''' := Lib.hid (Iv.but JWF10''''''''''''''''''''.out hbutG (fun k hk => by have := hqG k hk; simp; omega))
  clear JWF10''''''''''''''''''''
  have hsF10sasassasdssdssssmmmsm := hsF10sasassasdssdssssmmms.butIv hbutG (fun k hk => by have := hqG k hk; omega) (fun x hx hp => by
    have := hqG _ hp
    simp only [List.mem_append, List.mem_cons, List.mem_nil_iff, or_false, List.not_mem_nil, false_or, or_assoc] at hx
    rcases hx with rfl | rfl | rfl | rfl | rfl | rfl <;> (simp only at this; omega))
  have hz18 : w21.heap.size ≤ w22.heap.size := by simpa using hbutG.size
  clear qa00 qa01 qa10 qa11 qw0 qw1 qx00 qx01 qx10 qx11 qg0 qg1
  have qa00 := hsF10sasassasdssdssssmmmsm.cellAt 0 rfl 0 rfl
  have qa01 := hsF10sasassasdssdssssmmmsm.cellAt 0 rfl 1 rfl
  have qa10 := hsF10sasassasdssdssssmmmsm.cellAt 1 rfl 0 rfl
  have qa11 := hsF10sasassasdssdssssmmmsm.cellAt 1 rfl 1 rfl
  have qw0 := hsF10sasassasdssdssssmmmsm.cellAt 2 rfl 0 rfl
  have qw1 := hsF10sasassasdssdssssmmmsm.cellAt 2 rfl 1 rfl
  have qx00 := hsF10sasassasdssdssssmmmsm.cellAt 3 rfl 0 rfl
  have qx01 := hsF10sasassasdssdssssmmmsm.cellAt 3 rfl 1 rfl
  have qx10 := hsF10sasassasdssdssssmmmsm.cellAt 4 rfl 0 rfl
  have qx11 := hsF10sasassasdssdssssmmmsm.cellAt 4 rfl 1 rfl
  have qg0 := hsF10sasassasdssdssssmmmsm.cellAt 5 rfl 0 rfl
  have qg1 := hsF10sasassasdssdssssmmmsm.cellAt 5 rfl 1 rfl
  have HYr23 := Lib.hid (Own.rd HYG.out)
  go_wp2_with fail
  refine (heldInstance_g yG _ _ 1 mG _ HYr23.out HHG.out (by omega) (by omega) (by omega)).mono ?_
  rintro e w23 ⟨rfl, hb23⟩
  have HYG' := Lib.hid (Own.mono HYG.out hb23)
  clear HYG HYr23
  have HYG := HYG'
  clear HYG'
  have JWF10'''''''''''''''''''''' := Lib.hid (Iv.mono JWF10'''''''''''''''''''''.out hb23)
  clear JWF10'''''''''''''''''''''
  have hsF10sasassasdssdssssmmmsms := hsF10sasassasdssdssssmmmsm.step hb23
  have hz19 : w22.heap.size ≤ w23.heap.size := by simpa using hb23.size
  clear qa00 qa01 qa10 qa11 qw0 qw1 qx00 qx01 qx10 qx11 qg0 qg1
  have qa00 := hsF10sasassasdssdssssmmmsms.cellAt 0 rfl 0 rfl
  have qa01 := hsF10sasassasdssdssssmmmsms.cellAt 0 rfl 1 rfl
  have qa10 := hsF10sasassasdssdssssmmmsms.cellAt 1 rfl 0 rfl
  have qa11 := hsF10sasassasdssdssssmmmsms.cellAt 1 rfl 1 rfl
  have qw0 := hsF10sasassasdssdssssmmmsms.cellAt 2 rfl 0 rfl
  have qw1 := hsF10sasassasdssdssssmmmsms.cellAt 2 rfl 1 rfl
  have qx00 := hsF10sasassasdssdssssmmmsms.cellAt 3 rfl 0 rfl
  have qx01 := hsF10sasassasdssdssssmmmsms.cellAt 3 rfl 1 rfl
  have qx10 := hsF10sasassasdssdssssmmmsms.cellAt 4 rfl 0 rfl
  have qx11 := hsF10sasassasdssdssssmmmsms.cellAt 4 rfl 1 rfl
  have qg0 := hsF10sasassasdssdssssmmmsms.cellAt 5 rfl 0 rfl
  have qg1 := hsF10sasassasdssdssssmmmsms.cellAt 5 rfl 1 rfl
  have hmm : (mG != mG) = false := by simp
  have hm0 : ¬ mG < 0 := by omega
  go_upto_region 37 with fail
  refine wp_region_noPanic (wp_region_tree4 (fun w' => w'.cell? ⟨w.heap.size, 0, none⟩ = some (.int .i64 x00) ∧ w'.cell? ⟨w.heap.size, 1, none⟩ = some (.slice a01 x01.length c01) ∧ w'.cell? ⟨w.heap.size + 1, 0, none⟩ = some (.int .i64 x10) ∧ w'.cell? ⟨w.heap.size + 1, 1, none⟩ = some (.slice a11 x11.length c11) ∧ w'.cell? ⟨gUF10, 0, none⟩ = some (.int .i64 r0) ∧ w'.cell? ⟨gUF10, 1, none⟩ = some (.slice aW1 r1.length cW1) ∧ w'.cell? ⟨w7.heap.size, 0, none⟩ = some (.int .i64 x00) ∧ w'.cell? ⟨w7.heap.size, 1, none⟩ = some (.slice ax01 x01.length cx01) ∧ w'.cell? ⟨w8.heap.size, 0, none⟩ = some (.int .i64 x10) ∧ w'.cell? ⟨w8.heap.size, 1, none⟩ = some (.slice ax11 x11.length cx11) ∧ w'.cell? ⟨w10.heap.size, 0, none⟩ = some (.int .i64 r0) ∧ w'.cell? ⟨w10.heap.size, 1, none⟩ = some (.slice aG1 r1.length cG1)) (.float 0 (.float 2 (.float 4 (.fork2 1 (.fork2 3 (.fork2 5 (.fork2 6 (.float 7 (.float 8 (.float 9 (.hard 10 (.hard 11 (.float 12 .nil)))))) 10 (.hard 6 (.float 7 (.float 8 (.float 9 (.hard 11 (.float 12 .nil))))))) 10 (.hard 5 (.hard 6 (.float 7 (.float 8 (.float 9 (.hard 11 (.float 12 .nil)))))))) 10 (.hard 3 (.hard 5 (.hard 6 (.float 7 (.float 8 (.float 9 (.hard 11 (.float 12 .nil))))))))) 10 (.hard 1 (.hard 3 (.hard 5 (.hard 6 (.float 7 (.float 8 (.float 9 (.hard 11 (.float 12 .nil))))))))))))) (by kernel_rfl) (by kernel_rfl) (by kernel_rfl) rfl ?_ (fun _ _ _ _ _ h => h) ?_)
  · exact ⟨(hsF10sasassasdssdssssmmmsms.drew).cellAt 0 rfl 0 rfl, (hsF10sasassasdssdssssmmmsms.drew).cellAt 0 rfl 1 rfl, (hsF10sasassasdssdssssmmmsms.drew).cellAt 1 rfl 0 rfl, (hsF10sasassasdssdssssmmmsms.drew).cellAt 1 rfl 1 rfl, (hsF10sasassasdssdssssmmmsms.drew).cellAt 2 rfl 0 rfl, (hsF10sasassasdssdssssmmmsms.drew).cellAt 2 rfl 1 rfl, (hsF10sasassasdssdssssmmmsms.drew).cellAt 3 rfl 0 rfl, (hsF10sasassasdssdssssmmmsms.drew).cellAt 3 rfl 1 rfl, (hsF10sasassasdssdssssmmmsms.drew).cellAt 4 rfl 0 rfl, (hsF10sasassasdssdssssmmmsms.drew).cellAt 4 rfl 1 rfl, (hsF10sasassasdssdssssmmmsms.drew).cellAt 5 rfl 0 rfl, (hsF10sasassasdssdssssmmmsms.drew).cellAt 5 rfl 1 rfl⟩
  have JWF10''''''''''''''''''''''' := Lib.hid (Iv.mono JWF10''''''''''''''''''''''.out (belowD _))
  clear JWF10''''''''''''''''''''''
  have HYG' := Lib.hid (Own.mono HYG.out (belowD _))
  clear HYG
  have HYG := HYG'
  clear HYG'
  have hsF10sasassasdssdssssmmmsmsd := hsF10sasassasdssdssssmmmsms.drew
  clear qa00 qa01 qa10 qa11 qw0 qw1 qx00 qx01 qx10 qx11 qg0 qg1
  have hzF37 : w23.heap.size ≤ (w23.drew).heap.size := by simp
  generalize hgenF37 : w23.drew = wF37 at *
  have HGF37 := Lib.hid hgenF37
  clear hgenF37
  (repeat (first | (apply t4_skip rfl (by rfl); try simp only [Act.put, List.setIfInBounds_toArray, List.set_cons_zero, List.set_cons_succ]) | (apply t4_float rfl (by rfl); (· (intro w' hS; go_simp <;> with_reducible rfl)); (try simp only [Act.put, List.setIfInBounds_toArray, List.set_cons_zero, List.set_cons_succ]))))
  apply mp_cut
  · intro HJ
    refine t4_fork2 ?_ ?_
    · refine t4_hard rfl (by rfl) (fun K hK => ?_)
      go_wp2_with (go_at_call 11; refine (toTemplate_b (x00, x01) _ _ _ (Rd.mono H0.out hsF10sasassasdssdssssmmmsmsd.bel) gc0).mono ?_; rintro e w24 ⟨ut00, ut01, rfl, frt0, hb24⟩)
      have JWF10'''''''''''''''''''''''' := Lib.hid (Iv.mono JWF10'''''''''''''''''''''''.out hb24)
      try clear JWF10'''''''''''''''''''''''
      have hsF10sasassasdssdssssmmmsmsds := hsF10sasassasdssdssssmmmsmsd.step hb24
      have hz20 : wF37.heap.size ≤ w24.heap.size := by simpa using hb24.size
      have Jt0 := Lib.hid (Fresh.iv frt0)
      have zt00 := rd_cons rfl (Iv.rd Jt0.out)
      obtain ⟨rfl, _⟩ := rd_i1 zt00.1
      obtain ⟨at01, ct01, rfl, _⟩ := rd_list zt00.2
      clear zt00
      clear frt0
      refine ⟨⟨hsF10sasassasdssdssssmmmsmsds.cellAt 0 rfl 0 rfl, hsF10sasassasdssdssssmmmsmsds.cellAt 0 rfl 1 rfl, hsF10sasassasdssdssssmmmsmsds.cellAt 1 rfl 0 rfl, hsF10sasassasdssdssssmmmsmsds.cellAt 1 rfl 1 rfl, hsF10sasassasdssdssssmmmsmsds.cellAt 2 rfl 0 rfl, hsF10sasassasdssdssssmmmsmsds.cellAt 2 rfl 1 rfl, hsF10sasassasdssdssssmmmsmsds.cellAt 3 rfl 0 rfl, hsF10sasassasdssdssssmmmsmsds.cellAt 3 rfl 1 rfl, hsF10sasassasdssdssssmmmsmsds.cellAt 4 rfl 0 rfl, hsF10sasassasdssdssssmmmsmsds.cellAt 4 rfl 1 rfl, hsF10sasassasdssdssssmmmsmsds.cellAt 5 rfl 0 rfl, hsF10sasassasdssdssssmmmsmsds.cellAt 5 rfl 1 rfl⟩, ?_⟩
      (repeat (first | (apply t4_skip rfl (by rfl); try simp only [Act.put, List.setIfInBounds_toArray, List.set_cons_zero, List.set_cons_succ]) | (apply t4_float rfl (by rfl); (· (intro w' hS; go_simp <;> with_reducible rfl)); (try simp only [Act.put, List.setIfInBounds_toArray, List.set_cons_zero, List.set_cons_succ]))))
      have HYG' := Lib.hid (Own.mono HYG.out hb24)
      try clear HYG
      have HYG := HYG'
      clear HYG'
      refine t4_fork2 ?_ ?_
      · refine t4_hard rfl (by rfl) (fun K hK => ?_)
        go_wp2_with (go_at_call 26; refine (toInstance_b (x10, x11) _ _ _ (Rd.mono H1.out hsF10sasassasdssdssssmmmsmsds.bel) gc1).mono ?_; rintro e w25 ⟨ut10, ut11, rfl, frt1, hb25⟩)
        have JWF10''''''''''''''''''''''''' := Lib.hid (Iv.mono JWF10''''''''''''''''''''''''.out hb25)
        try clear JWF10''''''''''''''''''''''''
        have Jt0' := Lib.hid (Iv.mono Jt0.out hb25)
        try clear Jt0
        have hsF10sasassasdssdssssmmmsmsdss := hsF10sasassasdssdssssmmmsmsds.step hb25
        have hz21 : w24.heap.size ≤ w25.heap.size := by simpa using hb25.size
        have Jt1 := Lib.hid (Fresh.iv frt1)
        have zt10 := rd_cons rfl (Iv.rd Jt1.out)
        obtain ⟨rfl, _⟩ := rd_i1 zt10.1
        obtain ⟨at11, ct11, rfl, _⟩ := rd_list zt10.2
        clear zt10
        clear frt1
        refine ⟨⟨hsF10sasassasdssdssssmmmsmsdss.cellAt 0 rfl 0 rfl, hsF10sasassasdssdssssmmmsmsdss.cellAt 0 rfl 1 rfl, hsF10sasassasdssdssssmmmsmsdss.cellAt 1 rfl 0 rfl, hsF10sasassasdssdssssmmmsmsdss.cellAt 1 rfl 1 rfl, hsF10sasassasdssdssssmmmsmsdss.cellAt 2 rfl 0 rfl, hsF10sasassasdssdssssmmmsmsdss.cellAt 2 rfl 1 rfl, hsF10sasassasdssdssssmmmsmsdss.cellAt 3 rfl 0 rfl, hsF10sasassasdssdssssmmmsmsdss.cellAt 3 rfl 1 rfl, hsF10sasassasdssdssssmmmsmsdss.cellAt 4 rfl 0 rfl, hsF10sasassasdssdssssmmmsmsdss.cellAt 4 rfl 1 rfl, hsF10sasassasdssdssssmmmsmsdss.cellAt 5 rfl 0 rfl, hsF10sasassasdssdssssmmmsmsdss.cellAt 5 rfl 1 rfl⟩, ?_⟩
        (repeat (first | (apply t4_skip rfl (by rfl); try simp only [Act.put, List.setIfInBounds_toArray, List.set_cons_zero, List.set_cons_succ]) | (apply t4_float rfl (by rfl); (· (intro w' hS; go_simp <;> with_reducible rfl)); (try simp only [Act.put, List.setIfInBounds_toArray, List.set_cons_zero, List.set_cons_succ]))))
        have HYG' := Lib.hid (Own.mono HYG.out hb25)
        try clear HYG
        have HYG := HYG'
        clear HYG'
        refine t4_fork2 ?_ ?_
        · refine t4_hard rfl (by rfl) (fun K hK => ?_)
          go_wp2_with (go_at_call 13; refine (toInt64S_b x2 _ _ (Rd.mono H2.out hsF10sasassasdssdssssmmmsmsdss.bel) (by omega)).mono ?_; rintro e w26 ⟨ut20, rfl, frt2, hb26⟩)
          have JWF10'''''''''''''''''''''''''' := Lib.hid (Iv.mono JWF10'''''''''''''''''''''''''.out hb26)
          try clear JWF10'''''''''''''''''''''''''
          have Jt0'' := Lib.hid (Iv.mono Jt0'.out hb26)
          try clear Jt0'
          have Jt1' := Lib.hid (Iv.mono Jt1.out hb26)
          try clear Jt1
          have hsF10sasassasdssdssssmmmsmsdsss := hsF10sasassasdssdssssmmmsmsdss.step hb26
          have hz22 : w25.heap.size ≤ w26.heap.size := by simpa using hb26.size
          have Jt2 := Lib.hid (Fresh.iv frt2)
          obtain ⟨at2, ct2, rfl, _⟩ := rd_list (Iv.rd Jt2.out)
          clear frt2
          refine ⟨⟨hsF10sasassasdssdssssmmmsmsdsss.cellAt 0 rfl 0 rfl, hsF10sasassasdssdssssmmmsmsdsss.cellAt 0 rfl 1 rfl, hsF10sasassasdssdssssmmmsmsdsss.cellAt 1 rfl 0 rfl, hsF10sasassasdssdssssmmmsmsdsss.cellAt 1 rfl 1 rfl, hsF10sasassasdssdssssmmmsmsdsss.cellAt 2 rfl 0 rfl, hsF10sasassasdssdssssmmmsmsdsss.cellAt 2 rfl 1 rfl, hsF10sasassasdssdssssmmmsmsdsss.cellAt 3 rfl 0 rfl, hsF10sasassasdssdssssmmmsmsdsss.cellAt 3 rfl 1 rfl, hsF10sasassasdssdssssmmmsmsdsss.cellAt 4 rfl 0 rfl, hsF10sasassasdssdssssmmmsmsdsss.cellAt 4 rfl 1 rfl, hsF10sasassasdssdssssmmmsmsdsss.cellAt 5 rfl 0 rfl, hsF10sasassasdssdssssmmmsmsdsss.cellAt 5 rfl 1 rfl⟩, ?_⟩
          (repeat (first | (apply t4_skip rfl (by rfl); try simp only [Act.put, List.setIfInBounds_toArray, List.set_cons_zero, List.set_cons_succ]) | (apply t4_float rfl (by rfl); (· (intro w' hS; go_simp <;> with_reducible rfl)); (try simp only [Act.put, List.setIfInBounds_toArray, List.set_cons_zero, List.set_cons_succ]))))
          have HYG' := Lib.hid (Own.mono HYG.out hb26)
          try clear HYG
          have HYG := HYG'
          clear HYG'
          refine t4_fork2 ?_ ?_
          · refine t4_hard rfl (by rfl) (fun K hK => ?_)
            go_wp2_with (go_at_call 32; refine (CI.out _ _ _ _ _ _ (Iv.rd Jt0''.out) (Iv.rd Jt1'.out) (Iv.rd Jt2.out) (by omega)).mono ?_; rintro e w27 ⟨uK0, uK1, rfl, frK, hb27⟩)
            have JWF10''''''''''''''''''''''''''' := Lib.hid (Iv.mono JWF10''''''''''''''''''''''''''.out hb27)
            try clear JWF10''''''''''''''''''''''''''
            have Jt0''' := Lib.hid (Iv.mono Jt0''.out hb27)
            try clear Jt0''
            have Jt1'' := Lib.hid (Iv.mono Jt1'.out hb27)
            try clear Jt1'
            have Jt2' := Lib.hid (Iv.mono Jt2.out hb27)
            try clear Jt2
            have hsF10sasassasdssdssssmmmsmsdssss := hsF10sasassasdssdssssmmmsmsdsss.step hb27
            have hz23 : w26.heap.size ≤ w27.heap.size := by simpa using hb27.size
            have JK := Lib.hid (Fresh.iv frK)
            have zK0 := rd_cons rfl (Iv.rd JK.out)
            obtain ⟨rfl, _⟩ := rd_i1 zK0.1
            obtain ⟨aK1, cK1, rfl, _⟩ := rd_list zK0.2
            clear zK0
            clear frK
            have HYG' := Lib.hid (Own.mono HYG.out hb27)
            try clear HYG
            have HYG := HYG'
            clear HYG'
            try clear Jt0'''
            try clear Jt1''
            try clear Jt2'
            refine ⟨⟨hsF10sasassasdssdssssmmmsmsdssss.cellAt 0 rfl 0 rfl, hsF10sasassasdssdssssmmmsmsdssss.cellAt 0 rfl 1 rfl, hsF10sasassasdssdssssmmmsmsdssss.cellAt 1 rfl 0 rfl, hsF10sasassasdssdssssmmmsmsdssss.cellAt 1 rfl 1 rfl, hsF10sasassasdssdssssmmmsmsdssss.cellAt 2 rfl 0 rfl, hsF10sasassasdssdssssmmmsmsdssss.cellAt 2 rfl 1 rfl, hsF10sasassasdssdssssmmmsmsdssss.cellAt 3 rfl 0 rfl, hsF10sasassasdssdssssmmmsmsdssss.cellAt 3 rfl 1 rfl, hsF10sasassasdssdssssmmmsmsdssss.cellAt 4 rfl 0 rfl, hsF10sasassasdssdssssmmmsmsdssss.cellAt 4 rfl 1 rfl, hsF10sasassasdssdssssmmmsmsdssss.cellAt 5 rfl 0 rfl, hsF10sasassasdssdssssmmmsmsdssss.cellAt 5 rfl 1 rfl⟩, ?_⟩
            (repeat (first | (apply t4_skip rfl (by rfl); try simp only [Act.put, List.setIfInBounds_toArray, List.set_cons_zero, List.set_cons_succ]) | (apply t4_float rfl (by rfl); (· (intro w' hS; go_simp <;> with_reducible rfl)); (try simp only [Act.put, List.setIfInBounds_toArray, List.set_cons_zero, List.set_cons_succ]))))
            refine t4_hard rfl (by rfl) (fun K hK => ?_)
            go_wp2_with fail
            have hsF10sasassasdssdssssmmmsmsdssssa := hsF10sasassasdssdssssmmmsmsdssss.alloc #[.int .i64 0, .slice none 0 0] 61 rfl
            have JWF10'''''''''''''''''''''''''''' := Lib.hid (Iv.mono JWF10'''''''''''''''''''''''''''.out (belowA _ (.cells #[.int .i64 0, .slice none 0 0] 61)))
            try clear JWF10'''''''''''''''''''''''''''
            have JK' := Lib.hid (Iv.mono JK.out (belowA _ (.cells #[.int .i64 0, .slice none 0 0] 61)))
            try clear JK
            have HYG' := Lib.hid (Own.mono HYG.out (belowA _ (.cells #[.int .i64 0, .slice none 0 0] 61)))
            try clear HYG
            have HYG := HYG'
            clear HYG'
            have hzF37A1 : w27.heap.size + 1 ≤ (w27.alloc (.cells #[.int .i64 0, .slice none 0 0] 61)).heap.size := by simp
            generalize hgenF37A1 : w27.alloc (.cells #[.int .i64 0, .slice none 0 0] 61) = wF37A1 at *
            have HGF37A1 := Lib.hid hgenF37A1
            clear hgenF37A1
            refine ⟨⟨hsF10sasassasdssdssssmmmsmsdssssa.cellAt 0 rfl 0 rfl, hsF10sasassasdssdssssmmmsmsdssssa.cellAt 0 rfl 1 rfl, hsF10sasassasdssdssssmmmsmsdssssa.cellAt 1 rfl 0 rfl, hsF10sasassasdssdssssmmmsmsdssssa.cellAt 1 rfl 1 rfl, hsF10sasassasdssdssssmmmsmsdssssa.cellAt 2 rfl 0 rfl, hsF10sasassasdssdssssmmmsmsdssssa.cellAt 2 rfl 1 rfl, hsF10sasassasdssdssssmmmsmsdssssa.cellAt 3 rfl 0 rfl, hsF10sasassasdssdssssmmmsmsdssssa.cellAt 3 rfl 1 rfl, hsF10sasassasdssdssssmmmsmsdssssa.cellAt 4 rfl 0 rfl, hsF10sasassasdssdssssmmmsmsdssssa.cellAt 4 rfl 1 rfl, hsF10sasassasdssdssssmmmsmsdssssa.cellAt 5 rfl 0 rfl, hsF10sasassasdssdssssmmmsmsdssssa.cellAt 5 rfl 1 rfl⟩, ?_⟩
            (repeat (first | (apply t4_skip rfl (by rfl); try simp only [Act.put, List.setIfInBounds_toArray, List.set_cons_zero, List.set_cons_succ]) | (apply t4_float rfl (by rfl); (· (intro w' hS; go_simp <;> with_reducible rfl)); (try simp only [Act.put, List.setIfInBounds_toArray, List.set_cons_zero, List.set_cons_succ]))))
            refine t4_hard rfl (by rfl) (fun K hK => ?_)
            have fF370 := hsF10sasassasdssdssssmmmsmsdssssa.freeAt 6 rfl 0
            have cF370 := hsF10sasassasdssdssssmmmsmsdssssa.cellAt 6 rfl 0 rfl
            have fF371 := hsF10sasassasdssdssssmmmsmsdssssa.freeAt 6 rfl 1
            have cF371 := hsF10sasassasdssdssssmmmsmsdssssa.cellAt 6 rfl 1 rfl
            go_wp2_with fail
            have hsF10sasassasdssdssssmmmsmsdssssat := ((hsF10sasassasdssdssssmmmsmsdssssa.set (p := [_, _, _, _, _, _]) (by simp <;> omega) 0 (.int .i64 r0)).set (p := [_, _, _, _, _, _]) (by simp <;> omega) 1 (.slice aK1 r1.length cK1))
            have JWF10''''''''''''''''''''''''''''' := Lib.hid (Iv.setOut (Iv.setOut JWF10''''''''''''''''''''''''''''.out (a := ⟨w27.heap.size, 0, none⟩) (by first | (left; simp only; first | done | omega) | (right; simp only; first | done | omega)) (.int .i64 r0)) (a := ⟨w27.heap.size, 1, none⟩) (by first | (left; simp only; first | done | omega) | (right; simp only; first | done | omega)) (.slice aK1 r1.length cK1))
            try clear JWF10''''''''''''''''''''''''''''
            have JK'' := Lib.hid (Iv.setOut (Iv.setOut JK'.out (a := ⟨w27.heap.size, 0, none⟩) (by first | (left; simp only; first | done | omega) | (right; simp only; first | done | omega)) (.int .i64 r0)) (a := ⟨w27.heap.size, 1, none⟩) (by first | (left; simp only; first | done | omega) | (right; simp only; first | done | omega)) (.slice aK1 r1.length cK1))
            try clear JK'
            have HYG' := Lib.hid (own_setOut (own_setOut HYG.out (b := w27.heap.size) (o := 0) (fun hk => by have := hqG _ hk; omega) (.int .i64 r0)) (b := w27.heap.size) (o := 1) (fun hk => by have := hqG _ hk; omega) (.slice aK1 r1.length cK1))
            try clear HYG
            have HYG := HYG'
            clear HYG'
            clear fF370 cF370 fF371 cF371
            refine ⟨?_, ?_⟩
            · first | exact ⟨hsF10sasassasdssdssssmmmsmsdssssat.cellAt 0 rfl 0 rfl, hsF10sasassasdssdssssmmmsmsdssssat.cellAt 0 rfl 1 rfl, hsF10sasassasdssdssssmmmsmsdssssat.cellAt 1 rfl 0 rfl, hsF10sasassasdssdssssmmmsmsdssssat.cellAt 1 rfl 1 rfl, hsF10sasassasdssdssssmmmsmsdssssat.cellAt 2 rfl 0 rfl, hsF10sasassasdssdssssmmmsmsdssssat.cellAt 2 rfl 1 rfl, hsF10sasassasdssdssssmmmsmsdssssat.cellAt 3 rfl 0 rfl, hsF10sasassasdssdssssmmmsmsdssssat.cellAt 3 rfl 1 rfl, hsF10sasassasdssdssssmmmsmsdssssat.cellAt 4 rfl 0 rfl, hsF10sasassasdssdssssmmmsmsdssssat.cellAt 4 rfl 1 rfl, hsF10sasassasdssdssssmmmsmsdssssat.cellAt 5 rfl 0 rfl, hsF10sasassasdssdssssmmmsmsdssssat.cellAt 5 rfl 1 rfl⟩ | exact ⟨hsF10sasassasdssdssssmmmsmsdssssa.cellAt 0 rfl 0 rfl, hsF10sasassasdssdssssmmmsmsdssssa.cellAt 0 rfl 1 rfl, hsF10sasassasdssdssssmmmsmsdssssa.cellAt 1 rfl 0 rfl, hsF10sasassasdssdssssmmmsmsdssssa.cellAt 1 rfl 1 rfl, hsF10sasassasdssdssssmmmsmsdssssa.cellAt 2 rfl 0 rfl, hsF10sasassasdssdssssmmmsmsdssssa.cellAt 2 rfl 1 rfl, hsF10sasassasdssdssssmmmsmsdssssa.cellAt 3 rfl 0 rfl, hsF10sasassasdssdssssmmmsmsdssssa.cellAt 3 rfl 1 rfl, hsF10sasassasdssdssssmmmsmsdssssa.cellAt 4 rfl 0 rfl, hsF10sasassasdssdssssmmmsmsdssssa.cellAt 4 rfl 1 rfl, hsF10sasassasdssdssssmmmsmsdssssa.cellAt 5 rfl 0 rfl, hsF10sasassasdssdssssmmmsmsdssssa.cellAt 5 rfl 1 rfl⟩
            (repeat (first | (apply t4_skip rfl (by rfl); try simp only [Act.put, List.setIfInBounds_toArray, List.set_cons_zero, List.set_cons_succ]) | (apply t4_float rfl (by rfl); (· (intro w' hS; go_simp <;> with_reducible rfl)); (try simp only [Act.put, List.setIfInBounds_toArray, List.set_cons_zero, List.set_cons_succ]))))
            refine t4_nil (NoPanic.normal ?_)
            have hsF37 : St w ((wF37A1.setCell ⟨w27.heap.size, 0, none⟩ (.int .i64 r0)).setCell ⟨w27.heap.size, 1, none⟩ (.slice aK1 r1.length cK1)).heap.size ((wF37A1.setCell ⟨w27.heap.size, 0, none⟩ (.int .i64 r0)).setCell ⟨w27.heap.size, 1, none⟩ (.slice aK1 r1.length cK1)) [(w.heap.size, #[.int .i64 x00, .slice a01 x01.length c01], 24), (w.heap.size + 1, #[.int .i64 x10, .slice a11 x11.length c11], 55), (gUF10, #[.int .i64 r0, .slice aW1 r1.length cW1], 61), (w7.heap.size, #[.int .i64 x00, .slice ax01 x01.length cx01], 34), (w8.heap.size, #[.int .i64 x10, .slice ax11 x11.length cx11], 61), (w10.heap.size, #[.int .i64 r0, .slice aG1 r1.length cG1], 61), (w27.heap.size, #[.int .i64 r0, .slice aK1 r1.length cK1], 61)] := hsF10sasassasdssdssssmmmsmsdssssat.up hsF10sasassasdssdssssmmmsmsdssssat.hi (Nat.le_refl _)
            have hVF37 : wF37A1.heap.size = ((wF37A1.setCell ⟨w27.heap.size, 0, none⟩ (.int .i64 r0)).setCell ⟨w27.heap.size, 1, none⟩ (.slice aK1 r1.length cK1)).heap.size := by simp [World.setCell]
            obtain ⟨loUF37, hiUF37, hUF37, JUF37⟩ : ∃ lo hi : Nat, (w23.heap.size ≤ lo ∧ hi ≤ wF37A1.heap.size ∧ (w27.heap.size < lo ∨ hi ≤ w27.heap.size) ∧ w23.heap.size ≤ w27.heap.size ∧ w27.heap.size < wF37A1.heap.size) ∧ Hid (Iv lo hi ((wF37A1.setCell ⟨w27.heap.size, 0, none⟩ (.int .i64 r0)).setCell ⟨w27.heap.size, 1, none⟩ (.slice aK1 r1.length cK1)) [.int .i64 r0, .slice aK1 r1.length cK1] (r0, r1)) := ⟨w26.heap.size, w27.heap.size, by omega, JK''.out⟩
            rw [hVF37] at hUF37
            clear hVF37 JK''
            generalize hhwUF37 : ((wF37A1.setCell ⟨w27.heap.size, 0, none⟩ (.int .i64 r0)).setCell ⟨w27.heap.size, 1, none⟩ (.slice aK1 r1.length cK1)) = wUF37 at hsF37 hUF37 JUF37 JWF10''''''''''''''''''''''''''''' HYG ⊢
            clear hhwUF37
            generalize hhgUF37 : w27.heap.size = gUF37 at hsF37 hUF37 JUF37 JWF10''''''''''''''''''''''''''''' HYG ⊢
            clear hhgUF37
            generalize at01 = zat01 at hsF37 hUF37 JUF37 JWF10''''''''''''''''''''''''''''' HYG ⊢
            generalize ct01 = zct01 at hsF37 hUF37 JUF37 JWF10''''''''''''''''''''''''''''' HYG ⊢
            generalize at11 = zat11 at hsF37 hUF37 JUF37 JWF10''''''''''''''''''''''''''''' HYG ⊢
            generalize ct11 = zct11 at hsF37 hUF37 JUF37 JWF10''''''''''''''''''''''''''''' HYG ⊢
            generalize at2 = zat2 at hsF37 hUF37 JUF37 JWF10''''''''''''''''''''''''''''' HYG ⊢
            generalize ct2 = zct2 at hsF37 hUF37 JUF37 JWF10''''''''''''''''''''''''''''' HYG ⊢
            generalize aK1 = zaK1 at hsF37 hUF37 JUF37 JWF10''''''''''''''''''''''''''''' HYG ⊢
            generalize cK1 = zcK1 at hsF37 hUF37 JUF37 JWF10''''''''''''''''''''''''''''' HYG ⊢
            revert HYG
            revert JWF10'''''''''''''''''''''''''''''
            revert JUF37
            revert hUF37
            revert hsF37
            revert zcK1
            revert zaK1
            revert zct2
            revert zat2
            revert zct11
            revert zat11
            revert zct01
            revert zat01
            revert hiUF37
            revert loUF37
            revert gUF37
            revert wUF37
            exact HJ.get
          · refine t4_hard rfl (by rfl) (fun K hK => ?_)
            go_wp2_with fail
            have hsF10sasassasdssdssssmmmsmsdsssa := hsF10sasassasdssdssssmmmsmsdsss.alloc #[.int .i64 0, .slice none 0 0] 61 rfl
            have JWF10''''''''''''''''''''''''''' := Lib.hid (Iv.mono JWF10''''''''''''''''''''''''''.out (belowA _ (.cells #[.int .i64 0, .slice none 0 0] 61)))
            try clear JWF10''''''''''''''''''''''''''
            have Jt0''' := Lib.hid (Iv.mono Jt0''.out (belowA _ (.cells #[.int .i64 0, .slice none 0 0] 61)))
            try clear Jt0''
            have Jt1'' := Lib.hid (Iv.mono Jt1'.out (belowA _ (.cells #[.int .i64 0, .slice none 0 0] 61)))
            try clear Jt1'
            have Jt2' := Lib.hid (Iv.mono Jt2.out (belowA _ (.cells #[.int .i64 0, .slice none 0 0] 61)))
            try clear Jt2
            have HYG' := Lib.hid (Own.mono HYG.out (belowA _ (.cells #[.int .i64 0, .slice none 0 0] 61)))
            try clear HYG
            have HYG := HYG'
            clear HYG'
            have hzF37A2 : w26.heap.size + 1 ≤ (w26.alloc (.cells #[.int .i64 0, .slice none 0 0] 61)).heap.size := by simp
            generalize hgenF37A2 : w26.alloc (.cells #[.int .i64 0, .slice none 0 0] 61) = wF37A2 at *
            have HGF37A2 := Lib.hid hgenF37A2
            clear hgenF37A2
            refine ⟨⟨hsF10sasassasdssdssssmmmsmsdsssa.cellAt 0 rfl 0 rfl, hsF10sasassasdssdssssmmmsmsdsssa.cellAt 0 rfl 1 rfl, hsF10sasassasdssdssssmmmsmsdsssa.cellAt 1 rfl 0 rfl, hsF10sasassasdssdssssmmmsmsdsssa.cellAt 1 rfl 1 rfl, hsF10sasassasdssdssssmmmsmsdsssa.cellAt 2 rfl 0 rfl, hsF10sasassasdssdssssmmmsmsdsssa.cellAt 2 rfl 1 rfl, hsF10sasassasdssdssssmmmsmsdsssa.cellAt 3 rfl 0 rfl, hsF10sasassasdssdssssmmmsmsdsssa.cellAt 3 rfl 1 rfl, hsF10sasassasdssdssssmmmsmsdsssa.cellAt 4 rfl 0 rfl, hsF10sasassasdssdssssmmmsmsdsssa.cellAt 4 rfl 1 rfl, hsF10sasassasdssdssssmmmsmsdsssa.cellAt 5 rfl 0 rfl, hsF10sasassasdssdssssmmmsmsdsssa.cellAt 5 rfl 1 rfl⟩, ?_⟩
            (repeat (first | (apply t4_skip rfl (by rfl); try simp only [Act.put, List.setIfInBounds_toArray, List.set_cons_zero, List.set_cons_succ]) | (apply t4_float rfl (by rfl); (· (intro w' hS; go_simp <;> with_reducible rfl)); (try simp only [Act.put, List.setIfInBounds_toArray, List.set_cons_zero, List.set_cons_succ]))))
            refine t4_hard rfl (by rfl) (fun K hK => ?_)
            go_wp2_with (go_at_call 32; refine (CI.out _ _ _ _ _ _ (Iv.rd Jt0'''.out) (Iv.rd Jt1''.out) (Iv.rd Jt2'.out) (by omega)).mono ?_; rintro e w27 ⟨uK0, uK1, rfl, frK, hb27⟩)
            have JWF10'''''''''''''''''''''''''''' := Lib.hid (Iv.mono JWF10'''''''''''''''''''''''''''.out hb27)
            try clear JWF10'''''''''''''''''''''''''''
            have Jt0'''' := Lib.hid (Iv.mono Jt0'''.out hb27)
            try clear Jt0'''
            have Jt1''' := Lib.hid (Iv.mono Jt1''.out hb27)
            try clear Jt1''
            have Jt2'' := Lib.hid (Iv.mono Jt2'.out hb27)
            try clear Jt2'
            have hsF10sasassasdssdssssmmmsmsdsssas := hsF10sasassasdssdssssmmmsmsdsssa.step hb27
            have hz23 : wF37A2.heap.size ≤ w27.heap.size := by simpa using hb27.size
            have JK := Lib.hid (Fresh.iv frK)
            have zK0 := rd_cons rfl (Iv.rd JK.out)
            obtain ⟨rfl, _⟩ := rd_i1 zK0.1
            obtain ⟨aK1, cK1, rfl, _⟩ := rd_list zK0.2
            clear zK0
            clear frK
            have HYG' := Lib.hid (Own.mono HYG.out hb27)
            try clear HYG
            have HYG := HYG'
            clear HYG'
            try clear Jt0''''
            try clear Jt1'''
            try clear Jt2''
            refine ⟨⟨hsF10sasassasdssdssssmmmsmsdsssas.cellAt 0 rfl 0 rfl, hsF10sasassasdssdssssmmmsmsdsssas.cellAt 0 rfl 1 rfl, hsF10sasassasdssdssssmmmsmsdsssas.cellAt 1 rfl 0 rfl, hsF10sasassasdssdssssmmmsmsdsssas.cellAt 1 rfl 1 rfl, hsF10sasassasdssdssssmmmsmsdsssas.cellAt 2 rfl 0 rfl, hsF10sasassasdssdssssmmmsmsdsssas.cellAt 2 rfl 1 rfl, hsF10sasassasdssdssssmmmsmsdsssas.cellAt 3 rfl 0 rfl, hsF10sasassasdssdssssmmmsmsdsssas.cellAt 3 rfl 1 rfl, hsF10sasassasdssdssssmmmsmsdsssas.cellAt 4 rfl 0 rfl, hsF10sasassasdssdssssmmmsmsdsssas.cellAt 4 rfl 1 rfl, hsF10sasassasdssdssssmmmsmsdsssas.cellAt 5 rfl 0 rfl, hsF10sasassasdssdssssmmmsmsdsssas.cellAt 5 rfl 1 rfl⟩, ?_⟩
            (repeat (first | (apply t4_skip rfl (by rfl); try simp only [Act.put, List.setIfInBounds_toArray, List.set_cons_zero, List.set_cons_succ]) | (apply t4_float rfl (by rfl); (· (intro w' hS; go_simp <;> with_reducible rfl)); (try simp only [Act.put, List.setIfInBounds_toArray, List.set_cons_zero, List.set_cons_succ]))))
            refine t4_hard rfl (by rfl) (fun K hK => ?_)
            have fF370 := hsF10sasassasdssdssssmmmsmsdsssas.freeAt 6 rfl 0
            have cF370 := hsF10sasassasdssdssssmmmsmsdsssas.cellAt 6 rfl 0 rfl
            have fF371 := hsF10sasassasdssdssssmmmsmsdsssas.freeAt 6 rfl 1
            have cF371 := hsF10sasassasdssdssssmmmsmsdsssas.cellAt 6 rfl 1 rfl
            go_wp2_with fail
            have hsF10sasassasdssdssssmmmsmsdsssast := ((hsF10sasassasdssdssssmmmsmsdsssas.set (p := [_, _, _, _, _, _]) (by simp <;> omega) 0 (.int .i64 r0)).set (p := [_, _, _, _, _, _]) (by simp <;> omega) 1 (.slice aK1 r1.length cK1))
            have JWF10''''''''''''''''''''''''''''' := Lib.hid (Iv.setOut (Iv.setOut JWF10''''''''''''''''''''''''''''.out (a := ⟨w26.heap.size, 0, none⟩) (by first | (left; simp only; first | done | omega) | (right; simp only; first | done | omega)) (.int .i64 r0)) (a := ⟨w26.heap.size, 1, none⟩) (by first | (left; simp only; first | done | omega) | (right; simp only; first | done | omega)) (.slice aK1 r1.length cK1))
            try clear JWF10''''''''''''''''''''''''''''
            have JK' := Lib.hid (Iv.setOut (Iv.setOut JK.out (a := ⟨w26.heap.size, 0, none⟩) (by first | (left; simp only; first | done | omega) | (right; simp only; first | done | omega)) (.int .i64 r0)) (a := ⟨w26.heap.size, 1, none⟩) (by first | (left; simp only; first | done | omega) | (right; simp only; first | done | omega)) (.slice aK1 r1.length cK1))
            try clear JK
            have HYG' := Lib.hid (own_setOut (own_setOut HYG.out (b := w26.heap.size) (o := 0) (fun hk => by have := hqG _ hk; omega) (.int .i64 r0)) (b := w26.heap.size) (o := 1) (fun hk => by have := hqG _ hk; omega) (.slice aK1 r1.length cK1))
            try clear HYG
            have HYG := HYG'
            clear HYG'
            clear fF370 cF370 fF371 cF371
            refine ⟨?_, ?_⟩
            · first | exact ⟨hsF10sasassasdssdssssmmmsmsdsssast.cellAt 0 rfl 0 rfl, hsF10sasassasdssdssssmmmsmsdsssast.cellAt 0 rfl 1 rfl, hsF10sasassasdssdssssmmmsmsdsssast.cellAt 1 rfl 0 rfl, hsF10sasassasdssdssssmmmsmsdsssast.cellAt 1 rfl 1 rfl, hsF10sasassasdssdssssmmmsmsdsssast.cellAt 2 rfl 0 rfl, hsF10sasassasdssdssssmmmsmsdsssast.cellAt 2 rfl 1 rfl, hsF10sasassasdssdssssmmmsmsdsssast.cellAt 3 rfl 0 rfl, hsF10sasassasdssdssssmmmsmsdsssast.cellAt 3 rfl 1 rfl, hsF10sasassasdssdssssmmmsmsdsssast.cellAt 4 rfl 0 rfl, hsF10sasassasdssdssssmmmsmsdsssast.cellAt 4 rfl 1 rfl, hsF10sasassasdssdssssmmmsmsdsssast.cellAt 5 rfl 0 rfl, hsF10sasassasdssdssssmmmsmsdsssast.cellAt 5 rfl 1 rfl⟩ | exact ⟨hsF10sasassasdssdssssmmmsmsdsssas.cellAt 0 rfl 0 rfl, hsF10sasassasdssdssssmmmsmsdsssas.cellAt 0 rfl 1 rfl, hsF10sasassasdssdssssmmmsmsdsssas.cellAt 1 rfl 0 rfl, hsF10sasassasdssdssssmmmsmsdsssas.cellAt 1 rfl 1 rfl, hsF10sasassasdssdssssmmmsmsdsssas.cellAt 2 rfl 0 rfl, hsF10sasassasdssdssssmmmsmsdsssas.cellAt 2 rfl 1 rfl, hsF10sasassasdssdssssmmmsmsdsssas.cellAt 3 rfl 0 rfl, hsF10sasassasdssdssssmmmsmsdsssas.cellAt 3 rfl 1 rfl, hsF10sasassasdssdssssmmmsmsdsssas.cellAt 4 rfl 0 rfl, hsF10sasassasdssdssssmmmsmsdsssas.cellAt 4 rfl 1 rfl, hsF10sasassasdssdssssmmmsmsdsssas.cellAt 5 rfl 0 rfl, hsF10sasassasdssdssssmmmsmsdsssas.cellAt 5 rfl 1 rfl⟩
            (repeat (first | (apply t4_skip rfl (by rfl); try simp only [Act.put, List.setIfInBounds_toArray, List.set_cons_zero, List.set_cons_succ]) | (apply t4_float rfl (by rfl); (· (intro w' hS; go_simp <;> with_reducible rfl)); (try simp only [Act.put, List.setIfInBounds_toArray, List.set_cons_zero, List.set_cons_succ]))))
            refine t4_nil (NoPanic.normal ?_)
            have hsF37 : St w ((w27.setCell ⟨w26.heap.size, 0, none⟩ (.int .i64 r0)).setCell ⟨w26.heap.size, 1, none⟩ (.slice aK1 r1.length cK1)).heap.size ((w27.setCell ⟨w26.heap.size, 0, none⟩ (.int .i64 r0)).setCell ⟨w26.heap.size, 1, none⟩ (.slice aK1 r1.length cK1)) [(w.heap.size, #[.int .i64 x00, .slice a01 x01.length c01], 24), (w.heap.size + 1, #[.int .i64 x10, .slice a11 x11.length c11], 55), (gUF10, #[.int .i64 r0, .slice aW1 r1.length cW1], 61), (w7.heap.size, #[.int .i64 x00, .slice ax01 x01.length cx01], 34), (w8.heap.size, #[.int .i64 x10, .slice ax11 x11.length cx11], 61), (w10.heap.size, #[.int .i64 r0, .slice aG1 r1.length cG1], 61), (w26.heap.size, #[.int .i64 r0, .slice aK1 r1.length cK1], 61)] := hsF10sasassasdssdssssmmmsmsdsssast.up hsF10sasassasdssdssssmmmsmsdsssast.hi (Nat.le_refl _)
            have hVF37 : w27.heap.size = ((w27.setCell ⟨w26.heap.size, 0, none⟩ (.int .i64 r0)).setCell ⟨w26.heap.size, 1, none⟩ (.slice aK1 r1.length cK1)).heap.size := by simp [World.setCell]
            obtain ⟨loUF37, hiUF37, hUF37, JUF37⟩ : ∃ lo hi : Nat, (w23.heap.size ≤ lo ∧ hi ≤ w27.heap.size ∧ (w26.heap.size < lo ∨ hi ≤ w26.heap.size) ∧ w23.heap.size ≤ w26.heap.size ∧ w26.heap.size < w27.heap.size) ∧ Hid (Iv lo hi ((w27.setCell ⟨w26.heap.size, 0, none⟩ (.int .i64 r0)).setCell ⟨w26.heap.size, 1, none⟩ (.slice aK1 r1.length cK1)) [.int .i64 r0, .slice aK1 r1.length cK1] (r0, r1)) := ⟨wF37A2.heap.size, w27.heap.size, by omega, JK'.out⟩
            rw [hVF37] at hUF37
            clear hVF37 JK'
            generalize hhwUF37 : ((w27.setCell ⟨w26.heap.size, 0, none⟩ (.int .i64 r0)).setCell ⟨w26.heap.size, 1, none⟩ (.slice aK1 r1.length cK1)) = wUF37 at hsF37 hUF37 JUF37 JWF10''''''''''''''''''''''''''''' HYG ⊢
            clear hhwUF37
            generalize hhgUF37 : w26.heap.size = gUF37 at hsF37 hUF37 JUF37 JWF10''''''''''''''''''''''''''''' HYG ⊢
            clear hhgUF37
            generalize at01 = zat01 at hsF37 hUF37 JUF37 JWF10''''''''''''''''''''''''''''' HYG ⊢
            generalize ct01 = zct01 at hsF37 hUF37 JUF37 JWF10''''''''''''''''''''''''''''' HYG ⊢
            generalize at11 = zat11 at hsF37 hUF37 JUF37 JWF10''''''''''''''''''''''''''''' HYG ⊢
            generalize ct11 = zct11 at hsF37 hUF37 JUF37 JWF10''''''''''''''''''''''''''''' HYG ⊢
            generalize at2 = zat2 at hsF37 hUF37 JUF37 JWF10''''''''''''''''''''''''''''' HYG ⊢
            generalize ct2 = zct2 at hsF37 hUF37 JUF37 JWF10''''''''''''''''''''''''''''' HYG ⊢
            generalize aK1 = zaK1 at hsF37 hUF37 JUF37 JWF10''''''''''''''''''''''''''''' HYG ⊢
            generalize cK1 = zcK1 at hsF37 hUF37 JUF37 JWF10''''''''''''''''''''''''''''' HYG ⊢
            revert HYG
            revert JWF10'''''''''''''''''''''''''''''
            revert JUF37
            revert hUF37
            revert hsF37
            revert zcK1
            revert zaK1
            revert zct2
            revert zat2
            revert zct11
            revert zat11
            revert zct01
            revert zat01
            revert hiUF37
            revert loUF37
            revert gUF37
            revert wUF37
            exact HJ.get
        · refine t4_hard rfl (by rfl) (fun K hK => ?_)
          go_wp2_with fail
          have hsF10sasassasdssdssssmmmsmsdssa := hsF10sasassasdssdssssmmmsmsdss.alloc #[.int .i64 0, .slice none 0 0] 61 rfl
          have JWF10'''''''''''''''''''''''''' := Lib.hid (Iv.mono JWF10'''''''''''''''''''''''''.out (belowA _ (.cells #[.int .i64 0, .slice none 0 0] 61)))
          try clear JWF10'''''''''''''''''''''''''
          have Jt0'' := Lib.hid (Iv.mono Jt0'.out (belowA _ (.cells #[.int .i64 0, .slice none 0 0] 61)))
          try clear Jt0'
          have Jt1' := Lib.hid (Iv.mono Jt1.out (belowA _ (.cells #[.int .i64 0, .slice none 0 0] 61)))
          try clear Jt1
          have HYG' := Lib.hid (Own.mono HYG.out (belowA _ (.cells #[.int .i64 0, .slice none 0 0] 61)))
          try clear HYG
          have HYG := HYG'
          clear HYG'
          have hzF37A3 : w25.heap.size + 1 ≤ (w25.alloc (.cells #[.int .i64 0, .slice none 0 0] 61)).heap.size := by simp
          generalize hgenF37A3 : w25.alloc (.cells #[.int .i64 0, .slice none 0 0] 61) = wF37A3 at *
          have HGF37A3 := Lib.hid hgenF37A3
          clear hgenF37A3
          refine ⟨⟨hsF10sasassasdssdssssmmmsmsdssa.cellAt 0 rfl 0 rfl, hsF10sasassasdssdssssmmmsmsdssa.cellAt 0 rfl 1 rfl, hsF10sasassasdssdssssmmmsmsdssa.cellAt 1 rfl 0 rfl, hsF10sasassasdssdssssmmmsmsdssa.cellAt 1 rfl 1 rfl, hsF10sasassasdssdssssmmmsmsdssa.cellAt 2 rfl 0 rfl, hsF10sasassasdssdssssmmmsmsdssa.cellAt 2 rfl 1 rfl, hsF10sasassasdssdssssmmmsmsdssa.cellAt 3 rfl 0 rfl, hsF10sasassasdssdssssmmmsmsdssa.cellAt 3 rfl 1 rfl, hsF10sasassasdssdssssmmmsmsdssa.cellAt 4 rfl 0 rfl, hsF10sasassasdssdssssmmmsmsdssa.cellAt 4 rfl 1 rfl, hsF10sasassasdssdssssmmmsmsdssa.cellAt 5 rfl 0 rfl, hsF10sasassasdssdssssmmmsmsdssa.cellAt 5 rfl 1 rfl⟩, ?_⟩
          (repeat (first | (apply t4_skip rfl (by rfl); try simp only [Act.put, List.setIfInBounds_toArray, List.set_cons_zero, List.set_cons_succ]) | (apply t4_float rfl (by rfl); (· (intro w' hS; go_simp <;> with_reducible rfl)); (try simp only [Act.put, List.setIfInBounds_toArray, List.set_cons_zero, List.set_cons_succ]))))
          refine t4_hard rfl (by rfl) (fun K hK => ?_)
          go_wp2_with (go_at_call 13; refine (toInt64S_b x2 _ _ (Rd.mono H2.out hsF10sasassasdssdssssmmmsmsdssa.bel) (by omega)).mono ?_; rintro e w26 ⟨ut20, rfl, frt2, hb26⟩)
          have JWF10''''''''''''''''''''''''''' := Lib.hid (Iv.mono JWF10''''''''''''''''''''''''''.out hb26)
          try clear JWF10''''''''''''''''''''''''''
          have Jt0''' := Lib.hid (Iv.mono Jt0''.out hb26)
          try clear Jt0''
          have Jt1'' := Lib.hid (Iv.mono Jt1'.out hb26)
          try clear Jt1'
          have hsF10sasassasdssdssssmmmsmsdssas := hsF10sasassasdssdssssmmmsmsdssa.step hb26
          have hz22 : wF37A3.heap.size ≤ w26.heap.size := by simpa using hb26.size
          have Jt2 := Lib.hid (Fresh.iv frt2)
          obtain ⟨at2, ct2, rfl, _⟩ := rd_list (Iv.rd Jt2.out)
          clear frt2
          refine ⟨⟨hsF10sasassasdssdssssmmmsmsdssas.cellAt 0 rfl 0 rfl, hsF10sasassasdssdssssmmmsmsdssas.cellAt 0 rfl 1 rfl, hsF10sasassasdssdssssmmmsmsdssas.cellAt 1 rfl 0 rfl, hsF10sasassasdssdssssmmmsmsdssas.cellAt 1 rfl 1 rfl, hsF10sasassasdssdssssmmmsmsdssas.cellAt 2 rfl 0 rfl, hsF10sasassasdssdssssmmmsmsdssas.cellAt 2 rfl 1 rfl, hsF10sasassasdssdssssmmmsmsdssas.cellAt 3 rfl 0 rfl, hsF10sasassasdssdssssmmmsmsdssas.cellAt 3 rfl 1 rfl, hsF10sasassasdssdssssmmmsmsdssas.cellAt 4 rfl 0 rfl, hsF10sasassasdssdssssmmmsmsdssas.cellAt 4 rfl 1 rfl, hsF10sasassasdssdssssmmmsmsdssas.cellAt 5 rfl 0 rfl, hsF10sasassasdssdssssmmmsmsdssas.cellAt 5 rfl 1 rfl⟩, ?_⟩
          (repeat (first | (apply t4_skip rfl (by rfl); try simp only [Act.put, List.setIfInBounds_toArray, List.set_cons_zero, List.set_cons_succ]) | (apply t4_float rfl (by rfl); (· (intro w' hS; go_simp <;> with_reducible rfl)); (try simp only [Act.put, List.setIfInBounds_toArray, List.set_cons_zero, List.set_cons_succ]))))
          have HYG' := Lib.hid (Own.mono HYG.out hb26)
          try clear HYG
          have HYG := HYG'
          clear HYG'
          refine t4_hard rfl (by rfl) (fun K hK => ?_)
          go_wp2_with (go_at_call 32; refine (CI.out _ _ _ _ _ _ (Iv.rd Jt0'''.out) (Iv.rd Jt1''.out) (Iv.rd Jt2.out) (by omega)).mono ?_; rintro e w27 ⟨uK0, uK1, rfl, frK, hb27⟩)
          have JWF10'''''''''''''''''''''''''''' := Lib.hid (Iv.mono JWF10'''''''''''''''''''''''''''.out hb27)
          try clear JWF10'''''''''''''''''''''''''''
          have Jt0'''' := Lib.hid (Iv.mono Jt0'''.out hb27)
          try clear Jt0'''
          have Jt1''' := Lib.hid (Iv.mono Jt1''.out hb27)
          try clear Jt1''
          have Jt2' := Lib.hid (Iv.mono Jt2.out hb27)
          try clear Jt2
          have hsF10sasassasdssdssssmmmsmsdssass := hsF10sasassasdssdssssmmmsmsdssas.step hb27
          have hz23 : w26.heap.size ≤ w27.heap.size := by simpa using hb27.size
          have JK := Lib.hid (Fresh.iv frK)
          have zK0 := rd_cons rfl (Iv.rd JK.out)
          obtain ⟨rfl, _⟩ := rd_i1 zK0.1
          obtain ⟨aK1, cK1, rfl, _⟩ := rd_list zK0.2
          clear zK0
          clear frK
          have HYG' := Lib.hid (Own.mono HYG.out hb27)
          try clear HYG
          have HYG := HYG'
          clear HYG'
          try clear Jt0''''
          try clear Jt1'''
          try clear Jt2'
          refine ⟨⟨hsF10sasassasdssdssssmmmsmsdssass.cellAt 0 rfl 0 rfl, hsF10sasassasdssdssssmmmsmsdssass.cellAt 0 rfl 1 rfl, hsF10sasassasdssdssssmmmsmsdssass.cellAt 1 rfl 0 rfl, hsF10sasassasdssdssssmmmsmsdssass.cellAt 1 rfl 1 rfl, hsF10sasassasdssdssssmmmsmsdssass.cellAt 2 rfl 0 rfl, hsF10sasassasdssdssssmmmsmsdssass.cellAt 2 rfl 1 rfl, hsF10sasassasdssdssssmmmsmsdssass.cellAt 3 rfl 0 rfl, hsF10sasassasdssdssssmmmsmsdssass.cellAt 3 rfl 1 rfl, hsF10sasassasdssdssssmmmsmsdssass.cellAt 4 rfl 0 rfl, hsF10sasassasdssdssssmmmsmsdssass.cellAt 4 rfl 1 rfl, hsF10sasassasdssdssssmmmsmsdssass.cellAt 5 rfl 0 rfl, hsF10sasassasdssdssssmmmsmsdssass.cellAt 5 rfl 1 rfl⟩, ?_⟩
          (repeat (first | (apply t4_skip rfl (by rfl); try simp only [Act.put, List.setIfInBounds_toArray, List.set_cons_zero, List.set_cons_succ]) | (apply t4_float rfl (by rfl); (· (intro w' hS; go_simp <;> with_reducible rfl)); (try simp only [Act.put, List.setIfInBounds_toArray, List.set_cons_zero, List.set_cons_succ]))))
          refine t4_hard rfl (by rfl) (fun K hK => ?_)
          have fF370 := hsF10sasassasdssdssssmmmsmsdssass.freeAt 6 rfl 0
          have cF370 := hsF10sasassasdssdssssmmmsmsdssass.cellAt 6 rfl 0 rfl
          have fF371 := hsF10sasassasdssdssssmmmsmsdssass.freeAt 6 rfl 1
          have cF371 := hsF10sasassasdssdssssmmmsmsdssass.cellAt 6 rfl 1 rfl
          go_wp2_with fail
          have hsF10sasassasdssdssssmmmsmsdssasst := ((hsF10sasassasdssdssssmmmsmsdssass.set (p := [_, _, _, _, _, _]) (by simp <;> omega) 0 (.int .i64 r0)).set (p := [_, _, _, _, _, _]) (by simp <;> omega) 1 (.slice aK1 r1.length cK1))
          have JWF10''''''''''''''''''''''''''''' := Lib.hid (Iv.setOut (Iv.setOut JWF10''''''''''''''''''''''''''''.out (a := ⟨w25.heap.size, 0, none⟩) (by first | (left; simp only; first | done | omega) | (right; simp only; first | done | omega)) (.int .i64 r0)) (a := ⟨w25.heap.size, 1, none⟩) (by first | (left; simp only; first | done | omega) | (right; simp only; first | done | omega)) (.slice aK1 r1.length cK1))
          try clear JWF10''''''''''''''''''''''''''''
          have JK' := Lib.hid (Iv.setOut (Iv.setOut JK.out (a := ⟨w25.heap.size, 0, none⟩) (by first | (left; simp only; first | done | omega) | (right; simp only; first | done | omega)) (.int .i64 r0)) (a := ⟨w25.heap.size, 1, none⟩) (by first | (left; simp only; first | done | omega) | (right; simp only; first | done | omega)) (.slice aK1 r1.length cK1))
          try clear JK
          have HYG' := Lib.hid (own_setOut (own_setOut HYG.out (b := w25.heap.size) (o := 0) (fun hk => by have := hqG _ hk; omega) (.int .i64 r0)) (b := w25.heap.size) (o := 1) (fun hk => by have := hqG _ hk; omega) (.slice aK1 r1.length cK1))
          try clear HYG
          have HYG := HYG'
          clear HYG'
          clear fF370 cF370 fF371 cF371
          refine ⟨?_, ?_⟩
          · first | exact ⟨hsF10sasassasdssdssssmmmsmsdssasst.cellAt 0 rfl 0 rfl, hsF10sasassasdssdssssmmmsmsdssasst.cellAt 0 rfl 1 rfl, hsF10sasassasdssdssssmmmsmsdssasst.cellAt 1 rfl 0 rfl, hsF10sasassasdssdssssmmmsmsdssasst.cellAt 1 rfl 1 rfl, hsF10sasassasdssdssssmmmsmsdssasst.cellAt 2 rfl 0 rfl, hsF10sasassasdssdssssmmmsmsdssasst.cellAt 2 rfl 1 rfl, hsF10sasassasdssdssssmmmsmsdssasst.cellAt 3 rfl 0 rfl, hsF10sasassasdssdssssmmmsmsdssasst.cellAt 3 rfl 1 rfl, hsF10sasassasdssdssssmmmsmsdssasst.cellAt 4 rfl 0 rfl, hsF10sasassasdssdssssmmmsmsdssasst.cellAt 4 rfl 1 rfl, hsF10sasassasdssdssssmmmsmsdssasst.cellAt 5 rfl 0 rfl, hsF10sasassasdssdssssmmmsmsdssasst.cellAt 5 rfl 1 rfl⟩ | exact ⟨hsF10sasassasdssdssssmmmsmsdssass.cellAt 0 rfl 0 rfl, hsF10sasassasdssdssssmmmsmsdssass.cellAt 0 rfl 1 rfl, hsF10sasassasdssdssssmmmsmsdssass.cellAt 1 rfl 0 rfl, hsF10sasassasdssdssssmmmsmsdssass.cellAt 1 rfl 1 rfl, hsF10sasassasdssdssssmmmsmsdssass.cellAt 2 rfl 0 rfl, hsF10sasassasdssdssssmmmsmsdssass.cellAt 2 rfl 1 rfl, hsF10sasassasdssdssssmmmsmsdssass.cellAt 3 rfl 0 rfl, hsF10sasassasdssdssssmmmsmsdssass.cellAt 3 rfl 1 rfl, hsF10sasassasdssdssssmmmsmsdssass.cellAt 4 rfl 0 rfl, hsF10sasassasdssdssssmmmsmsdssass.cellAt 4 rfl 1 rfl, hsF10sasassasdssdssssmmmsmsdssass.cellAt 5 rfl 0 rfl, hsF10sasassasdssdssssmmmsmsdssass.cellAt 5 rfl 1 rfl⟩
          (repeat (first | (apply t4_skip rfl (by rfl); try simp only [Act.put, List.setIfInBounds_toArray, List.set_cons_zero, List.set_cons_succ]) | (apply t4_float rfl (by rfl); (· (intro w' hS; go_simp <;> with_reducible rfl)); (try simp only [Act.put, List.setIfInBounds_toArray, List.set_cons_zero, List.set_cons_succ]))))
          refine t4_nil (NoPanic.normal ?_)
          have hsF37 : St w ((w27.setCell ⟨w25.heap.size, 0, none⟩ (.int .i64 r0)).setCell ⟨w25.heap.size, 1, none⟩ (.slice aK1 r1.length cK1)).heap.size ((w27.setCell ⟨w25.heap.size, 0, none⟩ (.int .i64 r0)).setCell ⟨w25.heap.size, 1, none⟩ (.slice aK1 r1.length cK1)) [(w.heap.size, #[.int .i64 x00, .slice a01 x01.length c01], 24), (w.heap.size + 1, #[.int .i64 x10, .slice a11 x11.length c11], 55), (gUF10, #[.int .i64 r0, .slice aW1 r1.length cW1], 61), (w7.heap.size, #[.int .i64 x00, .slice ax01 x01.length cx01], 34), (w8.heap.size, #[.int .i64 x10, .slice ax11 x11.length cx11], 61), (w10.heap.size, #[.int .i64 r0, .slice aG1 r1.length cG1], 61), (w25.heap.size, #[.int .i64 r0, .slice aK1 r1.length cK1], 61)] := hsF10sasassasdssdssssmmmsmsdssasst.up hsF10sasassasdssdssssmmmsmsdssasst.hi (Nat.le_refl _)
          have hVF37 : w27.heap.size = ((w27.setCell ⟨w25.heap.size, 0, none⟩ (.int .i64 r0)).setCell ⟨w25.heap.size, 1, none⟩ (.slice aK1 r1.length cK1)).heap.size := by simp [World.setCell]
          obtain ⟨loUF37, hiUF37, hUF37, JUF37⟩ : ∃ lo hi : Nat, (w23.heap.size ≤ lo ∧ hi ≤ w27.heap.size ∧ (w25.heap.size < lo ∨ hi ≤ w25.heap.size) ∧ w23.heap.size ≤ w25.heap.size ∧ w25.heap.size < w27.heap.size) ∧ Hid (Iv lo hi ((w27.setCell ⟨w25.heap.size, 0, none⟩ (.int .i64 r0)).setCell ⟨w25.heap.size, 1, none⟩ (.slice aK1 r1.length cK1)) [.int .i64 r0, .slice aK1 r1.length cK1] (r0, r1)) := ⟨w26.heap.size, w27.heap.size, by omega, JK'.out⟩
          rw [hVF37] at hUF37
          clear hVF37 JK'
          generalize hhwUF37 : ((w27.setCell ⟨w25.heap.size, 0, none⟩ (.int .i64 r0)).setCell ⟨w25.heap.size, 1, none⟩ (.slice aK1 r1.length cK1)) = wUF37 at hsF37 hUF37 JUF37 JWF10''''''''''''''''''''''''''''' HYG ⊢
          clear hhwUF37
          generalize hhgUF37 : w25.heap.size = gUF37 at hsF37 hUF37 JUF37 JWF10''''''''''''''''''''''''''''' HYG ⊢
          clear hhgUF37
          generalize at01 = zat01 at hsF37 hUF37 JUF37 JWF10''''''''''''''''''''''''''''' HYG ⊢
          generalize ct01 = zct01 at hsF37 hUF37 JUF37 JWF10''''''''''''''''''''''''''''' HYG ⊢
          generalize at11 = zat11 at hsF37 hUF37 JUF37 JWF10''''''''''''''''''''''''''''' HYG ⊢
          generalize ct11 = zct11 at hsF37 hUF37 JUF37 JWF10''''''''''''''''''''''''''''' HYG ⊢
          generalize at2 = zat2 at hsF37 hUF37 JUF37 JWF10''''''''''''''''''''''''''''' HYG ⊢
          generalize ct2 = zct2 at hsF37 hUF37 JUF37 JWF10''''''''''''''''''''''''''''' HYG ⊢
          generalize aK1 = zaK1 at hsF37 hUF37 JUF37 JWF10''''''''''''''''''''''''''''' HYG ⊢
          generalize cK1 = zcK1 at hsF37 hUF37 JUF37 JWF10''''''''''''''''''''''''''''' HYG ⊢
          revert HYG
          revert JWF10'''''''''''''''''''''''''''''
          revert JUF37
          revert hUF37
          revert hsF37
          revert zcK1
          revert zaK1
          revert zct2
          revert zat2
          revert zct11
          revert zat11
          revert zct01
          revert zat01
          revert hiUF37
          revert loUF37
          revert gUF37
          revert wUF37
          exact HJ.get
      · refine t4_hard rfl (by rfl) (fun K hK => ?_)
        go_wp2_with fail
        have hsF10sasassasdssdssssmmmsmsdsa := hsF10sasassasdssdssssmmmsmsds.alloc #[.int .i64 0, .slice none 0 0] 61 rfl
        have JWF10''''''''''''''''''''''''' := Lib.hid (Iv.mono JWF10''''''''''''''''''''''''.out (belowA _ (.cells #[.int .i64 0, .slice none 0 0] 61)))
        try clear JWF10''''''''''''''''''''''''
        have Jt0' := Lib.hid (Iv.mono Jt0.out (belowA _ (.cells #[.int .i64 0, .slice none 0 0] 61)))
        try clear Jt0
        have HYG' := Lib.hid (Own.mono HYG.out (belowA _ (.cells #[.int .i64 0, .slice none 0 0] 61)))
        try clear HYG
        have HYG := HYG'
        clear HYG'
        have hzF37A4 : w24.heap.size + 1 ≤ (w24.alloc (.cells #[.int .i64 0, .slice none 0 0] 61)).heap.size := by simp
        generalize hgenF37A4 : w24.alloc (.cells #[.int .i64 0, .slice none 0 0] 61) = wF37A4 at *
        have HGF37A4 := Lib.hid hgenF37A4
        clear hgenF37A4
        refine ⟨⟨hsF10sasassasdssdssssmmmsmsdsa.cellAt 0 rfl 0 rfl, hsF10sasassasdssdssssmmmsmsdsa.cellAt 0 rfl 1 rfl, hsF10sasassasdssdssssmmmsmsdsa.cellAt 1 rfl 0 rfl, hsF10sasassasdssdssssmmmsmsdsa.cellAt 1 rfl 1 rfl, hsF10sasassasdssdssssmmmsmsdsa.cellAt 2 rfl 0 rfl, hsF10sasassasdssdssssmmmsmsdsa.cellAt 2 rfl 1 rfl, hsF10sasassasdssdssssmmmsmsdsa.cellAt 3 rfl 0 rfl, hsF10sasassasdssdssssmmmsmsdsa.cellAt 3 rfl 1 rfl, hsF10sasassasdssdssssmmmsmsdsa.cellAt 4 rfl 0 rfl, hsF10sasassasdssdssssmmmsmsdsa.cellAt 4 rfl 1 rfl, hsF10sasassasdssdssssmmmsmsdsa.cellAt 5 rfl 0 rfl, hsF10sasassasdssdssssmmmsmsdsa.cellAt 5 rfl 1 rfl⟩, ?_⟩
        (repeat (first | (apply t4_skip rfl (by rfl); try simp only [Act.put, List.setIfInBounds_toArray, List.set_cons_zero, List.set_cons_succ]) | (apply t4_float rfl (by rfl); (· (intro w' hS; go_simp <;> with_reducible rfl)); (try simp only [Act.put, List.setIfInBounds_toArray, List.set_cons_zero, List.set_cons_succ]))))
        refine t4_hard rfl (by rfl) (fun K hK => ?_)
        go_wp2_with (go_at_call 26; refine (toInstance_b (x10, x11) _ _ _ (Rd.mono H1.out hsF10sasassasdssdssssmmmsmsdsa.bel) gc1).mono ?_; rintro e w25 ⟨ut10, ut11, rfl, frt1, hb25⟩)
        have JWF10'''''''''''''''''''''''''' := Lib.hid (Iv.mono JWF10'''''''''''''''''''''''''.out hb25)
        try clear JWF10'''''''''''''''''''''''''
        have Jt0'' := Lib.hid (Iv.mono Jt0'.out hb25)
        try clear Jt0'
        have hsF10sasassasdssdssssmmmsmsdsas := hsF10sasassasdssdssssmmmsmsdsa.step hb25
        have hz21 : wF37A4.heap.size ≤ w25.heap.size := by simpa using hb25.size
        have Jt1 := Lib.hid (Fresh.iv frt1)
        have zt10 := rd_cons rfl (Iv.rd Jt1.out)
        obtain ⟨rfl, _⟩ := rd_i1 zt10.1
        obtain ⟨at11, ct11, rfl, _⟩ := rd_list zt10.2
        clear zt10
        clear frt1
        refine ⟨⟨hsF10sasassasdssdssssmmmsmsdsas.cellAt 0 rfl 0 rfl, hsF10sasassasdssdssssmmmsmsdsas.cellAt 0 rfl 1 rfl, hsF10sasassasdssdssssmmmsmsdsas.cellAt 1 rfl 0 rfl, hsF10sasassasdssdssssmmmsmsdsas.cellAt 1 rfl 1 rfl, hsF10sasassasdssdssssmmmsmsdsas.cellAt 2 rfl 0 rfl, hsF10sasassasdssdssssmmmsmsdsas.cellAt 2 rfl 1 rfl, hsF10sasassasdssdssssmmmsmsdsas.cellAt 3 rfl 0 rfl, hsF10sasassasdssdssssmmmsmsdsas.cellAt 3 rfl 1 rfl, hsF10sasassasdssdssssmmmsmsdsas.cellAt 4 rfl 0 rfl, hsF10sasassasdssdssssmmmsmsdsas.cellAt 4 rfl 1 rfl, hsF10sasassasdssdssssmmmsmsdsas.cellAt 5 rfl 0 rfl, hsF10sasassasdssdssssmmmsmsdsas.cellAt 5 rfl 1 rfl⟩, ?_⟩
        (repeat (first | (apply t4_skip rfl (by rfl); try simp only [Act.put, List.setIfInBounds_toArray, List.set_cons_zero, List.set_cons_succ]) | (apply t4_float rfl (by rfl); (· (intro w' hS; go_simp <;> with_reducible rfl)); (try simp only [Act.put, List.setIfInBounds_toArray, List.set_cons_zero, List.set_cons_succ]))))
        have HYG' := Lib.hid (Own.mono HYG.out hb25)
        try clear HYG
        have HYG := HYG'
        clear HYG'
        refine t4_hard rfl (by rfl) (fun K hK => ?_)
        go_wp2_with (go_at_call 13; refine (toInt64S_b x2 _ _ (Rd.mono H2.out hsF10sasassasdssdssssmmmsmsdsas.bel) (by omega)).mono ?_; rintro e w26 ⟨ut20, rfl, frt2, hb26⟩)
        have JWF10''''''''''''''''''''''''''' := Lib.hid (Iv.mono JWF10''''''''''''''''''''''''''.out hb26)
        try clear JWF10''''''''''''''''''''''''''
        have Jt0''' := Lib.hid (Iv.mono Jt0''.out hb26)
        try clear Jt0''
        have Jt1' := Lib.hid (Iv.mono Jt1.out hb26)
        try clear Jt1
        have hsF10sasassasdssdssssmmmsmsdsass := hsF10sasassasdssdssssmmmsmsdsas.step hb26
        have hz22 : w25.heap.size ≤ w26.heap.size := by simpa using hb26.size
        have Jt2 := Lib.hid (Fresh.iv frt2)
        obtain ⟨at2, ct2, rfl, _⟩ := rd_list (Iv.rd Jt2.out)
        clear frt2
        refine ⟨⟨hsF10sasassasdssdssssmmmsmsdsass.cellAt 0 rfl 0 rfl, hsF10sasassasdssdssssmmmsmsdsass.cellAt 0 rfl 1 rfl, hsF10sasassasdssdssssmmmsmsdsass.cellAt 1 rfl 0 rfl, hsF10sasassasdssdssssmmmsmsdsass.cellAt 1 rfl 1 rfl, hsF10sasassasdssdssssmmmsmsdsass.cellAt 2 rfl 0 rfl, hsF10sasassasdssdssssmmmsmsdsass.cellAt 2 rfl 1 rfl, hsF10sasassasdssdssssmmmsmsdsass.cellAt 3 rfl 0 rfl, hsF10sasassasdssdssssmmmsmsdsass.cellAt 3 rfl 1 rfl, hsF10sasassasdssdssssmmmsmsdsass.cellAt 4 rfl 0 rfl, hsF10sasassasdssdssssmmmsmsdsass.cellAt 4 rfl 1 rfl, hsF10sasassasdssdssssmmmsmsdsass.cellAt 5 rfl 0 rfl, hsF10sasassasdssdssssmmmsmsdsass.cellAt 5 rfl 1 rfl⟩, ?_⟩
        (repeat (first | (apply t4_skip rfl (by rfl); try simp only [Act.put, List.setIfInBounds_toArray, List.set_cons_zero, List.set_cons_succ]) | (apply t4_float rfl (by rfl); (· (intro w' hS; go_simp <;> with_reducible rfl)); (try simp only [Act.put, List.setIfInBounds_toArray, List.set_cons_zero, List.set_cons_succ]))))
        have HYG' := Lib.hid (Own.mono HYG.out hb26)
        try clear HYG
        have HYG := HYG'
        clear HYG'
        refine t4_hard rfl (by rfl) (fun K hK => ?_)
        go_wp2_with (go_at_call 32; refine (CI.out _ _ _ _ _ _ (Iv.rd Jt0'''.out) (Iv.rd Jt1'.out) (Iv.rd Jt2.out) (by omega)).mono ?_; rintro e w27 ⟨uK0, uK1, rfl, frK, hb27⟩)
        have JWF10'''''''''''''''''''''''''''' := Lib.hid (Iv.mono JWF10'''''''''''''''''''''''''''.out hb27)
        try clear JWF10'''''''''''''''''''''''''''
        have Jt0'''' := Lib.hid (Iv.mono Jt0'''.out hb27)
        try clear Jt0'''
        have Jt1'' := Lib.hid (Iv.mono Jt1'.out hb27)
        try clear Jt1'
        have Jt2' := Lib.hid (Iv.mono Jt2.out hb27)
        try clear Jt2
        have hsF10sasassasdssdssssmmmsmsdsasss := hsF10sasassasdssdssssmmmsmsdsass.step hb27
        have hz23 : w26.heap.size ≤ w27.heap.size := by simpa using hb27.size
        have JK := Lib.hid (Fresh.iv frK)
        have zK0 := rd_cons rfl (Iv.rd JK.out)
        obtain ⟨rfl, _⟩ := rd_i1 zK0.1
        obtain ⟨aK1, cK1, rfl, _⟩ := rd_list zK0.2
        clear zK0
        clear frK
        have HYG' := Lib.hid (Own.mono HYG.out hb27)
        try clear HYG
        have HYG := HYG'
        clear HYG'
        try clear Jt0''''
        try clear Jt1''
        try clear Jt2'
        refine ⟨⟨hsF10sasassasdssdssssmmmsmsdsasss.cellAt 0 rfl 0 rfl, hsF10sasassasdssdssssmmmsmsdsasss.cellAt 0 rfl 1 rfl, hsF10sasassasdssdssssmmmsmsdsasss.cellAt 1 rfl 0 rfl, hsF10sasassasdssdssssmmmsmsdsasss.cellAt 1 rfl 1 rfl, hsF10sasassasdssdssssmmmsmsdsasss.cellAt 2 rfl 0 rfl, hsF10sasassasdssdssssmmmsmsdsasss.cellAt 2 rfl 1 rfl, hsF10sasassasdssdssssmmmsmsdsasss.cellAt 3 rfl 0 rfl, hsF10sasassasdssdssssmmmsmsdsasss.cellAt 3 rfl 1 rfl, hsF10sasassasdssdssssmmmsmsdsasss.cellAt 4 rfl 0 rfl, hsF10sasassasdssdssssmmmsmsdsasss.cellAt 4 rfl 1 rfl, hsF10sasassasdssdssssmmmsmsdsasss.cellAt 5 rfl 0 rfl, hsF10sasassasdssdssssmmmsmsdsasss.cellAt 5 rfl 1 rfl⟩, ?_⟩
        (repeat (first | (apply t4_skip rfl (by rfl); try simp only [Act.put, List.setIfInBounds_toArray, List.set_cons_zero, List.set_cons_succ]) | (apply t4_float rfl (by rfl); (· (intro w' hS; go_simp <;> with_reducible rfl)); (try simp only [Act.put, List.setIfInBounds_toArray, List.set_cons_zero, List.set_cons_succ]))))
        refine t4_hard rfl (by rfl) (fun K hK => ?_)
        have fF370 := hsF10sasassasdssdssssmmmsmsdsasss.freeAt 6 rfl 0
        have cF370 := hsF10sasassasdssdssssmmmsmsdsasss.cellAt 6 rfl 0 rfl
        have fF371 := hsF10sasassasdssdssssmmmsmsdsasss.freeAt 6 rfl 1
        have cF371 := hsF10sasassasdssdssssmmmsmsdsasss.cellAt 6 rfl 1 rfl
        go_wp2_with fail
        have hsF10sasassasdssdssssmmmsmsdsassst := ((hsF10sasassasdssdssssmmmsmsdsasss.set (p := [_, _, _, _, _, _]) (by simp <;> omega) 0 (.int .i64 r0)).set (p := [_, _, _, _, _, _]) (by simp <;> omega) 1 (.slice aK1 r1.length cK1))
        have JWF10''''''''''''''''''''''''''''' := Lib.hid (Iv.setOut (Iv.setOut JWF10''''''''''''''''''''''''''''.out (a := ⟨w24.heap.size, 0, none⟩) (by first | (left; simp only; first | done | omega) | (right; simp only; first | done | omega)) (.int .i64 r0)) (a := ⟨w24.heap.size, 1, none⟩) (by first | (left; simp only; first | done | omega) | (right; simp only; first | done | omega)) (.slice aK1 r1.length cK1))
        try clear JWF10''''''''''''''''''''''''''''
        have JK' := Lib.hid (Iv.setOut (Iv.setOut JK.out (a := ⟨w24.heap.size, 0, none⟩) (by first | (left; simp only; first | done | omega) | (right; simp only; first | done | omega)) (.int .i64 r0)) (a := ⟨w24.heap.size, 1, none⟩) (by first | (left; simp only; first | done | omega) | (right; simp only; first | done | omega)) (.slice aK1 r1.length cK1))
        try clear JK
        have HYG' := Lib.hid (own_setOut (own_setOut HYG.out (b := w24.heap.size) (o := 0) (fun hk => by have := hqG _ hk; omega) (.int .i64 r0)) (b := w24.heap.size) (o := 1) (fun hk => by have := hqG _ hk; omega) (.slice aK1 r1.length cK1))
        try clear HYG
        have HYG := HYG'
        clear HYG'
        clear fF370 cF370 fF371 cF371
        refine ⟨?_, ?_⟩
        · first | exact ⟨hsF10sasassasdssdssssmmmsmsdsassst.cellAt 0 rfl 0 rfl, hsF10sasassasdssdssssmmmsmsdsassst.cellAt 0 rfl 1 rfl, hsF10sasassasdssdssssmmmsmsdsassst.cellAt 1 rfl 0 rfl, hsF10sasassasdssdssssmmmsmsdsassst.cellAt 1 rfl 1 rfl, hsF10sasassasdssdssssmmmsmsdsassst.cellAt 2 rfl 0 rfl, hsF10sasassasdssdssssmmmsmsdsassst.cellAt 2 rfl 1 rfl, hsF10sasassasdssdssssmmmsmsdsassst.cellAt 3 rfl 0 rfl, hsF10sasassasdssdssssmmmsmsdsassst.cellAt 3 rfl 1 rfl, hsF10sasassasdssdssssmmmsmsdsassst.cellAt 4 rfl 0 rfl, hsF10sasassasdssdssssmmmsmsdsassst.cellAt 4 rfl 1 rfl, hsF10sasassasdssdssssmmmsmsdsassst.cellAt 5 rfl 0 rfl, hsF10sasassasdssdssssmmmsmsdsassst.cellAt 5 rfl 1 rfl⟩ | exact ⟨hsF10sasassasdssdssssmmmsmsdsasss.cellAt 0 rfl 0 rfl, hsF10sasassasdssdssssmmmsmsdsasss.cellAt 0 rfl 1 rfl, hsF10sasassasdssdssssmmmsmsdsasss.cellAt 1 rfl 0 rfl, hsF10sasassasdssdssssmmmsmsdsasss.cellAt 1 rfl 1 rfl, hsF10sasassasdssdssssmmmsmsdsasss.cellAt 2 rfl 0 rfl, hsF10sasassasdssdssssmmmsmsdsasss.cellAt 2 rfl 1 rfl, hsF10sasassasdssdssssmmmsmsdsasss.cellAt 3 rfl 0 rfl, hsF10sasassasdssdssssmmmsmsdsasss.cellAt 3 rfl 1 rfl, hsF10sasassasdssdssssmmmsmsdsasss.cellAt 4 rfl 0 rfl, hsF10sasassasdssdssssmmmsmsdsasss.cellAt 4 rfl 1 rfl, hsF10sasassasdssdssssmmmsmsdsasss.cellAt 5 rfl 0 rfl, hsF10sasassasdssdssssmmmsmsdsasss.cellAt 5 rfl 1 rfl⟩
        (repeat (first | (apply t4_skip rfl (by rfl); try simp only [Act.put, List.setIfInBounds_toArray, List.set_cons_zero, List.set_cons_succ]) | (apply t4_float rfl (by rfl); (· (intro w' hS; go_simp <;> with_reducible rfl)); (try simp only [Act.put, List.setIfInBounds_toArray, List.set_cons_zero, List.set_cons_succ]))))
        refine t4_nil (NoPanic.normal ?_)
        have hsF37 : St w ((w27.setCell ⟨w24.heap.size, 0, none⟩ (.int .i64 r0)).setCell ⟨w24.heap.size, 1, none⟩ (.slice aK1 r1.length cK1)).heap.size ((w27.setCell ⟨w24.heap.size, 0, none⟩ (.int .i64 r0)).setCell ⟨w24.heap.size, 1, none⟩ (.slice aK1 r1.length cK1)) [(w.heap.size, #[.int .i64 x00, .slice a01 x01.length c01], 24), (w.heap.size + 1, #[.int .i64 x10, .slice a11 x11.length c11], 55), (gUF10, #[.int .i64 r0, .slice aW1 r1.length cW1], 61), (w7.heap.size, #[.int .i64 x00, .slice ax01 x01.length cx01], 34), (w8.heap.size, #[.int .i64 x10, .slice ax11 x11.length cx11], 61), (w10.heap.size, #[.int .i64 r0, .slice aG1 r1.length cG1], 61), (w24.heap.size, #[.int .i64 r0, .slice aK1 r1.length cK1], 61)] := hsF10sasassasdssdssssmmmsmsdsassst.up hsF10sasassasdssdssssmmmsmsdsassst.hi (Nat.le_refl _)
        have hVF37 : w27.heap.size = ((w27.setCell ⟨w24.heap.size, 0, none⟩ (.int .i64 r0)).setCell ⟨w24.heap.size, 1, none⟩ (.slice aK1 r1.length cK1)).heap.size := by simp [World.setCell]
        obtain ⟨loUF37, hiUF37, hUF37, JUF37⟩ : ∃ lo hi : Nat, (w23.heap.size ≤ lo ∧ hi ≤ w27.heap.size ∧ (w24.heap.size < lo ∨ hi ≤ w24.heap.size) ∧ w23.heap.size ≤ w24.heap.size ∧ w24.heap.size < w27.heap.size) ∧ Hid (Iv lo hi ((w27.setCell ⟨w24.heap.size, 0, none⟩ (.int .i64 r0)).setCell ⟨w24.heap.size, 1, none⟩ (.slice aK1 r1.length cK1)) [.int .i64 r0, .slice aK1 r1.length cK1] (r0, r1)) := ⟨w26.heap.size, w27.heap.size, by omega, JK'.out⟩
        rw [hVF37] at hUF37
        clear hVF37 JK'
        generalize hhwUF37 : ((w27.setCell ⟨w24.heap.size, 0, none⟩ (.int .i64 r0)).setCell ⟨w24.heap.size, 1, none⟩ (.slice aK1 r1.length cK1)) = wUF37 at hsF37 hUF37 JUF37 JWF10''''''''''''''''''''''''''''' HYG ⊢
        clear hhwUF37
        generalize hhgUF37 : w24.heap.size = gUF37 at hsF37 hUF37 JUF37 JWF10''''''''''''''''''''''''''''' HYG ⊢
        clear hhgUF37
        generalize at01 = zat01 at hsF37 hUF37 JUF37 JWF10''''''''''''''''''''''''''''' HYG ⊢
        generalize ct01 = zct01 at hsF37 hUF37 JUF37 JWF10''''''''''''''''''''''''''''' HYG ⊢
        generalize at11 = zat11 at hsF37 hUF37 JUF37 JWF10''''''''''''''''''''''''''''' HYG ⊢
        generalize ct11 = zct11 at hsF37 hUF37 JUF37 JWF10''''''''''''''''''''''''''''' HYG ⊢
        generalize at2 = zat2 at hsF37 hUF37 JUF37 JWF10''''''''''''''''''''''''''''' HYG ⊢
        generalize ct2 = zct2 at hsF37 hUF37 JUF37 JWF10''''''''''''''''''''''''''''' HYG ⊢
        generalize aK1 = zaK1 at hsF37 hUF37 JUF37 JWF10''''''''''''''''''''''''''''' HYG ⊢
        generalize cK1 = zcK1 at hsF37 hUF37 JUF37 JWF10''''''''''''''''''''''''''''' HYG ⊢
        revert HYG
        revert JWF10'''''''''''''''''''''''''''''
        revert JUF37
        revert hUF37
        revert hsF37
        revert zcK1
        revert zaK1
        revert zct2
        revert zat2
        revert zct11
        revert zat11
        revert zct01
        revert zat01
        revert hiUF37
        revert loUF37
        revert gUF37
        revert wUF37
        exact HJ.get
    · refine t4_hard rfl (by rfl) (fun K hK => ?_)
      go_wp2_with fail
      have hsF10sasassasdssdssssmmmsmsda := hsF10sasassasdssdssssmmmsmsd.alloc #[.int .i64 0, .slice none 0 0] 61 rfl
      have JWF10'''''''''''''''''''''''' := Lib.hid (Iv.mono JWF10'''''''''''''''''''''''.out (belowA _ (.cells #[.int .i64 0, .slice none 0 0] 61)))
      try clear JWF10'''''''''''''''''''''''
      have HYG' := Lib.hid (Own.mono HYG.out (belowA _ (.cells #[.int .i64 0, .slice none 0 0] 61)))
      try clear HYG
      have HYG := HYG'
      clear HYG'
      have hzF37A5 : wF37.heap.size + 1 ≤ (wF37.alloc (.cells #[.int .i64 0, .slice none 0 0] 61)).heap.size := by simp
      generalize hgenF37A5 : wF37.alloc (.cells #[.int .i64 0, .slice none 0 0] 61) = wF37A5 at *
      have HGF37A5 := Lib.hid hgenF37A5
      clear hgenF37A5
      refine ⟨⟨hsF10sasassasdssdssssmmmsmsda.cellAt 0 rfl 0 rfl, hsF10sasassasdssdssssmmmsmsda.cellAt 0 rfl 1 rfl, hsF10sasassasdssdssssmmmsmsda.cellAt 1 rfl 0 rfl, hsF10sasassasdssdssssmmmsmsda.cellAt 1 rfl 1 rfl, hsF10sasassasdssdssssmmmsmsda.cellAt 2 rfl 0 rfl, hsF10sasassasdssdssssmmmsmsda.cellAt 2 rfl 1 rfl, hsF10sasassasdssdssssmmmsmsda.cellAt 3 rfl 0 rfl, hsF10sasassasdssdssssmmmsmsda.cellAt 3 rfl 1 rfl, hsF10sasassasdssdssssmmmsmsda.cellAt 4 rfl 0 rfl, hsF10sasassasdssdssssmmmsmsda.cellAt 4 rfl 1 rfl, hsF10sasassasdssdssssmmmsmsda.cellAt 5 rfl 0 rfl, hsF10sasassasdssdssssmmmsmsda.cellAt 5 rfl 1 rfl⟩, ?_⟩
      (repeat (first | (apply t4_skip rfl (by rfl); try simp only [Act.put, List.setIfInBounds_toArray, List.set_cons_zero, List.set_cons_succ]) | (apply t4_float rfl (by rfl); (· (intro w' hS; go_simp <;> with_reducible rfl)); (try simp only [Act.put, List.setIfInBounds_toArray, List.set_cons_zero, List.set_cons_succ]))))
      refine t4_hard rfl (by rfl) (fun K hK => ?_)
      go_wp2_with (go_at_call 11; refine (toTemplate_b (x00, x01) _ _ _ (Rd.mono H0.out hsF10sasassasdssdssssmmmsmsda.bel) gc0).mono ?_; rintro e w24 ⟨ut00, ut01, rfl, frt0, hb24⟩)
      have JWF10''''''''''''''''''''''''' := Lib.hid (Iv.mono JWF10''''''''''''''''''''''''.out hb24)
      try clear JWF10''''''''''''''''''''''''
      have hsF10sasassasdssdssssmmmsmsdas := hsF10sasassasdssdssssmmmsmsda.step hb24
      have hz20 : wF37A5.heap.size ≤ w24.heap.size := by simpa using hb24.size
      have Jt0 := Lib.hid (Fresh.iv frt0)
      have zt00 := rd_cons rfl (Iv.rd Jt0.out)
      obtain ⟨rfl, _⟩ := rd_i1 zt00.1
      obtain ⟨at01, ct01, rfl, _⟩ := rd_list zt00.2
      clear zt00
      clear frt0
      refine ⟨⟨hsF10sasassasdssdssssmmmsmsdas.cellAt 0 rfl 0 rfl, hsF10sasassasdssdssssmmmsmsdas.cellAt 0 rfl 1 rfl, hsF10sasassasdssdssssmmmsmsdas.cellAt 1 rfl 0 rfl, hsF10sasassasdssdssssmmmsmsdas.cellAt 1 rfl 1 rfl, hsF10sasassasdssdssssmmmsmsdas.cellAt 2 rfl 0 rfl, hsF10sasassasdssdssssmmmsmsdas.cellAt 2 rfl 1 rfl, hsF10sasassasdssdssssmmmsmsdas.cellAt 3 rfl 0 rfl, hsF10sasassasdssdssssmmmsmsdas.cellAt 3 rfl 1 rfl, hsF10sasassasdssdssssmmmsmsdas.cellAt 4 rfl 0 rfl, hsF10sasassasdssdssssmmmsmsdas.cellAt 4 rfl 1 rfl, hsF10sasassasdssdssssmmmsmsdas.cellAt 5 rfl 0 rfl, hsF10sasassasdssdssssmmmsmsdas.cellAt 5 rfl 1 rfl⟩, ?_⟩
      (repeat (first | (apply t4_skip rfl (by rfl); try simp only [Act.put, List.setIfInBounds_toArray, List.set_cons_zero, List.set_cons_succ]) | (apply t4_float rfl (by rfl); (· (intro w' hS; go_simp <;> with_reducible rfl)); (try simp only [Act.put, List.setIfInBounds_toArray, List.set_cons_zero, List.set_cons_succ]))))
      have HYG' := Lib.hid (Own.mono HYG.out hb24)
      try clear HYG
      have HYG := HYG'
      clear HYG'
      refine t4_hard rfl (by rfl) (fun K hK => ?_)
      go_wp2_with (go_at_call 26; refine (toInstance_b (x10, x11) _ _ _ (Rd.mono H1.out hsF10sasassasdssdssssmmmsmsdas.bel) gc1).mono ?_; rintro e w25 ⟨ut10, ut11, rfl, frt1, hb25⟩)
      have JWF10'''''''''''''''''''''''''' := Lib.hid (Iv.mono JWF10'''''''''''''''''''''''''.out hb25)
      try clear JWF10'''''''''''''''''''''''''
      have Jt0' := Lib.hid (Iv.mono Jt0.out hb25)
      try clear Jt0
      have hsF10sasassasdssdssssmmmsmsdass := hsF10sasassasdssdssssmmmsmsdas.step hb25
      have hz21 : w24.heap.size ≤ w25.heap.size := by simpa using hb25.size
      have Jt1 := Lib.hid (Fresh.iv frt1)
      have zt10 := rd_cons rfl (Iv.rd Jt1.out)
      obtain ⟨rfl, _⟩ := rd_i1 zt10.1
      obtain ⟨at11, ct11, rfl, _⟩ := rd_list zt10.2
      clear zt10
      clear frt1
      refine ⟨⟨hsF10sasassasdssdssssmmmsmsdass.cellAt 0 rfl 0 rfl, hsF10sasassasdssdssssmmmsmsdass.cellAt 0 rfl 1 rfl, hsF10sasassasdssdssssmmmsmsdass.cellAt 1 rfl 0 rfl, hsF10sasassasdssdssssmmmsmsdass.cellAt 1 rfl 1 rfl, hsF10sasassasdssdssssmmmsmsdass.cellAt 2 rfl 0 rfl, hsF10sasassasdssdssssmmmsmsdass.cellAt 2 rfl 1 rfl, hsF10sasassasdssdssssmmmsmsdass.cellAt 3 rfl 0 rfl, hsF10sasassasdssdssssmmmsmsdass.cellAt 3 rfl 1 rfl, hsF10sasassasdssdssssmmmsmsdass.cellAt 4 rfl 0 rfl, hsF10sasassasdssdssssmmmsmsdass.cellAt 4 rfl 1 rfl, hsF10sasassasdssdssssmmmsmsdass.cellAt 5 rfl 0 rfl, hsF10sasassasdssdssssmmmsmsdass.cellAt 5 rfl 1 rfl⟩, ?_⟩
      (repeat (first | (apply t4_skip rfl (by rfl); try simp only [Act.put, List.setIfInBounds_toArray, List.set_cons_zero, List.set_cons_succ]) | (apply t4_float rfl (by rfl); (· (intro w' hS; go_simp <;> with_reducible rfl)); (try simp only [Act.put, List.setIfInBounds_toArray, List.set_cons_zero, List.set_cons_succ]))))
      have HYG' := Lib.hid (Own.mono HYG.out hb25)
      try clear HYG
      have HYG := HYG'
      clear HYG'
      refine t4_hard rfl (by rfl) (fun K hK => ?_)
      go_wp2_with (go_at_call 13; refine (toInt64S_b x2 _ _ (Rd.mono H2.out hsF10sasassasdssdssssmmmsmsdass.bel) (by omega)).mono ?_; rintro e w26 ⟨ut20, rfl, frt2, hb26⟩)
      have JWF10''''''''''''''''''''''''''' := Lib.hid (Iv.mono JWF10''''''''''''''''''''''''''.out hb26)
      try clear JWF10''''''''''''''''''''''''''
      have Jt0'' := Lib.hid (Iv.mono Jt0'.out hb26)
      try clear Jt0'
      have Jt1' := Lib.hid (Iv.mono Jt1.out hb26)
      try clear Jt1
      have hsF10sasassasdssdssssmmmsmsdasss := hsF10sasassasdssdssssmmmsmsdass.step hb26
      have hz22 : w25.heap.size ≤ w26.heap.size := by simpa using hb26.size
      have Jt2 := Lib.hid (Fresh.iv frt2)
      obtain ⟨at2, ct2, rfl, _⟩ := rd_list (Iv.rd Jt2.out)
      clear frt2
      refine ⟨⟨hsF10sasassasdssdssssmmmsmsdasss.cellAt 0 rfl 0 rfl, hsF10sasassasdssdssssmmmsmsdasss.cellAt 0 rfl 1 rfl, hsF10sasassasdssdssssmmmsmsdasss.cellAt 1 rfl 0 rfl, hsF10sasassasdssdssssmmmsmsdasss.cellAt 1 rfl 1 rfl, hsF10sasassasdssdssssmmmsmsdasss.cellAt 2 rfl 0 rfl, hsF10sasassasdssdssssmmmsmsdasss.cellAt 2 rfl 1 rfl, hsF10sasassasdssdssssmmmsmsdasss.cellAt 3 rfl 0 rfl, hsF10sasassasdssdssssmmmsmsdasss.cellAt 3 rfl 1 rfl, hsF10sasassasdssdssssmmmsmsdasss.cellAt 4 rfl 0 rfl, hsF10sasassasdssdssssmmmsmsdasss.cellAt 4 rfl 1 rfl, hsF10sasassasdssdssssmmmsmsdasss.cellAt 5 rfl 0 rfl, hsF10sasassasdssdssssmmmsmsdasss.cellAt 5 rfl 1 rfl⟩, ?_⟩
      (repeat (first | (apply t4_skip rfl (by rfl); try simp only [Act.put, List.setIfInBounds_toArray, List.set_cons_zero, List.set_cons_succ]) | (apply t4_float rfl (by rfl); (· (intro w' hS; go_simp <;> with_reducible rfl)); (try simp only [Act.put, List.setIfInBounds_toArray, List.set_cons_zero, List.set_cons_succ]))))
      have HYG' := Lib.hid (Own.mono HYG.out hb26)
      try clear HYG
      have HYG := HYG'
      clear HYG'
      refine t4_hard rfl (by rfl) (fun K hK => ?_)
      go_wp2_with (go_at_call 32; refine (CI.out _ _ _ _ _ _ (Iv.rd Jt0''.out) (Iv.rd Jt1'.out) (Iv.rd Jt2.out) (by omega)).mono ?_; rintro e w27 ⟨uK0, uK1, rfl, frK, hb27⟩)
      have JWF10'''''''''''''''''''''''''''' := Lib.hid (Iv.mono JWF10'''''''''''''''''''''''''''.out hb27)
      try clear JWF10'''''''''''''''''''''''''''
      have Jt0''' := Lib.hid (Iv.mono Jt0''.out hb27)
      try clear Jt0''
      have Jt1'' := Lib.hid (Iv.mono Jt1'.out hb27)
      try clear Jt1'
      have Jt2' := Lib.hid (Iv.mono Jt2.out hb27)
      try clear Jt2
      have hsF10sasassasdssdssssmmmsmsdassss := hsF10sasassasdssdssssmmmsmsdasss.step hb27
      have hz23 : w26.heap.size ≤ w27.heap.size := by simpa using hb27.size
      have JK := Lib.hid (Fresh.iv frK)
      have zK0 := rd_cons rfl (Iv.rd JK.out)
      obtain ⟨rfl, _⟩ := rd_i1 zK0.1
      obtain ⟨aK1, cK1, rfl, _⟩ := rd_list zK0.2
      clear zK0
      clear frK
      have HYG' := Lib.hid (Own.mono HYG.out hb27)
      try clear HYG
      have HYG := HYG'
      clear HYG'
      try clear Jt0'''
      try clear Jt1''
      try clear Jt2'
      refine ⟨⟨hsF10sasassasdssdssssmmmsmsdassss.cellAt 0 rfl 0 rfl, hsF10sasassasdssdssssmmmsmsdassss.cellAt 0 rfl 1 rfl, hsF10sasassasdssdssssmmmsmsdassss.cellAt 1 rfl 0 rfl, hsF10sasassasdssdssssmmmsmsdassss.cellAt 1 rfl 1 rfl, hsF10sasassasdssdssssmmmsmsdassss.cellAt 2 rfl 0 rfl, hsF10sasassasdssdssssmmmsmsdassss.cellAt 2 rfl 1 rfl, hsF10sasassasdssdssssmmmsmsdassss.cellAt 3 rfl 0 rfl, hsF10sasassasdssdssssmmmsmsdassss.cellAt 3 rfl 1 rfl, hsF10sasassasdssdssssmmmsmsdassss.cellAt 4 rfl 0 rfl, hsF10sasassasdssdssssmmmsmsdassss.cellAt 4 rfl 1 rfl, hsF10sasassasdssdssssmmmsmsdassss.cellAt 5 rfl 0 rfl, hsF10sasassasdssdssssmmmsmsdassss.cellAt 5 rfl 1 rfl⟩, ?_⟩
      (repeat (first | (apply t4_skip rfl (by rfl); try simp only [Act.put, List.setIfInBounds_toArray, List.set_cons_zero, List.set_cons_succ]) | (apply t4_float rfl (by rfl); (· (intro w' hS; go_simp <;> with_reducible rfl)); (try simp only [Act.put, List.setIfInBounds_toArray, List.set_cons_zero, List.set_cons_succ]))))
      refine t4_hard rfl (by rfl) (fun K hK => ?_)
      have fF370 := hsF10sasassasdssdssssmmmsmsdassss.freeAt 6 rfl 0
      have cF370 := hsF10sasassasdssdssssmmmsmsdassss.cellAt 6 rfl 0 rfl
      have fF371 := hsF10sasassasdssdssssmmmsmsdassss.freeAt 6 rfl 1
      have cF371 := hsF10sasassasdssdssssmmmsmsdassss.cellAt 6 rfl 1 rfl
      go_wp2_with fail
      have hsF10sasassasdssdssssmmmsmsdasssst := ((hsF10sasassasdssdssssmmmsmsdassss.set (p := [_, _, _, _, _, _]) (by simp <;> omega) 0 (.int .i64 r0)).set (p := [_, _, _, _, _, _]) (by simp <;> omega) 1 (.slice aK1 r1.length cK1))
      have JWF10''''''''''''''''''''''''''''' := Lib.hid (Iv.setOut (Iv.setOut JWF10''''''''''''''''''''''''''''.out (a := ⟨wF37.heap.size, 0, none⟩) (by first | (left; simp only; first | done | omega) | (right; simp only; first | done | omega)) (.int .i64 r0)) (a := ⟨wF37.heap.size, 1, none⟩) (by first | (left; simp only; first | done | omega) | (right; simp only; first | done | omega)) (.slice aK1 r1.length cK1))
      try clear JWF10''''''''''''''''''''''''''''
      have JK' := Lib.hid (Iv.setOut (Iv.setOut JK.out (a := ⟨wF37.heap.size, 0, none⟩) (by first | (left; simp only; first | done | omega) | (right; simp only; first | done | omega)) (.int .i64 r0)) (a := ⟨wF37.heap.size, 1, none⟩) (by first | (left; simp only; first | done | omega) | (right; simp only; first | done | omega)) (.slice aK1 r1.length cK1))
      try clear JK
      have HYG' := Lib.hid (own_setOut (own_setOut HYG.out (b := wF37.heap.size) (o := 0) (fun hk => by have := hqG _ hk; omega) (.int .i64 r0)) (b := wF37.heap.size) (o := 1) (fun hk => by have := hqG _ hk; omega) (.slice aK1 r1.length cK1))
      try clear HYG
      have HYG := HYG'
      clear HYG'
      clear fF370 cF370 fF371 cF371
      refine ⟨?_, ?_⟩
      · first | exact ⟨hsF10sasassasdssdssssmmmsmsdasssst.cellAt 0 rfl 0 rfl, hsF10sasassasdssdssssmmmsmsdasssst.cellAt 0 rfl 1 rfl, hsF10sasassasdssdssssmmmsmsdasssst.cellAt 1 rfl 0 rfl, hsF10sasassasdssdssssmmmsmsdasssst.cellAt 1 rfl 1 rfl, hsF10sasassasdssdssssmmmsmsdasssst.cellAt 2 rfl 0 rfl, hsF10sasassasdssdssssmmmsmsdasssst.cellAt 2 rfl 1 rfl, hsF10sasassasdssdssssmmmsmsdasssst.cellAt 3 rfl 0 rfl, hsF10sasassasdssdssssmmmsmsdasssst.cellAt 3 rfl 1 rfl, hsF10sasassasdssdssssmmmsmsdasssst.cellAt 4 rfl 0 rfl, hsF10sasassasdssdssssmmmsmsdasssst.cellAt 4 rfl 1 rfl, hsF10sasassasdssdssssmmmsmsdasssst.cellAt 5 rfl 0 rfl, hsF10sasassasdssdssssmmmsmsdasssst.cellAt 5 rfl 1 rfl⟩ | exact ⟨hsF10sasassasdssdssssmmmsmsdassss.cellAt 0 rfl 0 rfl, hsF10sasassasdssdssssmmmsmsdassss.cellAt 0 rfl 1 rfl, hsF10sasassasdssdssssmmmsmsdassss.cellAt 1 rfl 0 rfl, hsF10sasassasdssdssssmmmsmsdassss.cellAt 1 rfl 1 rfl, hsF10sasassasdssdssssmmmsmsdassss.cellAt 2 rfl 0 rfl, hsF10sasassasdssdssssmmmsmsdassss.cellAt 2 rfl 1 rfl, hsF10sasassasdssdssssmmmsmsdassss.cellAt 3 rfl 0 rfl, hsF10sasassasdssdssssmmmsmsdassss.cellAt 3 rfl 1 rfl, hsF10sasassasdssdssssmmmsmsdassss.cellAt 4 rfl 0 rfl, hsF10sasassasdssdssssmmmsmsdassss.cellAt 4 rfl 1 rfl, hsF10sasassasdssdssssmmmsmsdassss.cellAt 5 rfl 0 rfl, hsF10sasassasdssdssssmmmsmsdassss.cellAt 5 rfl 1 rfl⟩
      (repeat (first | (apply t4_skip rfl (by rfl); try simp only [Act.put, List.setIfInBounds_toArray, List.set_cons_zero, List.set_cons_succ]) | (apply t4_float rfl (by rfl); (· (intro w' hS; go_simp <;> with_reducible rfl)); (try simp only [Act.put, List.setIfInBounds_toArray, List.set_cons_zero, List.set_cons_succ]))))
      refine t4_nil (NoPanic.normal ?_)
      have hsF37 : St w ((w27.setCell ⟨wF37.heap.size, 0, none⟩ (.int .i64 r0)).setCell ⟨wF37.heap.size, 1, none⟩ (.slice aK1 r1.length cK1)).heap.size ((w27.setCell ⟨wF37.heap.size, 0, none⟩ (.int .i64 r0)).setCell ⟨wF37.heap.size, 1, none⟩ (.slice aK1 r1.length cK1)) [(w.heap.size, #[.int .i64 x00, .slice a01 x01.length c01], 24), (w.heap.size + 1, #[.int .i64 x10, .slice a11 x11.length c11], 55), (gUF10, #[.int .i64 r0, .slice aW1 r1.length cW1], 61), (w7.heap.size, #[.int .i64 x00, .slice ax01 x01.length cx01], 34), (w8.heap.size, #[.int .i64 x10, .slice ax11 x11.length cx11], 61), (w10.heap.size, #[.int .i64 r0, .slice aG1 r1.length cG1], 61), (wF37.heap.size, #[.int .i64 r0, .slice aK1 r1.length cK1], 61)] := hsF10sasassasdssdssssmmmsmsdasssst.up hsF10sasassasdssdssssmmmsmsdasssst.hi (Nat.le_refl _)
      have hVF37 : w27.heap.size = ((w27.setCell ⟨wF37.heap.size, 0, none⟩ (.int .i64 r0)).setCell ⟨wF37.heap.size, 1, none⟩ (.slice aK1 r1.length cK1)).heap.size := by simp [World.setCell]
      obtain ⟨loUF37, hiUF37, hUF37, JUF37⟩ : ∃ lo hi : Nat, (w23.heap.size ≤ lo ∧ hi ≤ w27.heap.size ∧ (wF37.heap.size < lo ∨ hi ≤ wF37.heap.size) ∧ w23.heap.size ≤ wF37.heap.size ∧ wF37.heap.size < w27.heap.size) ∧ Hid (Iv lo hi ((w27.setCell ⟨wF37.heap.size, 0, none⟩ (.int .i64 r0)).setCell ⟨wF37.heap.size, 1, none⟩ (.slice aK1 r1.length cK1)) [.int .i64 r0, .slice aK1 r1.length cK1] (r0, r1)) := ⟨w26.heap.size, w27.heap.size, by omega, JK'.out⟩
      rw [hVF37] at hUF37
      clear hVF37 JK'
      generalize hhwUF37 : ((w27.setCell ⟨wF37.heap.size, 0, none⟩ (.int .i64 r0)).setCell ⟨wF37.heap.size, 1, none⟩ (.slice aK1 r1.length cK1)) = wUF37 at hsF37 hUF37 JUF37 JWF10''''''''''''''''''''''''''''' HYG ⊢
      clear hhwUF37
      generalize hhgUF37 : wF37.heap.size = gUF37 at hsF37 hUF37 JUF37 JWF10''''''''''''''''''''''''''''' HYG ⊢
      clear hhgUF37
      generalize at01 = zat01 at hsF37 hUF37 JUF37 JWF10''''''''''''''''''''''''''''' HYG ⊢
      generalize ct01 = zct01 at hsF37 hUF37 JUF37 JWF10''''''''''''''''''''''''''''' HYG ⊢
      generalize at11 = zat11 at hsF37 hUF37 JUF37 JWF10''''''''''''''''''''''''''''' HYG ⊢
      generalize ct11 = zct11 at hsF37 hUF37 JUF37 JWF10''''''''''''''''''''''''''''' HYG ⊢
      generalize at2 = zat2 at hsF37 hUF37 JUF37 JWF10''''''''''''''''''''''''''''' HYG ⊢
      generalize ct2 = zct2 at hsF37 hUF37 JUF37 JWF10''''''''''''''''''''''''''''' HYG ⊢
      generalize aK1 = zaK1 at hsF37 hUF37 JUF37 JWF10''''''''''''''''''''''''''''' HYG ⊢
      generalize cK1 = zcK1 at hsF37 hUF37 JUF37 JWF10''''''''''''''''''''''''''''' HYG ⊢
      revert HYG
      revert JWF10'''''''''''''''''''''''''''''
      revert JUF37
      revert hUF37
      revert hsF37
      revert zcK1
      revert zaK1
      revert zct2
      revert zat2
      revert zct11
      revert zat11
      revert zct01
      revert zat01
      revert hiUF37
      revert loUF37
      revert gUF37
      revert wUF37
      exact HJ.get
  intro wUF37 gUF37 loUF37 hiUF37 at01 ct01 at11 ct11 at2 ct2 aK1 cK1
  intro hsF37 hUF37 JKF37 JWF37 HYG
  obtain ⟨h1F37, h2F37, h3F37, h4F37, h5F37⟩ := hUF37
  have qa00 := hsF37.cellAt 0 rfl 0 rfl
  have qa01 := hsF37.cellAt 0 rfl 1 rfl
  have qa10 := hsF37.cellAt 1 rfl 0 rfl
  have qa11 := hsF37.cellAt 1 rfl 1 rfl
  have qw0 := hsF37.cellAt 2 rfl 0 rfl
  have qw1 := hsF37.cellAt 2 rfl 1 rfl
  have qx00 := hsF37.cellAt 3 rfl 0 rfl
  have qx01 := hsF37.cellAt 3 rfl 1 rfl
  have qx10 := hsF37.cellAt 4 rfl 0 rfl
  have qx11 := hsF37.cellAt 4 rfl 1 rfl
  have qg0 := hsF37.cellAt 5 rfl 0 rfl
  have qg1 := hsF37.cellAt 5 rfl 1 rfl
  have qh0 := hsF37.cellAt 6 rfl 0 rfl
  have qh1 := hsF37.cellAt 6 rfl 1 rfl
  go_wp2_with fail
  refine (eqInstance_s (r0, r1) _ _ _ _ _ (Iv.rd JKF37.out) (Iv.rd JWF37.out)).mono ?_
  rintro e w28 ⟨rfl, hb28⟩
  have JWF37' := Lib.hid (Iv.mono JWF37.out hb28)
  clear JWF37
  have JKF37' := Lib.hid (Iv.mono JKF37.out hb28)
  clear JKF37
  have hsF37s := hsF37.step hb28
  have hz20 : wUF37.heap.size ≤ w28.heap.size := by simpa using hb28.size
  clear qa00 qa01 qa10 qa11 qw0 qw1 qx00 qx01 qx10 qx11 qg0 qg1 qh0 qh1
  have qa00 := hsF37s.cellAt 0 rfl 0 rfl
  have qa01 := hsF37s.cellAt 0 rfl 1 rfl
  have qa10 := hsF37s.cellAt 1 rfl 0 rfl
  have qa11 := hsF37s.cellAt 1 rfl 1 rfl
  have qw0 := hsF37s.cellAt 2 rfl 0 rfl
  have qw1 := hsF37s.cellAt 2 rfl 1 rfl
  have qx00 := hsF37s.cellAt 3 rfl 0 rfl
  have qx01 := hsF37s.cellAt 3 rfl 1 rfl
  have qx10 := hsF37s.cellAt 4 rfl 0 rfl
  have qx11 := hsF37s.cellAt 4 rfl 1 rfl
  have qg0 := hsF37s.cellAt 5 rfl 0 rfl
  have qg1 := hsF37s.cellAt 5 rfl 1 rfl
  have qh0 := hsF37s.cellAt 6 rfl 0 rfl
  have qh1 := hsF37s.cellAt 6 rfl 1 rfl
  have HYG' := Lib.hid (Own.mono HYG.out hb28)
  clear HYG
  have HYG := HYG'
  clear HYG'
  have HYr29 := Lib.hid (Own.rd HYG.out)
  go_wp2_with fail
  refine (heldInstance_g yG _ _ 1 mG _ HYr29.out HHG.out (by omega) (by omega) (by omega)).mono ?_
  rintro e w29 ⟨rfl, hb29⟩
  have HYG' := Lib.hid (Own.mono HYG.out hb29)
  clear HYG HYr29
  have HYG := HYG'
  clear HYG'
  have JWF37'' := Lib.hid (Iv.mono JWF37'.out hb29)
  clear JWF37'
  have JKF37'' := Lib.hid (Iv.mono JKF37'.out hb29)
  clear JKF37'
  have hsF37ss := hsF37s.step hb29
  have hz21 : w28.heap.size ≤ w29.heap.size := by simpa using hb29.size
  clear qa00 qa01 qa10 qa11 qw0 qw1 qx00 qx01 qx10 qx11 qg0 qg1 qh0 qh1
  have qa00 := hsF37ss.cellAt 0 rfl 0 rfl
  have qa01 := hsF37ss.cellAt 0 rfl 1 rfl
  have qa10 := hsF37ss.cellAt 1 rfl 0 rfl
  have qa11 := hsF37ss.cellAt 1 rfl 1 rfl
  have qw0 := hsF37ss.cellAt 2 rfl 0 rfl
  have qw1 := hsF37ss.cellAt 2 rfl 1 rfl
  have qx00 := hsF37ss.cellAt 3 rfl 0 rfl
  have qx01 := hsF37ss.cellAt 3 rfl 1 rfl
  have qx10 := hsF37ss.cellAt 4 rfl 0 rfl
  have qx11 := hsF37ss.cellAt 4 rfl 1 rfl
  have qg0 := hsF37ss.cellAt 5 rfl 0 rfl
  have qg1 := hsF37ss.cellAt 5 rfl 1 rfl
  have qh0 := hsF37ss.cellAt 6 rfl 0 rfl
  have qh1 := hsF37ss.cellAt 6 rfl 1 rfl
  go_wp2_with fail
  go_ret
  exact ⟨rfl, hsF37ss.bel⟩

end Go.Proofs.Ytjkjfjpajmjglaa
