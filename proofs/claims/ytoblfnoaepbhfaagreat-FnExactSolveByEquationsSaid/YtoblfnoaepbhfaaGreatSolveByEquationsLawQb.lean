import Derived.Test.YtoblfnoaepbhfaaGreatKindsQb
import Derived.Test.YtoblfnoaepbhfaaGreatMarkTQb
import Derived.Test.YtoblfnoaepbhfaaGreatMarkSQb
import Derived.Test.YtoblfnoaepbhfaaGreatSolGQb
set_option linter.unusedSimpArgs false
set_option linter.unusedVariables false
namespace Go.Proofs.YtoblfnoaepbhfaaGreat
open Go.RowKit Go.Shelf
open Rep (Rd Own sz)
structure Cut (P : Prop) : Prop where
  get : P
theorem mp_cut {G P : Prop} (h1 : Cut P → G) (h2 : P) : G := h1 ⟨h2⟩
theorem own_setOut {α : Type} [Rep α] {ps : List Nat} {w : World} {vs : List Value} {x : α} (h : Own ps w vs x) {b o : Nat} (hb : b ∉ ps) (u : Value) : Own ps (w.setCell ⟨b, o, none⟩ u) vs x := Rep.own_frame (fun k hk => Below.heap_setCell _ _ _ _ (fun e => hb (by simp only at e; rw [← e]; exact hk))) h
set_option maxRecDepth 100000 in
set_option maxHeartbeats 8000000 in
theorem FnExactSolveByEquations_c (x0 : Tmpl) (v00 v01 : Value) (x1 : Inst) (v10 v11 : Value) (w : World) (h0 : Rd w [v00, v01] x0) (h1 : Rd w [v10, v11] x1) :
    Calls Tryz.prog 5 #[.agg #[v00, v01], .agg #[v10, v11]] w fun e w' => e = .returned (.bool true) ∧ Below w.heap.size w w' := by
  have hsm : mc_Verdict (solveEF x0 x1).1 ≤ 1000000 := solveEF_small x0 x1
  have cS := fun a00 a01 a10 a11 W h0 h1 => sSolveByEquations_c x0 a00 a01 x1 a10 a11 W h0 h1
  have cI := fun a00 a01 a10 a11 W h0 h1 => SolveByEquations_c x0 a00 a01 x1 a10 a11 W h0 h1
  generalize solveEF x0 x1 = R at cS cI hsm
  obtain ⟨⟨r0, r1, r2, r3, r4⟩, code⟩ := R
  have CS := Lib.hid cS
  have CI := Lib.hid cI
  clear cS cI
  obtain ⟨x00, x01⟩ := x0
  have z00 := rd_cons rfl h0
  obtain ⟨rfl, _⟩ := rd_i1 z00.1
  obtain ⟨a01, c01, rfl, _⟩ := rd_list z00.2
  clear z00
  have H0 := Lib.hid h0
  clear h0
  obtain ⟨x10, x11⟩ := x1
  have z10 := rd_cons rfl h1
  obtain ⟨rfl, _⟩ := rd_i1 z10.1
  obtain ⟨a11, c11, rfl, _⟩ := rd_list z10.2
  clear z10
  have H1 := Lib.hid h1
  clear h1
  have hs := ((St.start w).alloc #[.int .i64 x00, .slice a01 x01.length c01] 24 rfl).alloc #[.int .i64 x10, .slice a11 x11.length c11] 27 (n := w.heap.size + 1) (by simp)
  go_enter Tryz.func5, Tryz.ntmps5
  go_wp2_with fail
  refine (szTemplate_b (x00, x01) _ _ (1048576) _ (Rd.mono H0.out hs.bel) (by omega) (by omega)).mono ?_
  rintro e w1 ⟨rfl, hb1⟩
  have hss := hs.step hb1
  have hz1 : w.heap.size + 2 ≤ w1.heap.size := by simpa using hb1.size
  rcases less_cases (1048576) (cost_Template (x00, x01)) with ⟨e1, g0⟩ | ⟨e1, g0⟩
  · rw [e1]
    clear e1
    go_wp2_with fail
    go_ret
    exact ⟨rfl, hss.bel⟩
  rw [e1]
  clear e1
  have qa00 := hss.cellAt 0 rfl 0 rfl
  have qa01 := hss.cellAt 0 rfl 1 rfl
  have qa10 := hss.cellAt 1 rfl 0 rfl
  have qa11 := hss.cellAt 1 rfl 1 rfl
  go_wp2_with fail
  refine (szInstance_b (x10, x11) _ _ (1048576 - (cost_Template (x00, x01))) _ (Rd.mono H1.out hss.bel) (by omega) (by omega)).mono ?_
  rintro e w2 ⟨rfl, hb2⟩
  have hsss := hss.step hb2
  have hz2 : w1.heap.size ≤ w2.heap.size := by simpa using hb2.size
  rcases less_cases (1048576 - (cost_Template (x00, x01))) (cost_Instance (x10, x11)) with ⟨e1, g1⟩ | ⟨e1, g1⟩
  · rw [e1]
    clear e1
    go_wp2_with fail
    go_ret
    exact ⟨rfl, hsss.bel⟩
  rw [e1]
  clear e1
  clear qa00 qa01 qa10 qa11
  have qa00 := hsss.cellAt 0 rfl 0 rfl
  have qa01 := hsss.cellAt 0 rfl 1 rfl
  have qa10 := hsss.cellAt 1 rfl 0 rfl
  have qa11 := hsss.cellAt 1 rfl 1 rfl
  have gc0 : cost_Template (x00, x01) ≤ 1048576 := by omega
  have gc1 : cost_Instance (x10, x11) ≤ 1048576 := by omega
  go_upto_region 8 with fail
  refine wp_region_noPanic (wp_region_tree4 (fun w' => w'.cell? ⟨w.heap.size, 0, none⟩ = some (.int .i64 x00) ∧ w'.cell? ⟨w.heap.size, 1, none⟩ = some (.slice a01 x01.length c01) ∧ w'.cell? ⟨w.heap.size + 1, 0, none⟩ = some (.int .i64 x10) ∧ w'.cell? ⟨w.heap.size + 1, 1, none⟩ = some (.slice a11 x11.length c11)) (.float 0 (.float 2 (.fork2 1 (.fork2 3 (.fork2 4 (.float 5 (.float 6 (.float 7 (.hard 8 (.hard 9 (.float 10 .nil)))))) 8 (.hard 4 (.float 5 (.float 6 (.float 7 (.hard 9 (.float 10 .nil))))))) 8 (.hard 3 (.hard 4 (.float 5 (.float 6 (.float 7 (.hard 9 (.float 10 .nil)))))))) 8 (.hard 1 (.hard 3 (.hard 4 (.float 5 (.float 6 (.float 7 (.hard 9 (.float 10 .nil))))))))))) (by kernel_rfl) (by kernel_rfl) (by kernel_rfl) rfl ?_ (fun _ _ _ _ _ h => h) ?_)
  · exact ⟨(hsss.drew).cellAt 0 rfl 0 rfl, (hsss.drew).cellAt 0 rfl 1 rfl, (hsss.drew).cellAt 1 rfl 0 rfl, (hsss.drew).cellAt 1 rfl 1 rfl⟩
  have hsssd := hsss.drew
  clear qa00 qa01 qa10 qa11
  have hzF8 : w2.heap.size ≤ (w2.drew).heap.size := by simp
  generalize hgenF8 : w2.drew = wF8 at *
  have HGF8 := Lib.hid hgenF8
  clear hgenF8
  (repeat (first | (apply t4_skip rfl (by rfl); try simp only [Act.put, sI, sZ, sS]) | (apply t4_float rfl (by rfl); (· (intro w' hS; go_simp <;> with_reducible rfl)); (try simp only [Act.put, sI, sZ, sS]))))
  apply mp_cut
  · intro HJ
    refine t4_fork2 ?_ ?_
    · refine t4_hard rfl (by rfl) (fun K hK => ?_)
      go_wp2_with (go_at_call 12; refine (toTemplate_b (x00, x01) _ _ _ (Rd.mono H0.out hsssd.bel) gc0).mono ?_; rintro e w3 ⟨us00, us01, rfl, frs0, hb3⟩)
      have hQ0 := hsssd.step hb3
      have hz3 : wF8.heap.size ≤ w3.heap.size := by simpa using hb3.size
      have Js0 := Lib.hid (Fresh.iv frs0)
      have zs00 := rd_cons rfl (Iv.rd Js0.out)
      obtain ⟨rfl, _⟩ := rd_i1 zs00.1
      obtain ⟨as01, cs01, rfl, _⟩ := rd_list zs00.2
      clear zs00
      clear frs0
      refine ⟨⟨hQ0.cellAt 0 rfl 0 rfl, hQ0.cellAt 0 rfl 1 rfl, hQ0.cellAt 1 rfl 0 rfl, hQ0.cellAt 1 rfl 1 rfl⟩, ?_⟩
      (repeat (first | (apply t4_skip rfl (by rfl); try simp only [Act.put, sI, sZ, sS]) | (apply t4_float rfl (by rfl); (· (intro w' hS; go_simp <;> with_reducible rfl)); (try simp only [Act.put, sI, sZ, sS]))))
      refine t4_fork2 ?_ ?_
      · refine t4_hard rfl (by rfl) (fun K hK => ?_)
        go_wp2_with (go_at_call 13; refine (toInstance_b (x10, x11) _ _ _ (Rd.mono H1.out hQ0.bel) gc1).mono ?_; rintro e w4 ⟨us10, us11, rfl, frs1, hb4⟩)
        have Js0' := Lib.hid (Iv.mono Js0.out hb4)
        try clear Js0
        have hQ1 := hQ0.step hb4
        have hz4 : w3.heap.size ≤ w4.heap.size := by simpa using hb4.size
        have Js1 := Lib.hid (Fresh.iv frs1)
        have zs10 := rd_cons rfl (Iv.rd Js1.out)
        obtain ⟨rfl, _⟩ := rd_i1 zs10.1
        obtain ⟨as11, cs11, rfl, _⟩ := rd_list zs10.2
        clear zs10
        clear frs1
        refine ⟨⟨hQ1.cellAt 0 rfl 0 rfl, hQ1.cellAt 0 rfl 1 rfl, hQ1.cellAt 1 rfl 0 rfl, hQ1.cellAt 1 rfl 1 rfl⟩, ?_⟩
        (repeat (first | (apply t4_skip rfl (by rfl); try simp only [Act.put, sI, sZ, sS]) | (apply t4_float rfl (by rfl); (· (intro w' hS; go_simp <;> with_reducible rfl)); (try simp only [Act.put, sI, sZ, sS]))))
        refine t4_fork2 ?_ ?_
        · refine t4_hard rfl (by rfl) (fun K hK => ?_)
          go_wp2_with (go_at_call 30; refine (CS.out _ _ _ _ _ (Iv.rd Js0'.out) (Iv.rd Js1.out)).mono ?_; rintro e w5 ⟨uW0, uW1, uW2, uW3, uW4, rfl, frW, hb5⟩)
          have Js0'' := Lib.hid (Iv.mono Js0'.out hb5)
          try clear Js0'
          have Js1' := Lib.hid (Iv.mono Js1.out hb5)
          try clear Js1
          have hQ2 := hQ1.step hb5
          have hz5 : w4.heap.size ≤ w5.heap.size := by simpa using hb5.size
          have JW := Lib.hid (Fresh.iv frW)
          have zW0 := rd_cons rfl (Iv.rd JW.out)
          obtain ⟨rfl, _⟩ := rd_i1 zW0.1
          have zW1 := rd_cons rfl zW0.2
          obtain ⟨aW1, cW1, rfl, _⟩ := rd_list zW1.1
          have zW2 := rd_cons rfl zW1.2
          obtain ⟨aW2, cW2, rfl, _⟩ := rd_list zW2.1
          have zW3 := rd_cons rfl zW2.2
          obtain ⟨aW3, cW3, rfl, _⟩ := rd_list zW3.1
          obtain ⟨aW4, cW4, rfl, _⟩ := rd_list zW3.2
          clear zW0 zW1 zW2 zW3
          clear frW
          try clear Js0''
          try clear Js1'
          refine ⟨⟨hQ2.cellAt 0 rfl 0 rfl, hQ2.cellAt 0 rfl 1 rfl, hQ2.cellAt 1 rfl 0 rfl, hQ2.cellAt 1 rfl 1 rfl⟩, ?_⟩
          (repeat (first | (apply t4_skip rfl (by rfl); try simp only [Act.put, sI, sZ, sS]) | (apply t4_float rfl (by rfl); (· (intro w' hS; go_simp <;> with_reducible rfl)); (try simp only [Act.put, sI, sZ, sS]))))
          refine t4_hard rfl (by rfl) (fun K hK => ?_)
          go_wp2_with fail
          have hQ3 := hQ2.alloc #[.int .i64 0, .slice none 0 0, .slice none 0 0, .slice none 0 0, .slice none 0 0] 37 rfl
          have JW' := Lib.hid (Iv.mono JW.out (belowA _ (.cells #[.int .i64 0, .slice none 0 0, .slice none 0 0, .slice none 0 0, .slice none 0 0] 37)))
          try clear JW
          have hzF8A1 : w5.heap.size + 1 ≤ (w5.alloc (.cells #[.int .i64 0, .slice none 0 0, .slice none 0 0, .slice none 0 0, .slice none 0 0] 37)).heap.size := by simp
          generalize hgenF8A1 : w5.alloc (.cells #[.int .i64 0, .slice none 0 0, .slice none 0 0, .slice none 0 0, .slice none 0 0] 37) = wF8A1 at *
          have HGF8A1 := Lib.hid hgenF8A1
          clear hgenF8A1
          refine ⟨⟨hQ3.cellAt 0 rfl 0 rfl, hQ3.cellAt 0 rfl 1 rfl, hQ3.cellAt 1 rfl 0 rfl, hQ3.cellAt 1 rfl 1 rfl⟩, ?_⟩
          (repeat (first | (apply t4_skip rfl (by rfl); try simp only [Act.put, sI, sZ, sS]) | (apply t4_float rfl (by rfl); (· (intro w' hS; go_simp <;> with_reducible rfl)); (try simp only [Act.put, sI, sZ, sS]))))
          refine t4_hard rfl (by rfl) (fun K hK => ?_)
          have fF80 := hQ3.freeAt 2 rfl 0
          have cF80 := hQ3.cellAt 2 rfl 0 rfl
          have fF81 := hQ3.freeAt 2 rfl 1
          have cF81 := hQ3.cellAt 2 rfl 1 rfl
          have fF82 := hQ3.freeAt 2 rfl 2
          have cF82 := hQ3.cellAt 2 rfl 2 rfl
          have fF83 := hQ3.freeAt 2 rfl 3
          have cF83 := hQ3.cellAt 2 rfl 3 rfl
          have fF84 := hQ3.freeAt 2 rfl 4
          have cF84 := hQ3.cellAt 2 rfl 4 rfl
          go_wp2_with fail
          have hQ42 := (((((hQ3.set (p := [_, _]) (by simp <;> omega) 0 (.int .i64 r0)).set (p := [_, _]) (by simp <;> omega) 1 (.slice aW1 r1.length cW1)).set (p := [_, _]) (by simp <;> omega) 2 (.slice aW2 r2.length cW2)).set (p := [_, _]) (by simp <;> omega) 3 (.slice aW3 r3.length cW3)).set (p := [_, _]) (by simp <;> omega) 4 (.slice aW4 r4.length cW4))
          have JW'' := Lib.hid (Iv.setOut (Iv.setOut (Iv.setOut (Iv.setOut (Iv.setOut JW'.out (a := ⟨w5.heap.size, 0, none⟩) (by first | (left; simp only; first | done | omega) | (right; simp only; first | done | omega)) (.int .i64 r0)) (a := ⟨w5.heap.size, 1, none⟩) (by first | (left; simp only; first | done | omega) | (right; simp only; first | done | omega)) (.slice aW1 r1.length cW1)) (a := ⟨w5.heap.size, 2, none⟩) (by first | (left; simp only; first | done | omega) | (right; simp only; first | done | omega)) (.slice aW2 r2.length cW2)) (a := ⟨w5.heap.size, 3, none⟩) (by first | (left; simp only; first | done | omega) | (right; simp only; first | done | omega)) (.slice aW3 r3.length cW3)) (a := ⟨w5.heap.size, 4, none⟩) (by first | (left; simp only; first | done | omega) | (right; simp only; first | done | omega)) (.slice aW4 r4.length cW4))
          try clear JW'
          clear fF80 cF80 fF81 cF81 fF82 cF82 fF83 cF83 fF84 cF84
          refine ⟨?_, ?_⟩
          · first | (have u9 : wF8A1.cell? ⟨w.heap.size, 0, none⟩ = some (.int .i64 x00) ∧ wF8A1.cell? ⟨w.heap.size, 1, none⟩ = some (.slice a01 x01.length c01) ∧ wF8A1.cell? ⟨w.heap.size + 1, 0, none⟩ = some (.int .i64 x10) ∧ wF8A1.cell? ⟨w.heap.size + 1, 1, none⟩ = some (.slice a11 x11.length c11) := ⟨hQ3.cellAt 0 rfl 0 rfl, hQ3.cellAt 0 rfl 1 rfl, hQ3.cellAt 1 rfl 0 rfl, hQ3.cellAt 1 rfl 1 rfl⟩; with_reducible exact u9) | (have u9 : (((((wF8A1.setCell ⟨w5.heap.size, 0, none⟩ (.int .i64 r0)).setCell ⟨w5.heap.size, 1, none⟩ (.slice aW1 r1.length cW1)).setCell ⟨w5.heap.size, 2, none⟩ (.slice aW2 r2.length cW2)).setCell ⟨w5.heap.size, 3, none⟩ (.slice aW3 r3.length cW3)).setCell ⟨w5.heap.size, 4, none⟩ (.slice aW4 r4.length cW4)).cell? ⟨w.heap.size, 0, none⟩ = some (.int .i64 x00) ∧ (((((wF8A1.setCell ⟨w5.heap.size, 0, none⟩ (.int .i64 r0)).setCell ⟨w5.heap.size, 1, none⟩ (.slice aW1 r1.length cW1)).setCell ⟨w5.heap.size, 2, none⟩ (.slice aW2 r2.length cW2)).setCell ⟨w5.heap.size, 3, none⟩ (.slice aW3 r3.length cW3)).setCell ⟨w5.heap.size, 4, none⟩ (.slice aW4 r4.length cW4)).cell? ⟨w.heap.size, 1, none⟩ = some (.slice a01 x01.length c01) ∧ (((((wF8A1.setCell ⟨w5.heap.size, 0, none⟩ (.int .i64 r0)).setCell ⟨w5.heap.size, 1, none⟩ (.slice aW1 r1.length cW1)).setCell ⟨w5.heap.size, 2, none⟩ (.slice aW2 r2.length cW2)).setCell ⟨w5.heap.size, 3, none⟩ (.slice aW3 r3.length cW3)).setCell ⟨w5.heap.size, 4, none⟩ (.slice aW4 r4.length cW4)).cell? ⟨w.heap.size + 1, 0, none⟩ = some (.int .i64 x10) ∧ (((((wF8A1.setCell ⟨w5.heap.size, 0, none⟩ (.int .i64 r0)).setCell ⟨w5.heap.size, 1, none⟩ (.slice aW1 r1.length cW1)).setCell ⟨w5.heap.size, 2, none⟩ (.slice aW2 r2.length cW2)).setCell ⟨w5.heap.size, 3, none⟩ (.slice aW3 r3.length cW3)).setCell ⟨w5.heap.size, 4, none⟩ (.slice aW4 r4.length cW4)).cell? ⟨w.heap.size + 1, 1, none⟩ = some (.slice a11 x11.length c11) := ⟨hQ42.cellAt 0 rfl 0 rfl, hQ42.cellAt 0 rfl 1 rfl, hQ42.cellAt 1 rfl 0 rfl, hQ42.cellAt 1 rfl 1 rfl⟩; with_reducible exact u9) | exact ⟨hQ42.cellAt 0 rfl 0 rfl, hQ42.cellAt 0 rfl 1 rfl, hQ42.cellAt 1 rfl 0 rfl, hQ42.cellAt 1 rfl 1 rfl⟩ | exact ⟨hQ3.cellAt 0 rfl 0 rfl, hQ3.cellAt 0 rfl 1 rfl, hQ3.cellAt 1 rfl 0 rfl, hQ3.cellAt 1 rfl 1 rfl⟩
          (repeat (first | (apply t4_skip rfl (by rfl); try simp only [Act.put, sI, sZ, sS]) | (apply t4_float rfl (by rfl); (· (intro w' hS; go_simp <;> with_reducible rfl)); (try simp only [Act.put, sI, sZ, sS]))))
          refine t4_nil (NoPanic.normal ?_)
          have hsF8 : St w (((((wF8A1.setCell ⟨w5.heap.size, 0, none⟩ (.int .i64 r0)).setCell ⟨w5.heap.size, 1, none⟩ (.slice aW1 r1.length cW1)).setCell ⟨w5.heap.size, 2, none⟩ (.slice aW2 r2.length cW2)).setCell ⟨w5.heap.size, 3, none⟩ (.slice aW3 r3.length cW3)).setCell ⟨w5.heap.size, 4, none⟩ (.slice aW4 r4.length cW4)).heap.size (((((wF8A1.setCell ⟨w5.heap.size, 0, none⟩ (.int .i64 r0)).setCell ⟨w5.heap.size, 1, none⟩ (.slice aW1 r1.length cW1)).setCell ⟨w5.heap.size, 2, none⟩ (.slice aW2 r2.length cW2)).setCell ⟨w5.heap.size, 3, none⟩ (.slice aW3 r3.length cW3)).setCell ⟨w5.heap.size, 4, none⟩ (.slice aW4 r4.length cW4)) [(w.heap.size, #[.int .i64 x00, .slice a01 x01.length c01], 24), (w.heap.size + 1, #[.int .i64 x10, .slice a11 x11.length c11], 27), (w5.heap.size, #[.int .i64 r0, .slice aW1 r1.length cW1, .slice aW2 r2.length cW2, .slice aW3 r3.length cW3, .slice aW4 r4.length cW4], 37)] := hQ42.up hQ42.hi (Nat.le_refl _)
          have hVF8 : wF8A1.heap.size = (((((wF8A1.setCell ⟨w5.heap.size, 0, none⟩ (.int .i64 r0)).setCell ⟨w5.heap.size, 1, none⟩ (.slice aW1 r1.length cW1)).setCell ⟨w5.heap.size, 2, none⟩ (.slice aW2 r2.length cW2)).setCell ⟨w5.heap.size, 3, none⟩ (.slice aW3 r3.length cW3)).setCell ⟨w5.heap.size, 4, none⟩ (.slice aW4 r4.length cW4)).heap.size := by simp [World.setCell]
          obtain ⟨loUF8, hiUF8, hUF8, JUF8⟩ : ∃ lo hi : Nat, (w2.heap.size ≤ lo ∧ hi ≤ wF8A1.heap.size ∧ (w5.heap.size < lo ∨ hi ≤ w5.heap.size) ∧ w2.heap.size ≤ w5.heap.size ∧ w5.heap.size < wF8A1.heap.size) ∧ Hid (Iv lo hi (((((wF8A1.setCell ⟨w5.heap.size, 0, none⟩ (.int .i64 r0)).setCell ⟨w5.heap.size, 1, none⟩ (.slice aW1 r1.length cW1)).setCell ⟨w5.heap.size, 2, none⟩ (.slice aW2 r2.length cW2)).setCell ⟨w5.heap.size, 3, none⟩ (.slice aW3 r3.length cW3)).setCell ⟨w5.heap.size, 4, none⟩ (.slice aW4 r4.length cW4)) [.int .i64 r0, .slice aW1 r1.length cW1, .slice aW2 r2.length cW2, .slice aW3 r3.length cW3, .slice aW4 r4.length cW4] (r0, r1, r2, r3, r4)) := ⟨w4.heap.size, w5.heap.size, by omega, JW''.out⟩
          rw [hVF8] at hUF8
          clear hVF8 JW''
          generalize hhwUF8 : (((((wF8A1.setCell ⟨w5.heap.size, 0, none⟩ (.int .i64 r0)).setCell ⟨w5.heap.size, 1, none⟩ (.slice aW1 r1.length cW1)).setCell ⟨w5.heap.size, 2, none⟩ (.slice aW2 r2.length cW2)).setCell ⟨w5.heap.size, 3, none⟩ (.slice aW3 r3.length cW3)).setCell ⟨w5.heap.size, 4, none⟩ (.slice aW4 r4.length cW4)) = wUF8 at hsF8 hUF8 JUF8 ⊢
          clear hhwUF8
          generalize hhgUF8 : w5.heap.size = gUF8 at hsF8 hUF8 JUF8 ⊢
          clear hhgUF8
          generalize as01 = zas01 at hsF8 hUF8 JUF8 ⊢
          generalize cs01 = zcs01 at hsF8 hUF8 JUF8 ⊢
          generalize as11 = zas11 at hsF8 hUF8 JUF8 ⊢
          generalize cs11 = zcs11 at hsF8 hUF8 JUF8 ⊢
          generalize aW1 = zaW1 at hsF8 hUF8 JUF8 ⊢
          generalize cW1 = zcW1 at hsF8 hUF8 JUF8 ⊢
          generalize aW2 = zaW2 at hsF8 hUF8 JUF8 ⊢
          generalize cW2 = zcW2 at hsF8 hUF8 JUF8 ⊢
          generalize aW3 = zaW3 at hsF8 hUF8 JUF8 ⊢
          generalize cW3 = zcW3 at hsF8 hUF8 JUF8 ⊢
          generalize aW4 = zaW4 at hsF8 hUF8 JUF8 ⊢
          generalize cW4 = zcW4 at hsF8 hUF8 JUF8 ⊢
          revert JUF8
          revert hUF8
          revert hsF8
          revert zcW4
          revert zaW4
          revert zcW3
          revert zaW3
          revert zcW2
          revert zaW2
          revert zcW1
          revert zaW1
          revert zcs11
          revert zas11
          revert zcs01
          revert zas01
          revert hiUF8
          revert loUF8
          revert gUF8
          revert wUF8
          exact HJ.get
        · refine t4_hard rfl (by rfl) (fun K hK => ?_)
          go_wp2_with fail
          have hQ4 := hQ1.alloc #[.int .i64 0, .slice none 0 0, .slice none 0 0, .slice none 0 0, .slice none 0 0] 37 rfl
          have Js0'' := Lib.hid (Iv.mono Js0'.out (belowA _ (.cells #[.int .i64 0, .slice none 0 0, .slice none 0 0, .slice none 0 0, .slice none 0 0] 37)))
          try clear Js0'
          have Js1' := Lib.hid (Iv.mono Js1.out (belowA _ (.cells #[.int .i64 0, .slice none 0 0, .slice none 0 0, .slice none 0 0, .slice none 0 0] 37)))
          try clear Js1
          have hzF8A2 : w4.heap.size + 1 ≤ (w4.alloc (.cells #[.int .i64 0, .slice none 0 0, .slice none 0 0, .slice none 0 0, .slice none 0 0] 37)).heap.size := by simp
          generalize hgenF8A2 : w4.alloc (.cells #[.int .i64 0, .slice none 0 0, .slice none 0 0, .slice none 0 0, .slice none 0 0] 37) = wF8A2 at *
          have HGF8A2 := Lib.hid hgenF8A2
          clear hgenF8A2
          refine ⟨⟨hQ4.cellAt 0 rfl 0 rfl, hQ4.cellAt 0 rfl 1 rfl, hQ4.cellAt 1 rfl 0 rfl, hQ4.cellAt 1 rfl 1 rfl⟩, ?_⟩
          (repeat (first | (apply t4_skip rfl (by rfl); try simp only [Act.put, sI, sZ, sS]) | (apply t4_float rfl (by rfl); (· (intro w' hS; go_simp <;> with_reducible rfl)); (try simp only [Act.put, sI, sZ, sS]))))
          refine t4_hard rfl (by rfl) (fun K hK => ?_)
          go_wp2_with (go_at_call 30; refine (CS.out _ _ _ _ _ (Iv.rd Js0''.out) (Iv.rd Js1'.out)).mono ?_; rintro e w5 ⟨uW0, uW1, uW2, uW3, uW4, rfl, frW, hb5⟩)
          have Js0_p3 := Lib.hid (Iv.mono Js0''.out hb5)
          try clear Js0''
          have Js1'' := Lib.hid (Iv.mono Js1'.out hb5)
          try clear Js1'
          have hQ5 := hQ4.step hb5
          have hz5 : wF8A2.heap.size ≤ w5.heap.size := by simpa using hb5.size
          have JW := Lib.hid (Fresh.iv frW)
          have zW0 := rd_cons rfl (Iv.rd JW.out)
          obtain ⟨rfl, _⟩ := rd_i1 zW0.1
          have zW1 := rd_cons rfl zW0.2
          obtain ⟨aW1, cW1, rfl, _⟩ := rd_list zW1.1
          have zW2 := rd_cons rfl zW1.2
          obtain ⟨aW2, cW2, rfl, _⟩ := rd_list zW2.1
          have zW3 := rd_cons rfl zW2.2
          obtain ⟨aW3, cW3, rfl, _⟩ := rd_list zW3.1
          obtain ⟨aW4, cW4, rfl, _⟩ := rd_list zW3.2
          clear zW0 zW1 zW2 zW3
          clear frW
          try clear Js0_p3
          try clear Js1''
          refine ⟨⟨hQ5.cellAt 0 rfl 0 rfl, hQ5.cellAt 0 rfl 1 rfl, hQ5.cellAt 1 rfl 0 rfl, hQ5.cellAt 1 rfl 1 rfl⟩, ?_⟩
          (repeat (first | (apply t4_skip rfl (by rfl); try simp only [Act.put, sI, sZ, sS]) | (apply t4_float rfl (by rfl); (· (intro w' hS; go_simp <;> with_reducible rfl)); (try simp only [Act.put, sI, sZ, sS]))))
          refine t4_hard rfl (by rfl) (fun K hK => ?_)
          have fF80 := hQ5.freeAt 2 rfl 0
          have cF80 := hQ5.cellAt 2 rfl 0 rfl
          have fF81 := hQ5.freeAt 2 rfl 1
          have cF81 := hQ5.cellAt 2 rfl 1 rfl
          have fF82 := hQ5.freeAt 2 rfl 2
          have cF82 := hQ5.cellAt 2 rfl 2 rfl
          have fF83 := hQ5.freeAt 2 rfl 3
          have cF83 := hQ5.cellAt 2 rfl 3 rfl
          have fF84 := hQ5.freeAt 2 rfl 4
          have cF84 := hQ5.cellAt 2 rfl 4 rfl
          go_wp2_with fail
          have hQ43 := (((((hQ5.set (p := [_, _]) (by simp <;> omega) 0 (.int .i64 r0)).set (p := [_, _]) (by simp <;> omega) 1 (.slice aW1 r1.length cW1)).set (p := [_, _]) (by simp <;> omega) 2 (.slice aW2 r2.length cW2)).set (p := [_, _]) (by simp <;> omega) 3 (.slice aW3 r3.length cW3)).set (p := [_, _]) (by simp <;> omega) 4 (.slice aW4 r4.length cW4))
          have JW' := Lib.hid (Iv.setOut (Iv.setOut (Iv.setOut (Iv.setOut (Iv.setOut JW.out (a := ⟨w4.heap.size, 0, none⟩) (by first | (left; simp only; first | done | omega) | (right; simp only; first | done | omega)) (.int .i64 r0)) (a := ⟨w4.heap.size, 1, none⟩) (by first | (left; simp only; first | done | omega) | (right; simp only; first | done | omega)) (.slice aW1 r1.length cW1)) (a := ⟨w4.heap.size, 2, none⟩) (by first | (left; simp only; first | done | omega) | (right; simp only; first | done | omega)) (.slice aW2 r2.length cW2)) (a := ⟨w4.heap.size, 3, none⟩) (by first | (left; simp only; first | done | omega) | (right; simp only; first | done | omega)) (.slice aW3 r3.length cW3)) (a := ⟨w4.heap.size, 4, none⟩) (by first | (left; simp only; first | done | omega) | (right; simp only; first | done | omega)) (.slice aW4 r4.length cW4))
          try clear JW
          clear fF80 cF80 fF81 cF81 fF82 cF82 fF83 cF83 fF84 cF84
          refine ⟨?_, ?_⟩
          · first | (have u9 : w5.cell? ⟨w.heap.size, 0, none⟩ = some (.int .i64 x00) ∧ w5.cell? ⟨w.heap.size, 1, none⟩ = some (.slice a01 x01.length c01) ∧ w5.cell? ⟨w.heap.size + 1, 0, none⟩ = some (.int .i64 x10) ∧ w5.cell? ⟨w.heap.size + 1, 1, none⟩ = some (.slice a11 x11.length c11) := ⟨hQ5.cellAt 0 rfl 0 rfl, hQ5.cellAt 0 rfl 1 rfl, hQ5.cellAt 1 rfl 0 rfl, hQ5.cellAt 1 rfl 1 rfl⟩; with_reducible exact u9) | (have u9 : (((((w5.setCell ⟨w4.heap.size, 0, none⟩ (.int .i64 r0)).setCell ⟨w4.heap.size, 1, none⟩ (.slice aW1 r1.length cW1)).setCell ⟨w4.heap.size, 2, none⟩ (.slice aW2 r2.length cW2)).setCell ⟨w4.heap.size, 3, none⟩ (.slice aW3 r3.length cW3)).setCell ⟨w4.heap.size, 4, none⟩ (.slice aW4 r4.length cW4)).cell? ⟨w.heap.size, 0, none⟩ = some (.int .i64 x00) ∧ (((((w5.setCell ⟨w4.heap.size, 0, none⟩ (.int .i64 r0)).setCell ⟨w4.heap.size, 1, none⟩ (.slice aW1 r1.length cW1)).setCell ⟨w4.heap.size, 2, none⟩ (.slice aW2 r2.length cW2)).setCell ⟨w4.heap.size, 3, none⟩ (.slice aW3 r3.length cW3)).setCell ⟨w4.heap.size, 4, none⟩ (.slice aW4 r4.length cW4)).cell? ⟨w.heap.size, 1, none⟩ = some (.slice a01 x01.length c01) ∧ (((((w5.setCell ⟨w4.heap.size, 0, none⟩ (.int .i64 r0)).setCell ⟨w4.heap.size, 1, none⟩ (.slice aW1 r1.length cW1)).setCell ⟨w4.heap.size, 2, none⟩ (.slice aW2 r2.length cW2)).setCell ⟨w4.heap.size, 3, none⟩ (.slice aW3 r3.length cW3)).setCell ⟨w4.heap.size, 4, none⟩ (.slice aW4 r4.length cW4)).cell? ⟨w.heap.size + 1, 0, none⟩ = some (.int .i64 x10) ∧ (((((w5.setCell ⟨w4.heap.size, 0, none⟩ (.int .i64 r0)).setCell ⟨w4.heap.size, 1, none⟩ (.slice aW1 r1.length cW1)).setCell ⟨w4.heap.size, 2, none⟩ (.slice aW2 r2.length cW2)).setCell ⟨w4.heap.size, 3, none⟩ (.slice aW3 r3.length cW3)).setCell ⟨w4.heap.size, 4, none⟩ (.slice aW4 r4.length cW4)).cell? ⟨w.heap.size + 1, 1, none⟩ = some (.slice a11 x11.length c11) := ⟨hQ43.cellAt 0 rfl 0 rfl, hQ43.cellAt 0 rfl 1 rfl, hQ43.cellAt 1 rfl 0 rfl, hQ43.cellAt 1 rfl 1 rfl⟩; with_reducible exact u9) | exact ⟨hQ43.cellAt 0 rfl 0 rfl, hQ43.cellAt 0 rfl 1 rfl, hQ43.cellAt 1 rfl 0 rfl, hQ43.cellAt 1 rfl 1 rfl⟩ | exact ⟨hQ5.cellAt 0 rfl 0 rfl, hQ5.cellAt 0 rfl 1 rfl, hQ5.cellAt 1 rfl 0 rfl, hQ5.cellAt 1 rfl 1 rfl⟩
          (repeat (first | (apply t4_skip rfl (by rfl); try simp only [Act.put, sI, sZ, sS]) | (apply t4_float rfl (by rfl); (· (intro w' hS; go_simp <;> with_reducible rfl)); (try simp only [Act.put, sI, sZ, sS]))))
          refine t4_nil (NoPanic.normal ?_)
          have hsF8 : St w (((((w5.setCell ⟨w4.heap.size, 0, none⟩ (.int .i64 r0)).setCell ⟨w4.heap.size, 1, none⟩ (.slice aW1 r1.length cW1)).setCell ⟨w4.heap.size, 2, none⟩ (.slice aW2 r2.length cW2)).setCell ⟨w4.heap.size, 3, none⟩ (.slice aW3 r3.length cW3)).setCell ⟨w4.heap.size, 4, none⟩ (.slice aW4 r4.length cW4)).heap.size (((((w5.setCell ⟨w4.heap.size, 0, none⟩ (.int .i64 r0)).setCell ⟨w4.heap.size, 1, none⟩ (.slice aW1 r1.length cW1)).setCell ⟨w4.heap.size, 2, none⟩ (.slice aW2 r2.length cW2)).setCell ⟨w4.heap.size, 3, none⟩ (.slice aW3 r3.length cW3)).setCell ⟨w4.heap.size, 4, none⟩ (.slice aW4 r4.length cW4)) [(w.heap.size, #[.int .i64 x00, .slice a01 x01.length c01], 24), (w.heap.size + 1, #[.int .i64 x10, .slice a11 x11.length c11], 27), (w4.heap.size, #[.int .i64 r0, .slice aW1 r1.length cW1, .slice aW2 r2.length cW2, .slice aW3 r3.length cW3, .slice aW4 r4.length cW4], 37)] := hQ43.up hQ43.hi (Nat.le_refl _)
          have hVF8 : w5.heap.size = (((((w5.setCell ⟨w4.heap.size, 0, none⟩ (.int .i64 r0)).setCell ⟨w4.heap.size, 1, none⟩ (.slice aW1 r1.length cW1)).setCell ⟨w4.heap.size, 2, none⟩ (.slice aW2 r2.length cW2)).setCell ⟨w4.heap.size, 3, none⟩ (.slice aW3 r3.length cW3)).setCell ⟨w4.heap.size, 4, none⟩ (.slice aW4 r4.length cW4)).heap.size := by simp [World.setCell]
          obtain ⟨loUF8, hiUF8, hUF8, JUF8⟩ : ∃ lo hi : Nat, (w2.heap.size ≤ lo ∧ hi ≤ w5.heap.size ∧ (w4.heap.size < lo ∨ hi ≤ w4.heap.size) ∧ w2.heap.size ≤ w4.heap.size ∧ w4.heap.size < w5.heap.size) ∧ Hid (Iv lo hi (((((w5.setCell ⟨w4.heap.size, 0, none⟩ (.int .i64 r0)).setCell ⟨w4.heap.size, 1, none⟩ (.slice aW1 r1.length cW1)).setCell ⟨w4.heap.size, 2, none⟩ (.slice aW2 r2.length cW2)).setCell ⟨w4.heap.size, 3, none⟩ (.slice aW3 r3.length cW3)).setCell ⟨w4.heap.size, 4, none⟩ (.slice aW4 r4.length cW4)) [.int .i64 r0, .slice aW1 r1.length cW1, .slice aW2 r2.length cW2, .slice aW3 r3.length cW3, .slice aW4 r4.length cW4] (r0, r1, r2, r3, r4)) := ⟨wF8A2.heap.size, w5.heap.size, by omega, JW'.out⟩
          rw [hVF8] at hUF8
          clear hVF8 JW'
          generalize hhwUF8 : (((((w5.setCell ⟨w4.heap.size, 0, none⟩ (.int .i64 r0)).setCell ⟨w4.heap.size, 1, none⟩ (.slice aW1 r1.length cW1)).setCell ⟨w4.heap.size, 2, none⟩ (.slice aW2 r2.length cW2)).setCell ⟨w4.heap.size, 3, none⟩ (.slice aW3 r3.length cW3)).setCell ⟨w4.heap.size, 4, none⟩ (.slice aW4 r4.length cW4)) = wUF8 at hsF8 hUF8 JUF8 ⊢
          clear hhwUF8
          generalize hhgUF8 : w4.heap.size = gUF8 at hsF8 hUF8 JUF8 ⊢
          clear hhgUF8
          generalize as01 = zas01 at hsF8 hUF8 JUF8 ⊢
          generalize cs01 = zcs01 at hsF8 hUF8 JUF8 ⊢
          generalize as11 = zas11 at hsF8 hUF8 JUF8 ⊢
          generalize cs11 = zcs11 at hsF8 hUF8 JUF8 ⊢
          generalize aW1 = zaW1 at hsF8 hUF8 JUF8 ⊢
          generalize cW1 = zcW1 at hsF8 hUF8 JUF8 ⊢
          generalize aW2 = zaW2 at hsF8 hUF8 JUF8 ⊢
          generalize cW2 = zcW2 at hsF8 hUF8 JUF8 ⊢
          generalize aW3 = zaW3 at hsF8 hUF8 JUF8 ⊢
          generalize cW3 = zcW3 at hsF8 hUF8 JUF8 ⊢
          generalize aW4 = zaW4 at hsF8 hUF8 JUF8 ⊢
          generalize cW4 = zcW4 at hsF8 hUF8 JUF8 ⊢
          revert JUF8
          revert hUF8
          revert hsF8
          revert zcW4
          revert zaW4
          revert zcW3
          revert zaW3
          revert zcW2
          revert zaW2
          revert zcW1
          revert zaW1
          revert zcs11
          revert zas11
          revert zcs01
          revert zas01
          revert hiUF8
          revert loUF8
          revert gUF8
          revert wUF8
          exact HJ.get
      · refine t4_hard rfl (by rfl) (fun K hK => ?_)
        go_wp2_with fail
        have hQ6 := hQ0.alloc #[.int .i64 0, .slice none 0 0, .slice none 0 0, .slice none 0 0, .slice none 0 0] 37 rfl
        have Js0' := Lib.hid (Iv.mono Js0.out (belowA _ (.cells #[.int .i64 0, .slice none 0 0, .slice none 0 0, .slice none 0 0, .slice none 0 0] 37)))
        try clear Js0
        have hzF8A3 : w3.heap.size + 1 ≤ (w3.alloc (.cells #[.int .i64 0, .slice none 0 0, .slice none 0 0, .slice none 0 0, .slice none 0 0] 37)).heap.size := by simp
        generalize hgenF8A3 : w3.alloc (.cells #[.int .i64 0, .slice none 0 0, .slice none 0 0, .slice none 0 0, .slice none 0 0] 37) = wF8A3 at *
        have HGF8A3 := Lib.hid hgenF8A3
        clear hgenF8A3
        refine ⟨⟨hQ6.cellAt 0 rfl 0 rfl, hQ6.cellAt 0 rfl 1 rfl, hQ6.cellAt 1 rfl 0 rfl, hQ6.cellAt 1 rfl 1 rfl⟩, ?_⟩
        (repeat (first | (apply t4_skip rfl (by rfl); try simp only [Act.put, sI, sZ, sS]) | (apply t4_float rfl (by rfl); (· (intro w' hS; go_simp <;> with_reducible rfl)); (try simp only [Act.put, sI, sZ, sS]))))
        refine t4_hard rfl (by rfl) (fun K hK => ?_)
        go_wp2_with (go_at_call 13; refine (toInstance_b (x10, x11) _ _ _ (Rd.mono H1.out hQ6.bel) gc1).mono ?_; rintro e w4 ⟨us10, us11, rfl, frs1, hb4⟩)
        have Js0'' := Lib.hid (Iv.mono Js0'.out hb4)
        try clear Js0'
        have hQ7 := hQ6.step hb4
        have hz4 : wF8A3.heap.size ≤ w4.heap.size := by simpa using hb4.size
        have Js1 := Lib.hid (Fresh.iv frs1)
        have zs10 := rd_cons rfl (Iv.rd Js1.out)
        obtain ⟨rfl, _⟩ := rd_i1 zs10.1
        obtain ⟨as11, cs11, rfl, _⟩ := rd_list zs10.2
        clear zs10
        clear frs1
        refine ⟨⟨hQ7.cellAt 0 rfl 0 rfl, hQ7.cellAt 0 rfl 1 rfl, hQ7.cellAt 1 rfl 0 rfl, hQ7.cellAt 1 rfl 1 rfl⟩, ?_⟩
        (repeat (first | (apply t4_skip rfl (by rfl); try simp only [Act.put, sI, sZ, sS]) | (apply t4_float rfl (by rfl); (· (intro w' hS; go_simp <;> with_reducible rfl)); (try simp only [Act.put, sI, sZ, sS]))))
        refine t4_hard rfl (by rfl) (fun K hK => ?_)
        go_wp2_with (go_at_call 30; refine (CS.out _ _ _ _ _ (Iv.rd Js0''.out) (Iv.rd Js1.out)).mono ?_; rintro e w5 ⟨uW0, uW1, uW2, uW3, uW4, rfl, frW, hb5⟩)
        have Js0_p3 := Lib.hid (Iv.mono Js0''.out hb5)
        try clear Js0''
        have Js1' := Lib.hid (Iv.mono Js1.out hb5)
        try clear Js1
        have hQ8 := hQ7.step hb5
        have hz5 : w4.heap.size ≤ w5.heap.size := by simpa using hb5.size
        have JW := Lib.hid (Fresh.iv frW)
        have zW0 := rd_cons rfl (Iv.rd JW.out)
        obtain ⟨rfl, _⟩ := rd_i1 zW0.1
        have zW1 := rd_cons rfl zW0.2
        obtain ⟨aW1, cW1, rfl, _⟩ := rd_list zW1.1
        have zW2 := rd_cons rfl zW1.2
        obtain ⟨aW2, cW2, rfl, _⟩ := rd_list zW2.1
        have zW3 := rd_cons rfl zW2.2
        obtain ⟨aW3, cW3, rfl, _⟩ := rd_list zW3.1
        obtain ⟨aW4, cW4, rfl, _⟩ := rd_list zW3.2
        clear zW0 zW1 zW2 zW3
        clear frW
        try clear Js0_p3
        try clear Js1'
        refine ⟨⟨hQ8.cellAt 0 rfl 0 rfl, hQ8.cellAt 0 rfl 1 rfl, hQ8.cellAt 1 rfl 0 rfl, hQ8.cellAt 1 rfl 1 rfl⟩, ?_⟩
        (repeat (first | (apply t4_skip rfl (by rfl); try simp only [Act.put, sI, sZ, sS]) | (apply t4_float rfl (by rfl); (· (intro w' hS; go_simp <;> with_reducible rfl)); (try simp only [Act.put, sI, sZ, sS]))))
        refine t4_hard rfl (by rfl) (fun K hK => ?_)
        have fF80 := hQ8.freeAt 2 rfl 0
        have cF80 := hQ8.cellAt 2 rfl 0 rfl
        have fF81 := hQ8.freeAt 2 rfl 1
        have cF81 := hQ8.cellAt 2 rfl 1 rfl
        have fF82 := hQ8.freeAt 2 rfl 2
        have cF82 := hQ8.cellAt 2 rfl 2 rfl
        have fF83 := hQ8.freeAt 2 rfl 3
        have cF83 := hQ8.cellAt 2 rfl 3 rfl
        have fF84 := hQ8.freeAt 2 rfl 4
        have cF84 := hQ8.cellAt 2 rfl 4 rfl
        go_wp2_with fail
        have hQ44 := (((((hQ8.set (p := [_, _]) (by simp <;> omega) 0 (.int .i64 r0)).set (p := [_, _]) (by simp <;> omega) 1 (.slice aW1 r1.length cW1)).set (p := [_, _]) (by simp <;> omega) 2 (.slice aW2 r2.length cW2)).set (p := [_, _]) (by simp <;> omega) 3 (.slice aW3 r3.length cW3)).set (p := [_, _]) (by simp <;> omega) 4 (.slice aW4 r4.length cW4))
        have JW' := Lib.hid (Iv.setOut (Iv.setOut (Iv.setOut (Iv.setOut (Iv.setOut JW.out (a := ⟨w3.heap.size, 0, none⟩) (by first | (left; simp only; first | done | omega) | (right; simp only; first | done | omega)) (.int .i64 r0)) (a := ⟨w3.heap.size, 1, none⟩) (by first | (left; simp only; first | done | omega) | (right; simp only; first | done | omega)) (.slice aW1 r1.length cW1)) (a := ⟨w3.heap.size, 2, none⟩) (by first | (left; simp only; first | done | omega) | (right; simp only; first | done | omega)) (.slice aW2 r2.length cW2)) (a := ⟨w3.heap.size, 3, none⟩) (by first | (left; simp only; first | done | omega) | (right; simp only; first | done | omega)) (.slice aW3 r3.length cW3)) (a := ⟨w3.heap.size, 4, none⟩) (by first | (left; simp only; first | done | omega) | (right; simp only; first | done | omega)) (.slice aW4 r4.length cW4))
        try clear JW
        clear fF80 cF80 fF81 cF81 fF82 cF82 fF83 cF83 fF84 cF84
        refine ⟨?_, ?_⟩
        · first | (have u9 : w5.cell? ⟨w.heap.size, 0, none⟩ = some (.int .i64 x00) ∧ w5.cell? ⟨w.heap.size, 1, none⟩ = some (.slice a01 x01.length c01) ∧ w5.cell? ⟨w.heap.size + 1, 0, none⟩ = some (.int .i64 x10) ∧ w5.cell? ⟨w.heap.size + 1, 1, none⟩ = some (.slice a11 x11.length c11) := ⟨hQ8.cellAt 0 rfl 0 rfl, hQ8.cellAt 0 rfl 1 rfl, hQ8.cellAt 1 rfl 0 rfl, hQ8.cellAt 1 rfl 1 rfl⟩; with_reducible exact u9) | (have u9 : (((((w5.setCell ⟨w3.heap.size, 0, none⟩ (.int .i64 r0)).setCell ⟨w3.heap.size, 1, none⟩ (.slice aW1 r1.length cW1)).setCell ⟨w3.heap.size, 2, none⟩ (.slice aW2 r2.length cW2)).setCell ⟨w3.heap.size, 3, none⟩ (.slice aW3 r3.length cW3)).setCell ⟨w3.heap.size, 4, none⟩ (.slice aW4 r4.length cW4)).cell? ⟨w.heap.size, 0, none⟩ = some (.int .i64 x00) ∧ (((((w5.setCell ⟨w3.heap.size, 0, none⟩ (.int .i64 r0)).setCell ⟨w3.heap.size, 1, none⟩ (.slice aW1 r1.length cW1)).setCell ⟨w3.heap.size, 2, none⟩ (.slice aW2 r2.length cW2)).setCell ⟨w3.heap.size, 3, none⟩ (.slice aW3 r3.length cW3)).setCell ⟨w3.heap.size, 4, none⟩ (.slice aW4 r4.length cW4)).cell? ⟨w.heap.size, 1, none⟩ = some (.slice a01 x01.length c01) ∧ (((((w5.setCell ⟨w3.heap.size, 0, none⟩ (.int .i64 r0)).setCell ⟨w3.heap.size, 1, none⟩ (.slice aW1 r1.length cW1)).setCell ⟨w3.heap.size, 2, none⟩ (.slice aW2 r2.length cW2)).setCell ⟨w3.heap.size, 3, none⟩ (.slice aW3 r3.length cW3)).setCell ⟨w3.heap.size, 4, none⟩ (.slice aW4 r4.length cW4)).cell? ⟨w.heap.size + 1, 0, none⟩ = some (.int .i64 x10) ∧ (((((w5.setCell ⟨w3.heap.size, 0, none⟩ (.int .i64 r0)).setCell ⟨w3.heap.size, 1, none⟩ (.slice aW1 r1.length cW1)).setCell ⟨w3.heap.size, 2, none⟩ (.slice aW2 r2.length cW2)).setCell ⟨w3.heap.size, 3, none⟩ (.slice aW3 r3.length cW3)).setCell ⟨w3.heap.size, 4, none⟩ (.slice aW4 r4.length cW4)).cell? ⟨w.heap.size + 1, 1, none⟩ = some (.slice a11 x11.length c11) := ⟨hQ44.cellAt 0 rfl 0 rfl, hQ44.cellAt 0 rfl 1 rfl, hQ44.cellAt 1 rfl 0 rfl, hQ44.cellAt 1 rfl 1 rfl⟩; with_reducible exact u9) | exact ⟨hQ44.cellAt 0 rfl 0 rfl, hQ44.cellAt 0 rfl 1 rfl, hQ44.cellAt 1 rfl 0 rfl, hQ44.cellAt 1 rfl 1 rfl⟩ | exact ⟨hQ8.cellAt 0 rfl 0 rfl, hQ8.cellAt 0 rfl 1 rfl, hQ8.cellAt 1 rfl 0 rfl, hQ8.cellAt 1 rfl 1 rfl⟩
        (repeat (first | (apply t4_skip rfl (by rfl); try simp only [Act.put, sI, sZ, sS]) | (apply t4_float rfl (by rfl); (· (intro w' hS; go_simp <;> with_reducible rfl)); (try simp only [Act.put, sI, sZ, sS]))))
        refine t4_nil (NoPanic.normal ?_)
        have hsF8 : St w (((((w5.setCell ⟨w3.heap.size, 0, none⟩ (.int .i64 r0)).setCell ⟨w3.heap.size, 1, none⟩ (.slice aW1 r1.length cW1)).setCell ⟨w3.heap.size, 2, none⟩ (.slice aW2 r2.length cW2)).setCell ⟨w3.heap.size, 3, none⟩ (.slice aW3 r3.length cW3)).setCell ⟨w3.heap.size, 4, none⟩ (.slice aW4 r4.length cW4)).heap.size (((((w5.setCell ⟨w3.heap.size, 0, none⟩ (.int .i64 r0)).setCell ⟨w3.heap.size, 1, none⟩ (.slice aW1 r1.length cW1)).setCell ⟨w3.heap.size, 2, none⟩ (.slice aW2 r2.length cW2)).setCell ⟨w3.heap.size, 3, none⟩ (.slice aW3 r3.length cW3)).setCell ⟨w3.heap.size, 4, none⟩ (.slice aW4 r4.length cW4)) [(w.heap.size, #[.int .i64 x00, .slice a01 x01.length c01], 24), (w.heap.size + 1, #[.int .i64 x10, .slice a11 x11.length c11], 27), (w3.heap.size, #[.int .i64 r0, .slice aW1 r1.length cW1, .slice aW2 r2.length cW2, .slice aW3 r3.length cW3, .slice aW4 r4.length cW4], 37)] := hQ44.up hQ44.hi (Nat.le_refl _)
        have hVF8 : w5.heap.size = (((((w5.setCell ⟨w3.heap.size, 0, none⟩ (.int .i64 r0)).setCell ⟨w3.heap.size, 1, none⟩ (.slice aW1 r1.length cW1)).setCell ⟨w3.heap.size, 2, none⟩ (.slice aW2 r2.length cW2)).setCell ⟨w3.heap.size, 3, none⟩ (.slice aW3 r3.length cW3)).setCell ⟨w3.heap.size, 4, none⟩ (.slice aW4 r4.length cW4)).heap.size := by simp [World.setCell]
        obtain ⟨loUF8, hiUF8, hUF8, JUF8⟩ : ∃ lo hi : Nat, (w2.heap.size ≤ lo ∧ hi ≤ w5.heap.size ∧ (w3.heap.size < lo ∨ hi ≤ w3.heap.size) ∧ w2.heap.size ≤ w3.heap.size ∧ w3.heap.size < w5.heap.size) ∧ Hid (Iv lo hi (((((w5.setCell ⟨w3.heap.size, 0, none⟩ (.int .i64 r0)).setCell ⟨w3.heap.size, 1, none⟩ (.slice aW1 r1.length cW1)).setCell ⟨w3.heap.size, 2, none⟩ (.slice aW2 r2.length cW2)).setCell ⟨w3.heap.size, 3, none⟩ (.slice aW3 r3.length cW3)).setCell ⟨w3.heap.size, 4, none⟩ (.slice aW4 r4.length cW4)) [.int .i64 r0, .slice aW1 r1.length cW1, .slice aW2 r2.length cW2, .slice aW3 r3.length cW3, .slice aW4 r4.length cW4] (r0, r1, r2, r3, r4)) := ⟨w4.heap.size, w5.heap.size, by omega, JW'.out⟩
        rw [hVF8] at hUF8
        clear hVF8 JW'
        generalize hhwUF8 : (((((w5.setCell ⟨w3.heap.size, 0, none⟩ (.int .i64 r0)).setCell ⟨w3.heap.size, 1, none⟩ (.slice aW1 r1.length cW1)).setCell ⟨w3.heap.size, 2, none⟩ (.slice aW2 r2.length cW2)).setCell ⟨w3.heap.size, 3, none⟩ (.slice aW3 r3.length cW3)).setCell ⟨w3.heap.size, 4, none⟩ (.slice aW4 r4.length cW4)) = wUF8 at hsF8 hUF8 JUF8 ⊢
        clear hhwUF8
        generalize hhgUF8 : w3.heap.size = gUF8 at hsF8 hUF8 JUF8 ⊢
        clear hhgUF8
        generalize as01 = zas01 at hsF8 hUF8 JUF8 ⊢
        generalize cs01 = zcs01 at hsF8 hUF8 JUF8 ⊢
        generalize as11 = zas11 at hsF8 hUF8 JUF8 ⊢
        generalize cs11 = zcs11 at hsF8 hUF8 JUF8 ⊢
        generalize aW1 = zaW1 at hsF8 hUF8 JUF8 ⊢
        generalize cW1 = zcW1 at hsF8 hUF8 JUF8 ⊢
        generalize aW2 = zaW2 at hsF8 hUF8 JUF8 ⊢
        generalize cW2 = zcW2 at hsF8 hUF8 JUF8 ⊢
        generalize aW3 = zaW3 at hsF8 hUF8 JUF8 ⊢
        generalize cW3 = zcW3 at hsF8 hUF8 JUF8 ⊢
        generalize aW4 = zaW4 at hsF8 hUF8 JUF8 ⊢
        generalize cW4 = zcW4 at hsF8 hUF8 JUF8 ⊢
        revert JUF8
        revert hUF8
        revert hsF8
        revert zcW4
        revert zaW4
        revert zcW3
        revert zaW3
        revert zcW2
        revert zaW2
        revert zcW1
        revert zaW1
        revert zcs11
        revert zas11
        revert zcs01
        revert zas01
        revert hiUF8
        revert loUF8
        revert gUF8
        revert wUF8
        exact HJ.get
    · refine t4_hard rfl (by rfl) (fun K hK => ?_)
      go_wp2_with fail
      have hQ9 := hsssd.alloc #[.int .i64 0, .slice none 0 0, .slice none 0 0, .slice none 0 0, .slice none 0 0] 37 rfl
      have hzF8A4 : wF8.heap.size + 1 ≤ (wF8.alloc (.cells #[.int .i64 0, .slice none 0 0, .slice none 0 0, .slice none 0 0, .slice none 0 0] 37)).heap.size := by simp
      generalize hgenF8A4 : wF8.alloc (.cells #[.int .i64 0, .slice none 0 0, .slice none 0 0, .slice none 0 0, .slice none 0 0] 37) = wF8A4 at *
      have HGF8A4 := Lib.hid hgenF8A4
      clear hgenF8A4
      refine ⟨⟨hQ9.cellAt 0 rfl 0 rfl, hQ9.cellAt 0 rfl 1 rfl, hQ9.cellAt 1 rfl 0 rfl, hQ9.cellAt 1 rfl 1 rfl⟩, ?_⟩
      (repeat (first | (apply t4_skip rfl (by rfl); try simp only [Act.put, sI, sZ, sS]) | (apply t4_float rfl (by rfl); (· (intro w' hS; go_simp <;> with_reducible rfl)); (try simp only [Act.put, sI, sZ, sS]))))
      refine t4_hard rfl (by rfl) (fun K hK => ?_)
      go_wp2_with (go_at_call 12; refine (toTemplate_b (x00, x01) _ _ _ (Rd.mono H0.out hQ9.bel) gc0).mono ?_; rintro e w3 ⟨us00, us01, rfl, frs0, hb3⟩)
      have hQ10 := hQ9.step hb3
      have hz3 : wF8A4.heap.size ≤ w3.heap.size := by simpa using hb3.size
      have Js0 := Lib.hid (Fresh.iv frs0)
      have zs00 := rd_cons rfl (Iv.rd Js0.out)
      obtain ⟨rfl, _⟩ := rd_i1 zs00.1
      obtain ⟨as01, cs01, rfl, _⟩ := rd_list zs00.2
      clear zs00
      clear frs0
      refine ⟨⟨hQ10.cellAt 0 rfl 0 rfl, hQ10.cellAt 0 rfl 1 rfl, hQ10.cellAt 1 rfl 0 rfl, hQ10.cellAt 1 rfl 1 rfl⟩, ?_⟩
      (repeat (first | (apply t4_skip rfl (by rfl); try simp only [Act.put, sI, sZ, sS]) | (apply t4_float rfl (by rfl); (· (intro w' hS; go_simp <;> with_reducible rfl)); (try simp only [Act.put, sI, sZ, sS]))))
      refine t4_hard rfl (by rfl) (fun K hK => ?_)
      go_wp2_with (go_at_call 13; refine (toInstance_b (x10, x11) _ _ _ (Rd.mono H1.out hQ10.bel) gc1).mono ?_; rintro e w4 ⟨us10, us11, rfl, frs1, hb4⟩)
      have Js0' := Lib.hid (Iv.mono Js0.out hb4)
      try clear Js0
      have hQ11 := hQ10.step hb4
      have hz4 : w3.heap.size ≤ w4.heap.size := by simpa using hb4.size
      have Js1 := Lib.hid (Fresh.iv frs1)
      have zs10 := rd_cons rfl (Iv.rd Js1.out)
      obtain ⟨rfl, _⟩ := rd_i1 zs10.1
      obtain ⟨as11, cs11, rfl, _⟩ := rd_list zs10.2
      clear zs10
      clear frs1
      refine ⟨⟨hQ11.cellAt 0 rfl 0 rfl, hQ11.cellAt 0 rfl 1 rfl, hQ11.cellAt 1 rfl 0 rfl, hQ11.cellAt 1 rfl 1 rfl⟩, ?_⟩
      (repeat (first | (apply t4_skip rfl (by rfl); try simp only [Act.put, sI, sZ, sS]) | (apply t4_float rfl (by rfl); (· (intro w' hS; go_simp <;> with_reducible rfl)); (try simp only [Act.put, sI, sZ, sS]))))
      refine t4_hard rfl (by rfl) (fun K hK => ?_)
      go_wp2_with (go_at_call 30; refine (CS.out _ _ _ _ _ (Iv.rd Js0'.out) (Iv.rd Js1.out)).mono ?_; rintro e w5 ⟨uW0, uW1, uW2, uW3, uW4, rfl, frW, hb5⟩)
      have Js0'' := Lib.hid (Iv.mono Js0'.out hb5)
      try clear Js0'
      have Js1' := Lib.hid (Iv.mono Js1.out hb5)
      try clear Js1
      have hQ12 := hQ11.step hb5
      have hz5 : w4.heap.size ≤ w5.heap.size := by simpa using hb5.size
      have JW := Lib.hid (Fresh.iv frW)
      have zW0 := rd_cons rfl (Iv.rd JW.out)
      obtain ⟨rfl, _⟩ := rd_i1 zW0.1
      have zW1 := rd_cons rfl zW0.2
      obtain ⟨aW1, cW1, rfl, _⟩ := rd_list zW1.1
      have zW2 := rd_cons rfl zW1.2
      obtain ⟨aW2, cW2, rfl, _⟩ := rd_list zW2.1
      have zW3 := rd_cons rfl zW2.2
      obtain ⟨aW3, cW3, rfl, _⟩ := rd_list zW3.1
      obtain ⟨aW4, cW4, rfl, _⟩ := rd_list zW3.2
      clear zW0 zW1 zW2 zW3
      clear frW
      try clear Js0''
      try clear Js1'
      refine ⟨⟨hQ12.cellAt 0 rfl 0 rfl, hQ12.cellAt 0 rfl 1 rfl, hQ12.cellAt 1 rfl 0 rfl, hQ12.cellAt 1 rfl 1 rfl⟩, ?_⟩
      (repeat (first | (apply t4_skip rfl (by rfl); try simp only [Act.put, sI, sZ, sS]) | (apply t4_float rfl (by rfl); (· (intro w' hS; go_simp <;> with_reducible rfl)); (try simp only [Act.put, sI, sZ, sS]))))
      refine t4_hard rfl (by rfl) (fun K hK => ?_)
      have fF80 := hQ12.freeAt 2 rfl 0
      have cF80 := hQ12.cellAt 2 rfl 0 rfl
      have fF81 := hQ12.freeAt 2 rfl 1
      have cF81 := hQ12.cellAt 2 rfl 1 rfl
      have fF82 := hQ12.freeAt 2 rfl 2
      have cF82 := hQ12.cellAt 2 rfl 2 rfl
      have fF83 := hQ12.freeAt 2 rfl 3
      have cF83 := hQ12.cellAt 2 rfl 3 rfl
      have fF84 := hQ12.freeAt 2 rfl 4
      have cF84 := hQ12.cellAt 2 rfl 4 rfl
      go_wp2_with fail
      have hQ45 := (((((hQ12.set (p := [_, _]) (by simp <;> omega) 0 (.int .i64 r0)).set (p := [_, _]) (by simp <;> omega) 1 (.slice aW1 r1.length cW1)).set (p := [_, _]) (by simp <;> omega) 2 (.slice aW2 r2.length cW2)).set (p := [_, _]) (by simp <;> omega) 3 (.slice aW3 r3.length cW3)).set (p := [_, _]) (by simp <;> omega) 4 (.slice aW4 r4.length cW4))
      have JW' := Lib.hid (Iv.setOut (Iv.setOut (Iv.setOut (Iv.setOut (Iv.setOut JW.out (a := ⟨wF8.heap.size, 0, none⟩) (by first | (left; simp only; first | done | omega) | (right; simp only; first | done | omega)) (.int .i64 r0)) (a := ⟨wF8.heap.size, 1, none⟩) (by first | (left; simp only; first | done | omega) | (right; simp only; first | done | omega)) (.slice aW1 r1.length cW1)) (a := ⟨wF8.heap.size, 2, none⟩) (by first | (left; simp only; first | done | omega) | (right; simp only; first | done | omega)) (.slice aW2 r2.length cW2)) (a := ⟨wF8.heap.size, 3, none⟩) (by first | (left; simp only; first | done | omega) | (right; simp only; first | done | omega)) (.slice aW3 r3.length cW3)) (a := ⟨wF8.heap.size, 4, none⟩) (by first | (left; simp only; first | done | omega) | (right; simp only; first | done | omega)) (.slice aW4 r4.length cW4))
      try clear JW
      clear fF80 cF80 fF81 cF81 fF82 cF82 fF83 cF83 fF84 cF84
      refine ⟨?_, ?_⟩
      · first | (have u9 : w5.cell? ⟨w.heap.size, 0, none⟩ = some (.int .i64 x00) ∧ w5.cell? ⟨w.heap.size, 1, none⟩ = some (.slice a01 x01.length c01) ∧ w5.cell? ⟨w.heap.size + 1, 0, none⟩ = some (.int .i64 x10) ∧ w5.cell? ⟨w.heap.size + 1, 1, none⟩ = some (.slice a11 x11.length c11) := ⟨hQ12.cellAt 0 rfl 0 rfl, hQ12.cellAt 0 rfl 1 rfl, hQ12.cellAt 1 rfl 0 rfl, hQ12.cellAt 1 rfl 1 rfl⟩; with_reducible exact u9) | (have u9 : (((((w5.setCell ⟨wF8.heap.size, 0, none⟩ (.int .i64 r0)).setCell ⟨wF8.heap.size, 1, none⟩ (.slice aW1 r1.length cW1)).setCell ⟨wF8.heap.size, 2, none⟩ (.slice aW2 r2.length cW2)).setCell ⟨wF8.heap.size, 3, none⟩ (.slice aW3 r3.length cW3)).setCell ⟨wF8.heap.size, 4, none⟩ (.slice aW4 r4.length cW4)).cell? ⟨w.heap.size, 0, none⟩ = some (.int .i64 x00) ∧ (((((w5.setCell ⟨wF8.heap.size, 0, none⟩ (.int .i64 r0)).setCell ⟨wF8.heap.size, 1, none⟩ (.slice aW1 r1.length cW1)).setCell ⟨wF8.heap.size, 2, none⟩ (.slice aW2 r2.length cW2)).setCell ⟨wF8.heap.size, 3, none⟩ (.slice aW3 r3.length cW3)).setCell ⟨wF8.heap.size, 4, none⟩ (.slice aW4 r4.length cW4)).cell? ⟨w.heap.size, 1, none⟩ = some (.slice a01 x01.length c01) ∧ (((((w5.setCell ⟨wF8.heap.size, 0, none⟩ (.int .i64 r0)).setCell ⟨wF8.heap.size, 1, none⟩ (.slice aW1 r1.length cW1)).setCell ⟨wF8.heap.size, 2, none⟩ (.slice aW2 r2.length cW2)).setCell ⟨wF8.heap.size, 3, none⟩ (.slice aW3 r3.length cW3)).setCell ⟨wF8.heap.size, 4, none⟩ (.slice aW4 r4.length cW4)).cell? ⟨w.heap.size + 1, 0, none⟩ = some (.int .i64 x10) ∧ (((((w5.setCell ⟨wF8.heap.size, 0, none⟩ (.int .i64 r0)).setCell ⟨wF8.heap.size, 1, none⟩ (.slice aW1 r1.length cW1)).setCell ⟨wF8.heap.size, 2, none⟩ (.slice aW2 r2.length cW2)).setCell ⟨wF8.heap.size, 3, none⟩ (.slice aW3 r3.length cW3)).setCell ⟨wF8.heap.size, 4, none⟩ (.slice aW4 r4.length cW4)).cell? ⟨w.heap.size + 1, 1, none⟩ = some (.slice a11 x11.length c11) := ⟨hQ45.cellAt 0 rfl 0 rfl, hQ45.cellAt 0 rfl 1 rfl, hQ45.cellAt 1 rfl 0 rfl, hQ45.cellAt 1 rfl 1 rfl⟩; with_reducible exact u9) | exact ⟨hQ45.cellAt 0 rfl 0 rfl, hQ45.cellAt 0 rfl 1 rfl, hQ45.cellAt 1 rfl 0 rfl, hQ45.cellAt 1 rfl 1 rfl⟩ | exact ⟨hQ12.cellAt 0 rfl 0 rfl, hQ12.cellAt 0 rfl 1 rfl, hQ12.cellAt 1 rfl 0 rfl, hQ12.cellAt 1 rfl 1 rfl⟩
      (repeat (first | (apply t4_skip rfl (by rfl); try simp only [Act.put, sI, sZ, sS]) | (apply t4_float rfl (by rfl); (· (intro w' hS; go_simp <;> with_reducible rfl)); (try simp only [Act.put, sI, sZ, sS]))))
      refine t4_nil (NoPanic.normal ?_)
      have hsF8 : St w (((((w5.setCell ⟨wF8.heap.size, 0, none⟩ (.int .i64 r0)).setCell ⟨wF8.heap.size, 1, none⟩ (.slice aW1 r1.length cW1)).setCell ⟨wF8.heap.size, 2, none⟩ (.slice aW2 r2.length cW2)).setCell ⟨wF8.heap.size, 3, none⟩ (.slice aW3 r3.length cW3)).setCell ⟨wF8.heap.size, 4, none⟩ (.slice aW4 r4.length cW4)).heap.size (((((w5.setCell ⟨wF8.heap.size, 0, none⟩ (.int .i64 r0)).setCell ⟨wF8.heap.size, 1, none⟩ (.slice aW1 r1.length cW1)).setCell ⟨wF8.heap.size, 2, none⟩ (.slice aW2 r2.length cW2)).setCell ⟨wF8.heap.size, 3, none⟩ (.slice aW3 r3.length cW3)).setCell ⟨wF8.heap.size, 4, none⟩ (.slice aW4 r4.length cW4)) [(w.heap.size, #[.int .i64 x00, .slice a01 x01.length c01], 24), (w.heap.size + 1, #[.int .i64 x10, .slice a11 x11.length c11], 27), (wF8.heap.size, #[.int .i64 r0, .slice aW1 r1.length cW1, .slice aW2 r2.length cW2, .slice aW3 r3.length cW3, .slice aW4 r4.length cW4], 37)] := hQ45.up hQ45.hi (Nat.le_refl _)
      have hVF8 : w5.heap.size = (((((w5.setCell ⟨wF8.heap.size, 0, none⟩ (.int .i64 r0)).setCell ⟨wF8.heap.size, 1, none⟩ (.slice aW1 r1.length cW1)).setCell ⟨wF8.heap.size, 2, none⟩ (.slice aW2 r2.length cW2)).setCell ⟨wF8.heap.size, 3, none⟩ (.slice aW3 r3.length cW3)).setCell ⟨wF8.heap.size, 4, none⟩ (.slice aW4 r4.length cW4)).heap.size := by simp [World.setCell]
      obtain ⟨loUF8, hiUF8, hUF8, JUF8⟩ : ∃ lo hi : Nat, (w2.heap.size ≤ lo ∧ hi ≤ w5.heap.size ∧ (wF8.heap.size < lo ∨ hi ≤ wF8.heap.size) ∧ w2.heap.size ≤ wF8.heap.size ∧ wF8.heap.size < w5.heap.size) ∧ Hid (Iv lo hi (((((w5.setCell ⟨wF8.heap.size, 0, none⟩ (.int .i64 r0)).setCell ⟨wF8.heap.size, 1, none⟩ (.slice aW1 r1.length cW1)).setCell ⟨wF8.heap.size, 2, none⟩ (.slice aW2 r2.length cW2)).setCell ⟨wF8.heap.size, 3, none⟩ (.slice aW3 r3.length cW3)).setCell ⟨wF8.heap.size, 4, none⟩ (.slice aW4 r4.length cW4)) [.int .i64 r0, .slice aW1 r1.length cW1, .slice aW2 r2.length cW2, .slice aW3 r3.length cW3, .slice aW4 r4.length cW4] (r0, r1, r2, r3, r4)) := ⟨w4.heap.size, w5.heap.size, by omega, JW'.out⟩
      rw [hVF8] at hUF8
      clear hVF8 JW'
      generalize hhwUF8 : (((((w5.setCell ⟨wF8.heap.size, 0, none⟩ (.int .i64 r0)).setCell ⟨wF8.heap.size, 1, none⟩ (.slice aW1 r1.length cW1)).setCell ⟨wF8.heap.size, 2, none⟩ (.slice aW2 r2.length cW2)).setCell ⟨wF8.heap.size, 3, none⟩ (.slice aW3 r3.length cW3)).setCell ⟨wF8.heap.size, 4, none⟩ (.slice aW4 r4.length cW4)) = wUF8 at hsF8 hUF8 JUF8 ⊢
      clear hhwUF8
      generalize hhgUF8 : wF8.heap.size = gUF8 at hsF8 hUF8 JUF8 ⊢
      clear hhgUF8
      generalize as01 = zas01 at hsF8 hUF8 JUF8 ⊢
      generalize cs01 = zcs01 at hsF8 hUF8 JUF8 ⊢
      generalize as11 = zas11 at hsF8 hUF8 JUF8 ⊢
      generalize cs11 = zcs11 at hsF8 hUF8 JUF8 ⊢
      generalize aW1 = zaW1 at hsF8 hUF8 JUF8 ⊢
      generalize cW1 = zcW1 at hsF8 hUF8 JUF8 ⊢
      generalize aW2 = zaW2 at hsF8 hUF8 JUF8 ⊢
      generalize cW2 = zcW2 at hsF8 hUF8 JUF8 ⊢
      generalize aW3 = zaW3 at hsF8 hUF8 JUF8 ⊢
      generalize cW3 = zcW3 at hsF8 hUF8 JUF8 ⊢
      generalize aW4 = zaW4 at hsF8 hUF8 JUF8 ⊢
      generalize cW4 = zcW4 at hsF8 hUF8 JUF8 ⊢
      revert JUF8
      revert hUF8
      revert hsF8
      revert zcW4
      revert zaW4
      revert zcW3
      revert zaW3
      revert zcW2
      revert zaW2
      revert zcW1
      revert zaW1
      revert zcs11
      revert zas11
      revert zcs01
      revert zas01
      revert hiUF8
      revert loUF8
      revert gUF8
      revert wUF8
      exact HJ.get
  intro wUF8 gUF8 loUF8 hiUF8 as01 cs01 as11 cs11 aW1 cW1 aW2 cW2 aW3 cW3 aW4 cW4
  intro hsF8 hUF8 JWF8
  obtain ⟨h1F8, h2F8, h3F8, h4F8, h5F8⟩ := hUF8
  have qa00 := hsF8.cellAt 0 rfl 0 rfl
  have qa01 := hsF8.cellAt 0 rfl 1 rfl
  have qa10 := hsF8.cellAt 1 rfl 0 rfl
  have qa11 := hsF8.cellAt 1 rfl 1 rfl
  have qw0 := hsF8.cellAt 2 rfl 0 rfl
  have qw1 := hsF8.cellAt 2 rfl 1 rfl
  have qw2 := hsF8.cellAt 2 rfl 2 rfl
  have qw3 := hsF8.cellAt 2 rfl 3 rfl
  have qw4 := hsF8.cellAt 2 rfl 4 rfl
  go_wp2_with fail
  refine (toTemplate_b (x00, x01) _ _ _ (Rd.mono H0.out hsF8.bel) gc0).mono ?_
  rintro e w6 ⟨ux00, ux01, rfl, frx0, hb6⟩
  have JWF8' := Lib.hid (Iv.mono JWF8.out hb6)
  clear JWF8
  have hsF8s := hsF8.step hb6
  have hz3 : wUF8.heap.size ≤ w6.heap.size := by simpa using hb6.size
  have Jx0 := Lib.hid (Fresh.iv frx0)
  have zx00 := rd_cons rfl (Iv.rd Jx0.out)
  obtain ⟨rfl, _⟩ := rd_i1 zx00.1
  obtain ⟨ax01, cx01, rfl, _⟩ := rd_list zx00.2
  clear zx00
  clear frx0
  clear qa00 qa01 qa10 qa11 qw0 qw1 qw2 qw3 qw4
  have qa00 := hsF8s.cellAt 0 rfl 0 rfl
  have qa01 := hsF8s.cellAt 0 rfl 1 rfl
  have qa10 := hsF8s.cellAt 1 rfl 0 rfl
  have qa11 := hsF8s.cellAt 1 rfl 1 rfl
  have qw0 := hsF8s.cellAt 2 rfl 0 rfl
  have qw1 := hsF8s.cellAt 2 rfl 1 rfl
  have qw2 := hsF8s.cellAt 2 rfl 2 rfl
  have qw3 := hsF8s.cellAt 2 rfl 3 rfl
  have qw4 := hsF8s.cellAt 2 rfl 4 rfl
  have hsF8sa := hsF8s.alloc #[.int .i64 x00, .slice ax01 x01.length cx01] 42 rfl
  have JWF8'' := Lib.hid (Iv.mono JWF8'.out (belowA _ (.cells #[.int .i64 x00, .slice ax01 x01.length cx01] 42)))
  clear JWF8'
  have Jx0' := Lib.hid (Iv.mono Jx0.out (belowA _ (.cells #[.int .i64 x00, .slice ax01 x01.length cx01] 42)))
  clear Jx0
  clear qa00 qa01 qa10 qa11 qw0 qw1 qw2 qw3 qw4
  have qa00 := hsF8sa.cellAt 0 rfl 0 rfl
  have qa01 := hsF8sa.cellAt 0 rfl 1 rfl
  have qa10 := hsF8sa.cellAt 1 rfl 0 rfl
  have qa11 := hsF8sa.cellAt 1 rfl 1 rfl
  have qw0 := hsF8sa.cellAt 2 rfl 0 rfl
  have qw1 := hsF8sa.cellAt 2 rfl 1 rfl
  have qw2 := hsF8sa.cellAt 2 rfl 2 rfl
  have qw3 := hsF8sa.cellAt 2 rfl 3 rfl
  have qw4 := hsF8sa.cellAt 2 rfl 4 rfl
  have qx00 := hsF8sa.cellAt 3 rfl 0 rfl
  have qx01 := hsF8sa.cellAt 3 rfl 1 rfl
  go_wp2_with fail
  refine (toInstance_b (x10, x11) _ _ _ (Rd.mono H1.out hsF8sa.bel) gc1).mono ?_
  rintro e w7 ⟨ux10, ux11, rfl, frx1, hb7⟩
  have JWF8_p3 := Lib.hid (Iv.mono JWF8''.out hb7)
  clear JWF8''
  have Jx0'' := Lib.hid (Iv.mono Jx0'.out hb7)
  clear Jx0'
  have hsF8sas := hsF8sa.step hb7
  have hz4 : w6.heap.size + 1 ≤ w7.heap.size := by simpa using hb7.size
  have Jx1 := Lib.hid (Fresh.iv frx1)
  have zx10 := rd_cons rfl (Iv.rd Jx1.out)
  obtain ⟨rfl, _⟩ := rd_i1 zx10.1
  obtain ⟨ax11, cx11, rfl, _⟩ := rd_list zx10.2
  clear zx10
  clear frx1
  clear qa00 qa01 qa10 qa11 qw0 qw1 qw2 qw3 qw4 qx00 qx01
  have qa00 := hsF8sas.cellAt 0 rfl 0 rfl
  have qa01 := hsF8sas.cellAt 0 rfl 1 rfl
  have qa10 := hsF8sas.cellAt 1 rfl 0 rfl
  have qa11 := hsF8sas.cellAt 1 rfl 1 rfl
  have qw0 := hsF8sas.cellAt 2 rfl 0 rfl
  have qw1 := hsF8sas.cellAt 2 rfl 1 rfl
  have qw2 := hsF8sas.cellAt 2 rfl 2 rfl
  have qw3 := hsF8sas.cellAt 2 rfl 3 rfl
  have qw4 := hsF8sas.cellAt 2 rfl 4 rfl
  have qx00 := hsF8sas.cellAt 3 rfl 0 rfl
  have qx01 := hsF8sas.cellAt 3 rfl 1 rfl
  have hQ13 := hsF8sas.alloc #[.int .i64 x10, .slice ax11 x11.length cx11] 46 rfl
  have JWF8_p4 := Lib.hid (Iv.mono JWF8_p3.out (belowA _ (.cells #[.int .i64 x10, .slice ax11 x11.length cx11] 46)))
  clear JWF8_p3
  have Jx0_p3 := Lib.hid (Iv.mono Jx0''.out (belowA _ (.cells #[.int .i64 x10, .slice ax11 x11.length cx11] 46)))
  clear Jx0''
  have Jx1' := Lib.hid (Iv.mono Jx1.out (belowA _ (.cells #[.int .i64 x10, .slice ax11 x11.length cx11] 46)))
  clear Jx1
  clear qa00 qa01 qa10 qa11 qw0 qw1 qw2 qw3 qw4 qx00 qx01
  have qa00 := hQ13.cellAt 0 rfl 0 rfl
  have qa01 := hQ13.cellAt 0 rfl 1 rfl
  have qa10 := hQ13.cellAt 1 rfl 0 rfl
  have qa11 := hQ13.cellAt 1 rfl 1 rfl
  have qw0 := hQ13.cellAt 2 rfl 0 rfl
  have qw1 := hQ13.cellAt 2 rfl 1 rfl
  have qw2 := hQ13.cellAt 2 rfl 2 rfl
  have qw3 := hQ13.cellAt 2 rfl 3 rfl
  have qw4 := hQ13.cellAt 2 rfl 4 rfl
  have qx00 := hQ13.cellAt 3 rfl 0 rfl
  have qx01 := hQ13.cellAt 3 rfl 1 rfl
  have qx10 := hQ13.cellAt 4 rfl 0 rfl
  have qx11 := hQ13.cellAt 4 rfl 1 rfl
  go_wp2_with fail
  refine (CI.out _ _ _ _ _ (Iv.rd Jx0_p3.out) (Iv.rd Jx1'.out)).mono ?_
  rintro e w8 ⟨uG0, uG1, uG2, uG3, uG4, rfl, frG, hb8⟩
  have JWF8_p5 := Lib.hid (Iv.mono JWF8_p4.out hb8)
  clear JWF8_p4
  have Jx0_p4 := Lib.hid (Iv.mono Jx0_p3.out hb8)
  clear Jx0_p3
  have Jx1'' := Lib.hid (Iv.mono Jx1'.out hb8)
  clear Jx1'
  have hQ14 := hQ13.step hb8
  have hz5 : w7.heap.size + 1 ≤ w8.heap.size := by simpa using hb8.size
  have JG := Lib.hid (Fresh.iv frG)
  have zG0 := rd_cons rfl (Iv.rd JG.out)
  obtain ⟨rfl, _⟩ := rd_i1 zG0.1
  have zG1 := rd_cons rfl zG0.2
  obtain ⟨aG1, cG1, rfl, _⟩ := rd_list zG1.1
  have zG2 := rd_cons rfl zG1.2
  obtain ⟨aG2, cG2, rfl, _⟩ := rd_list zG2.1
  have zG3 := rd_cons rfl zG2.2
  obtain ⟨aG3, cG3, rfl, _⟩ := rd_list zG3.1
  obtain ⟨aG4, cG4, rfl, _⟩ := rd_list zG3.2
  clear zG0 zG1 zG2 zG3
  clear frG
  clear qa00 qa01 qa10 qa11 qw0 qw1 qw2 qw3 qw4 qx00 qx01 qx10 qx11
  have qa00 := hQ14.cellAt 0 rfl 0 rfl
  have qa01 := hQ14.cellAt 0 rfl 1 rfl
  have qa10 := hQ14.cellAt 1 rfl 0 rfl
  have qa11 := hQ14.cellAt 1 rfl 1 rfl
  have qw0 := hQ14.cellAt 2 rfl 0 rfl
  have qw1 := hQ14.cellAt 2 rfl 1 rfl
  have qw2 := hQ14.cellAt 2 rfl 2 rfl
  have qw3 := hQ14.cellAt 2 rfl 3 rfl
  have qw4 := hQ14.cellAt 2 rfl 4 rfl
  have qx00 := hQ14.cellAt 3 rfl 0 rfl
  have qx01 := hQ14.cellAt 3 rfl 1 rfl
  have qx10 := hQ14.cellAt 4 rfl 0 rfl
  have qx11 := hQ14.cellAt 4 rfl 1 rfl
  have hQ15 := hQ14.alloc #[.int .i64 r0, .slice aG1 r1.length cG1, .slice aG2 r2.length cG2, .slice aG3 r3.length cG3, .slice aG4 r4.length cG4] 37 rfl
  have JWF8_p6 := Lib.hid (Iv.mono JWF8_p5.out (belowA _ (.cells #[.int .i64 r0, .slice aG1 r1.length cG1, .slice aG2 r2.length cG2, .slice aG3 r3.length cG3, .slice aG4 r4.length cG4] 37)))
  clear JWF8_p5
  have Jx0_p5 := Lib.hid (Iv.mono Jx0_p4.out (belowA _ (.cells #[.int .i64 r0, .slice aG1 r1.length cG1, .slice aG2 r2.length cG2, .slice aG3 r3.length cG3, .slice aG4 r4.length cG4] 37)))
  clear Jx0_p4
  have Jx1_p3 := Lib.hid (Iv.mono Jx1''.out (belowA _ (.cells #[.int .i64 r0, .slice aG1 r1.length cG1, .slice aG2 r2.length cG2, .slice aG3 r3.length cG3, .slice aG4 r4.length cG4] 37)))
  clear Jx1''
  have JG' := Lib.hid (Iv.mono JG.out (belowA _ (.cells #[.int .i64 r0, .slice aG1 r1.length cG1, .slice aG2 r2.length cG2, .slice aG3 r3.length cG3, .slice aG4 r4.length cG4] 37)))
  clear JG
  clear qa00 qa01 qa10 qa11 qw0 qw1 qw2 qw3 qw4 qx00 qx01 qx10 qx11
  have qa00 := hQ15.cellAt 0 rfl 0 rfl
  have qa01 := hQ15.cellAt 0 rfl 1 rfl
  have qa10 := hQ15.cellAt 1 rfl 0 rfl
  have qa11 := hQ15.cellAt 1 rfl 1 rfl
  have qw0 := hQ15.cellAt 2 rfl 0 rfl
  have qw1 := hQ15.cellAt 2 rfl 1 rfl
  have qw2 := hQ15.cellAt 2 rfl 2 rfl
  have qw3 := hQ15.cellAt 2 rfl 3 rfl
  have qw4 := hQ15.cellAt 2 rfl 4 rfl
  have qx00 := hQ15.cellAt 3 rfl 0 rfl
  have qx01 := hQ15.cellAt 3 rfl 1 rfl
  have qx10 := hQ15.cellAt 4 rfl 0 rfl
  have qx11 := hQ15.cellAt 4 rfl 1 rfl
  have qg0 := hQ15.cellAt 5 rfl 0 rfl
  have qg1 := hQ15.cellAt 5 rfl 1 rfl
  have qg2 := hQ15.cellAt 5 rfl 2 rfl
  have qg3 := hQ15.cellAt 5 rfl 3 rfl
  have qg4 := hQ15.cellAt 5 rfl 4 rfl
  go_wp2_with fail
  refine (eqVerdict_s (r0, r1, r2, r3, r4) _ _ _ _ _ _ _ _ _ _ _ (Iv.rd JG'.out) (Iv.rd JWF8_p6.out)).mono ?_
  rintro e w9 ⟨rfl, hb9⟩
  have JWF8_p7 := Lib.hid (Iv.mono JWF8_p6.out hb9)
  clear JWF8_p6
  have Jx0_p6 := Lib.hid (Iv.mono Jx0_p5.out hb9)
  clear Jx0_p5
  have Jx1_p4 := Lib.hid (Iv.mono Jx1_p3.out hb9)
  clear Jx1_p3
  have JG'' := Lib.hid (Iv.mono JG'.out hb9)
  clear JG'
  have hQ16 := hQ15.step hb9
  have hz6 : w8.heap.size + 1 ≤ w9.heap.size := by simpa using hb9.size
  clear qa00 qa01 qa10 qa11 qw0 qw1 qw2 qw3 qw4 qx00 qx01 qx10 qx11 qg0 qg1 qg2 qg3 qg4
  have qa00 := hQ16.cellAt 0 rfl 0 rfl
  have qa01 := hQ16.cellAt 0 rfl 1 rfl
  have qa10 := hQ16.cellAt 1 rfl 0 rfl
  have qa11 := hQ16.cellAt 1 rfl 1 rfl
  have qw0 := hQ16.cellAt 2 rfl 0 rfl
  have qw1 := hQ16.cellAt 2 rfl 1 rfl
  have qw2 := hQ16.cellAt 2 rfl 2 rfl
  have qw3 := hQ16.cellAt 2 rfl 3 rfl
  have qw4 := hQ16.cellAt 2 rfl 4 rfl
  have qx00 := hQ16.cellAt 3 rfl 0 rfl
  have qx01 := hQ16.cellAt 3 rfl 1 rfl
  have qx10 := hQ16.cellAt 4 rfl 0 rfl
  have qx11 := hQ16.cellAt 4 rfl 1 rfl
  have qg0 := hQ16.cellAt 5 rfl 0 rfl
  have qg1 := hQ16.cellAt 5 rfl 1 rfl
  have qg2 := hQ16.cellAt 5 rfl 2 rfl
  have qg3 := hQ16.cellAt 5 rfl 3 rfl
  have qg4 := hQ16.cellAt 5 rfl 4 rfl
  have hcode : (code != code) = false := by simp
  go_wp2_with fail
  refine wp_region_noPanic (wp_region_el (fun w' => w'.cell? ⟨w.heap.size, 0, none⟩ = some (.int .i64 x00) ∧ w'.cell? ⟨w.heap.size, 1, none⟩ = some (.slice a01 x01.length c01) ∧ w'.cell? ⟨w.heap.size + 1, 0, none⟩ = some (.int .i64 x10) ∧ w'.cell? ⟨w.heap.size + 1, 1, none⟩ = some (.slice a11 x11.length c11) ∧ w'.cell? ⟨gUF8, 0, none⟩ = some (.int .i64 r0) ∧ w'.cell? ⟨gUF8, 1, none⟩ = some (.slice aW1 r1.length cW1) ∧ w'.cell? ⟨gUF8, 2, none⟩ = some (.slice aW2 r2.length cW2) ∧ w'.cell? ⟨gUF8, 3, none⟩ = some (.slice aW3 r3.length cW3) ∧ w'.cell? ⟨gUF8, 4, none⟩ = some (.slice aW4 r4.length cW4) ∧ w'.cell? ⟨w6.heap.size, 0, none⟩ = some (.int .i64 x00) ∧ w'.cell? ⟨w6.heap.size, 1, none⟩ = some (.slice ax01 x01.length cx01) ∧ w'.cell? ⟨w7.heap.size, 0, none⟩ = some (.int .i64 x10) ∧ w'.cell? ⟨w7.heap.size, 1, none⟩ = some (.slice ax11 x11.length cx11) ∧ w'.cell? ⟨w8.heap.size, 0, none⟩ = some (.int .i64 r0) ∧ w'.cell? ⟨w8.heap.size, 1, none⟩ = some (.slice aG1 r1.length cG1) ∧ w'.cell? ⟨w8.heap.size, 2, none⟩ = some (.slice aG2 r2.length cG2) ∧ w'.cell? ⟨w8.heap.size, 3, none⟩ = some (.slice aG3 r3.length cG3) ∧ w'.cell? ⟨w8.heap.size, 4, none⟩ = some (.slice aG4 r4.length cG4)) [(0, 0), (1, 0), (2, 1), (3, 1), (4, 0)] (by kernel_rfl) (by kernel_rfl) (by kernel_rfl) rfl ?_ (fun _ _ _ _ _ h => h) ?_)
  · exact ⟨(hQ16.drew).cellAt 0 rfl 0 rfl, (hQ16.drew).cellAt 0 rfl 1 rfl, (hQ16.drew).cellAt 1 rfl 0 rfl, (hQ16.drew).cellAt 1 rfl 1 rfl, (hQ16.drew).cellAt 2 rfl 0 rfl, (hQ16.drew).cellAt 2 rfl 1 rfl, (hQ16.drew).cellAt 2 rfl 2 rfl, (hQ16.drew).cellAt 2 rfl 3 rfl, (hQ16.drew).cellAt 2 rfl 4 rfl, (hQ16.drew).cellAt 3 rfl 0 rfl, (hQ16.drew).cellAt 3 rfl 1 rfl, (hQ16.drew).cellAt 4 rfl 0 rfl, (hQ16.drew).cellAt 4 rfl 1 rfl, (hQ16.drew).cellAt 5 rfl 0 rfl, (hQ16.drew).cellAt 5 rfl 1 rfl, (hQ16.drew).cellAt 5 rfl 2 rfl, (hQ16.drew).cellAt 5 rfl 3 rfl, (hQ16.drew).cellAt 5 rfl 4 rfl⟩
  have JWF8_p8 := Lib.hid (Iv.mono JWF8_p7.out (belowD _))
  clear JWF8_p7
  have Jx0_p7 := Lib.hid (Iv.mono Jx0_p6.out (belowD _))
  clear Jx0_p6
  have Jx1_p5 := Lib.hid (Iv.mono Jx1_p4.out (belowD _))
  clear Jx1_p4
  have JG_p3 := Lib.hid (Iv.mono JG''.out (belowD _))
  clear JG''
  have hQ17 := hQ16.drew
  (repeat (first | (apply el_skip rfl (by rfl); try simp only [Act.put, sI, sZ, sS]) | (apply el_float rfl (by rfl); (· (intro w' hS; go_simp <;> with_reducible rfl)); (try simp only [Act.put, sI, sZ, sS]))))
  refine el_hard rfl (by rfl) (fun K hK => ?_)
  go_wp2_with (go_at_call 12; refine (toTemplate_b (x00, x01) _ _ _ (Rd.mono H0.out hQ17.bel) gc0).mono ?_; rintro e w10 ⟨uy00, uy01, rfl, fry0, hb10⟩)
  have JWF8_p9 := Lib.hid (Iv.mono JWF8_p8.out hb10)
  clear JWF8_p8
  have Jx0_p8 := Lib.hid (Iv.mono Jx0_p7.out hb10)
  clear Jx0_p7
  have Jx1_p6 := Lib.hid (Iv.mono Jx1_p5.out hb10)
  clear Jx1_p5
  have JG_p4 := Lib.hid (Iv.mono JG_p3.out hb10)
  clear JG_p3
  have hQ18 := hQ17.step hb10
  have hz7 : w9.heap.size ≤ w10.heap.size := by simpa using hb10.size
  have Jy0 := Lib.hid (Fresh.iv fry0)
  have zy00 := rd_cons rfl (Iv.rd Jy0.out)
  obtain ⟨rfl, _⟩ := rd_i1 zy00.1
  obtain ⟨ay01, cy01, rfl, _⟩ := rd_list zy00.2
  clear zy00
  clear fry0
  refine ⟨⟨hQ18.cellAt 0 rfl 0 rfl, hQ18.cellAt 0 rfl 1 rfl, hQ18.cellAt 1 rfl 0 rfl, hQ18.cellAt 1 rfl 1 rfl, hQ18.cellAt 2 rfl 0 rfl, hQ18.cellAt 2 rfl 1 rfl, hQ18.cellAt 2 rfl 2 rfl, hQ18.cellAt 2 rfl 3 rfl, hQ18.cellAt 2 rfl 4 rfl, hQ18.cellAt 3 rfl 0 rfl, hQ18.cellAt 3 rfl 1 rfl, hQ18.cellAt 4 rfl 0 rfl, hQ18.cellAt 4 rfl 1 rfl, hQ18.cellAt 5 rfl 0 rfl, hQ18.cellAt 5 rfl 1 rfl, hQ18.cellAt 5 rfl 2 rfl, hQ18.cellAt 5 rfl 3 rfl, hQ18.cellAt 5 rfl 4 rfl⟩, ?_⟩
  (repeat (first | (apply el_skip rfl (by rfl); try simp only [Act.put, sI, sZ, sS]) | (apply el_float rfl (by rfl); (· (intro w' hS; go_simp <;> with_reducible rfl)); (try simp only [Act.put, sI, sZ, sS]))))
  refine el_hard rfl (by rfl) (fun K hK => ?_)
  go_wp2_with (go_at_call 17; refine (eqTemplate_s (x00, x01) _ _ _ _ _ (Iv.rd Jx0_p8.out) (Iv.rd Jy0.out)).mono ?_; rintro e w11 ⟨rfl, hb11⟩)
  clear Jy0
  have JWF8_p10 := Lib.hid (Iv.mono JWF8_p9.out hb11)
  clear JWF8_p9
  have Jx0_p9 := Lib.hid (Iv.mono Jx0_p8.out hb11)
  clear Jx0_p8
  have Jx1_p7 := Lib.hid (Iv.mono Jx1_p6.out hb11)
  clear Jx1_p6
  have JG_p5 := Lib.hid (Iv.mono JG_p4.out hb11)
  clear JG_p4
  have hQ19 := hQ18.step hb11
  have hz8 : w10.heap.size ≤ w11.heap.size := by simpa using hb11.size
  refine ⟨⟨hQ19.cellAt 0 rfl 0 rfl, hQ19.cellAt 0 rfl 1 rfl, hQ19.cellAt 1 rfl 0 rfl, hQ19.cellAt 1 rfl 1 rfl, hQ19.cellAt 2 rfl 0 rfl, hQ19.cellAt 2 rfl 1 rfl, hQ19.cellAt 2 rfl 2 rfl, hQ19.cellAt 2 rfl 3 rfl, hQ19.cellAt 2 rfl 4 rfl, hQ19.cellAt 3 rfl 0 rfl, hQ19.cellAt 3 rfl 1 rfl, hQ19.cellAt 4 rfl 0 rfl, hQ19.cellAt 4 rfl 1 rfl, hQ19.cellAt 5 rfl 0 rfl, hQ19.cellAt 5 rfl 1 rfl, hQ19.cellAt 5 rfl 2 rfl, hQ19.cellAt 5 rfl 3 rfl, hQ19.cellAt 5 rfl 4 rfl⟩, ?_⟩
  (repeat (first | (apply el_skip rfl (by rfl); try simp only [Act.put, sI, sZ, sS]) | (apply el_float rfl (by rfl); (· (intro w' hS; go_simp <;> with_reducible rfl)); (try simp only [Act.put, sI, sZ, sS]))))
  refine el_nil (NoPanic.normal ?_)
  clear qa00 qa01 qa10 qa11 qw0 qw1 qw2 qw3 qw4 qx00 qx01 qx10 qx11 qg0 qg1 qg2 qg3 qg4
  have qa00 := hQ19.cellAt 0 rfl 0 rfl
  have qa01 := hQ19.cellAt 0 rfl 1 rfl
  have qa10 := hQ19.cellAt 1 rfl 0 rfl
  have qa11 := hQ19.cellAt 1 rfl 1 rfl
  have qw0 := hQ19.cellAt 2 rfl 0 rfl
  have qw1 := hQ19.cellAt 2 rfl 1 rfl
  have qw2 := hQ19.cellAt 2 rfl 2 rfl
  have qw3 := hQ19.cellAt 2 rfl 3 rfl
  have qw4 := hQ19.cellAt 2 rfl 4 rfl
  have qx00 := hQ19.cellAt 3 rfl 0 rfl
  have qx01 := hQ19.cellAt 3 rfl 1 rfl
  have qx10 := hQ19.cellAt 4 rfl 0 rfl
  have qx11 := hQ19.cellAt 4 rfl 1 rfl
  have qg0 := hQ19.cellAt 5 rfl 0 rfl
  have qg1 := hQ19.cellAt 5 rfl 1 rfl
  have qg2 := hQ19.cellAt 5 rfl 2 rfl
  have qg3 := hQ19.cellAt 5 rfl 3 rfl
  have qg4 := hQ19.cellAt 5 rfl 4 rfl
  go_wp2_with fail
  refine wp_region_noPanic (wp_region_el (fun w' => w'.cell? ⟨w.heap.size, 0, none⟩ = some (.int .i64 x00) ∧ w'.cell? ⟨w.heap.size, 1, none⟩ = some (.slice a01 x01.length c01) ∧ w'.cell? ⟨w.heap.size + 1, 0, none⟩ = some (.int .i64 x10) ∧ w'.cell? ⟨w.heap.size + 1, 1, none⟩ = some (.slice a11 x11.length c11) ∧ w'.cell? ⟨gUF8, 0, none⟩ = some (.int .i64 r0) ∧ w'.cell? ⟨gUF8, 1, none⟩ = some (.slice aW1 r1.length cW1) ∧ w'.cell? ⟨gUF8, 2, none⟩ = some (.slice aW2 r2.length cW2) ∧ w'.cell? ⟨gUF8, 3, none⟩ = some (.slice aW3 r3.length cW3) ∧ w'.cell? ⟨gUF8, 4, none⟩ = some (.slice aW4 r4.length cW4) ∧ w'.cell? ⟨w6.heap.size, 0, none⟩ = some (.int .i64 x00) ∧ w'.cell? ⟨w6.heap.size, 1, none⟩ = some (.slice ax01 x01.length cx01) ∧ w'.cell? ⟨w7.heap.size, 0, none⟩ = some (.int .i64 x10) ∧ w'.cell? ⟨w7.heap.size, 1, none⟩ = some (.slice ax11 x11.length cx11) ∧ w'.cell? ⟨w8.heap.size, 0, none⟩ = some (.int .i64 r0) ∧ w'.cell? ⟨w8.heap.size, 1, none⟩ = some (.slice aG1 r1.length cG1) ∧ w'.cell? ⟨w8.heap.size, 2, none⟩ = some (.slice aG2 r2.length cG2) ∧ w'.cell? ⟨w8.heap.size, 3, none⟩ = some (.slice aG3 r3.length cG3) ∧ w'.cell? ⟨w8.heap.size, 4, none⟩ = some (.slice aG4 r4.length cG4)) [(0, 0), (1, 0), (2, 1), (3, 1), (4, 0)] (by kernel_rfl) (by kernel_rfl) (by kernel_rfl) rfl ?_ (fun _ _ _ _ _ h => h) ?_)
  · exact ⟨(hQ19.drew).cellAt 0 rfl 0 rfl, (hQ19.drew).cellAt 0 rfl 1 rfl, (hQ19.drew).cellAt 1 rfl 0 rfl, (hQ19.drew).cellAt 1 rfl 1 rfl, (hQ19.drew).cellAt 2 rfl 0 rfl, (hQ19.drew).cellAt 2 rfl 1 rfl, (hQ19.drew).cellAt 2 rfl 2 rfl, (hQ19.drew).cellAt 2 rfl 3 rfl, (hQ19.drew).cellAt 2 rfl 4 rfl, (hQ19.drew).cellAt 3 rfl 0 rfl, (hQ19.drew).cellAt 3 rfl 1 rfl, (hQ19.drew).cellAt 4 rfl 0 rfl, (hQ19.drew).cellAt 4 rfl 1 rfl, (hQ19.drew).cellAt 5 rfl 0 rfl, (hQ19.drew).cellAt 5 rfl 1 rfl, (hQ19.drew).cellAt 5 rfl 2 rfl, (hQ19.drew).cellAt 5 rfl 3 rfl, (hQ19.drew).cellAt 5 rfl 4 rfl⟩
  have JWF8_p11 := Lib.hid (Iv.mono JWF8_p10.out (belowD _))
  clear JWF8_p10
  have Jx0_p10 := Lib.hid (Iv.mono Jx0_p9.out (belowD _))
  clear Jx0_p9
  have Jx1_p8 := Lib.hid (Iv.mono Jx1_p7.out (belowD _))
  clear Jx1_p7
  have JG_p6 := Lib.hid (Iv.mono JG_p5.out (belowD _))
  clear JG_p5
  have hQ20 := hQ19.drew
  (repeat (first | (apply el_skip rfl (by rfl); try simp only [Act.put, sI, sZ, sS]) | (apply el_float rfl (by rfl); (· (intro w' hS; go_simp <;> with_reducible rfl)); (try simp only [Act.put, sI, sZ, sS]))))
  refine el_hard rfl (by rfl) (fun K hK => ?_)
  go_wp2_with (go_at_call 13; refine (toInstance_b (x10, x11) _ _ _ (Rd.mono H1.out hQ20.bel) gc1).mono ?_; rintro e w12 ⟨uy10, uy11, rfl, fry1, hb12⟩)
  have JWF8_p12 := Lib.hid (Iv.mono JWF8_p11.out hb12)
  clear JWF8_p11
  have Jx0_p11 := Lib.hid (Iv.mono Jx0_p10.out hb12)
  clear Jx0_p10
  have Jx1_p9 := Lib.hid (Iv.mono Jx1_p8.out hb12)
  clear Jx1_p8
  have JG_p7 := Lib.hid (Iv.mono JG_p6.out hb12)
  clear JG_p6
  have hQ21 := hQ20.step hb12
  have hz9 : w11.heap.size ≤ w12.heap.size := by simpa using hb12.size
  have Jy1 := Lib.hid (Fresh.iv fry1)
  have zy10 := rd_cons rfl (Iv.rd Jy1.out)
  obtain ⟨rfl, _⟩ := rd_i1 zy10.1
  obtain ⟨ay11, cy11, rfl, _⟩ := rd_list zy10.2
  clear zy10
  clear fry1
  refine ⟨⟨hQ21.cellAt 0 rfl 0 rfl, hQ21.cellAt 0 rfl 1 rfl, hQ21.cellAt 1 rfl 0 rfl, hQ21.cellAt 1 rfl 1 rfl, hQ21.cellAt 2 rfl 0 rfl, hQ21.cellAt 2 rfl 1 rfl, hQ21.cellAt 2 rfl 2 rfl, hQ21.cellAt 2 rfl 3 rfl, hQ21.cellAt 2 rfl 4 rfl, hQ21.cellAt 3 rfl 0 rfl, hQ21.cellAt 3 rfl 1 rfl, hQ21.cellAt 4 rfl 0 rfl, hQ21.cellAt 4 rfl 1 rfl, hQ21.cellAt 5 rfl 0 rfl, hQ21.cellAt 5 rfl 1 rfl, hQ21.cellAt 5 rfl 2 rfl, hQ21.cellAt 5 rfl 3 rfl, hQ21.cellAt 5 rfl 4 rfl⟩, ?_⟩
  (repeat (first | (apply el_skip rfl (by rfl); try simp only [Act.put, sI, sZ, sS]) | (apply el_float rfl (by rfl); (· (intro w' hS; go_simp <;> with_reducible rfl)); (try simp only [Act.put, sI, sZ, sS]))))
  refine el_hard rfl (by rfl) (fun K hK => ?_)
  go_wp2_with (go_at_call 18; refine (eqInstance_s (x10, x11) _ _ _ _ _ (Iv.rd Jx1_p9.out) (Iv.rd Jy1.out)).mono ?_; rintro e w13 ⟨rfl, hb13⟩)
  clear Jy1
  have JWF8_p13 := Lib.hid (Iv.mono JWF8_p12.out hb13)
  clear JWF8_p12
  have Jx0_p12 := Lib.hid (Iv.mono Jx0_p11.out hb13)
  clear Jx0_p11
  have Jx1_p10 := Lib.hid (Iv.mono Jx1_p9.out hb13)
  clear Jx1_p9
  have JG_p8 := Lib.hid (Iv.mono JG_p7.out hb13)
  clear JG_p7
  have hQ22 := hQ21.step hb13
  have hz10 : w12.heap.size ≤ w13.heap.size := by simpa using hb13.size
  refine ⟨⟨hQ22.cellAt 0 rfl 0 rfl, hQ22.cellAt 0 rfl 1 rfl, hQ22.cellAt 1 rfl 0 rfl, hQ22.cellAt 1 rfl 1 rfl, hQ22.cellAt 2 rfl 0 rfl, hQ22.cellAt 2 rfl 1 rfl, hQ22.cellAt 2 rfl 2 rfl, hQ22.cellAt 2 rfl 3 rfl, hQ22.cellAt 2 rfl 4 rfl, hQ22.cellAt 3 rfl 0 rfl, hQ22.cellAt 3 rfl 1 rfl, hQ22.cellAt 4 rfl 0 rfl, hQ22.cellAt 4 rfl 1 rfl, hQ22.cellAt 5 rfl 0 rfl, hQ22.cellAt 5 rfl 1 rfl, hQ22.cellAt 5 rfl 2 rfl, hQ22.cellAt 5 rfl 3 rfl, hQ22.cellAt 5 rfl 4 rfl⟩, ?_⟩
  (repeat (first | (apply el_skip rfl (by rfl); try simp only [Act.put, sI, sZ, sS]) | (apply el_float rfl (by rfl); (· (intro w' hS; go_simp <;> with_reducible rfl)); (try simp only [Act.put, sI, sZ, sS]))))
  refine el_nil (NoPanic.normal ?_)
  clear qa00 qa01 qa10 qa11 qw0 qw1 qw2 qw3 qw4 qx00 qx01 qx10 qx11 qg0 qg1 qg2 qg3 qg4
  have qa00 := hQ22.cellAt 0 rfl 0 rfl
  have qa01 := hQ22.cellAt 0 rfl 1 rfl
  have qa10 := hQ22.cellAt 1 rfl 0 rfl
  have qa11 := hQ22.cellAt 1 rfl 1 rfl
  have qw0 := hQ22.cellAt 2 rfl 0 rfl
  have qw1 := hQ22.cellAt 2 rfl 1 rfl
  have qw2 := hQ22.cellAt 2 rfl 2 rfl
  have qw3 := hQ22.cellAt 2 rfl 3 rfl
  have qw4 := hQ22.cellAt 2 rfl 4 rfl
  have qx00 := hQ22.cellAt 3 rfl 0 rfl
  have qx01 := hQ22.cellAt 3 rfl 1 rfl
  have qx10 := hQ22.cellAt 4 rfl 0 rfl
  have qx11 := hQ22.cellAt 4 rfl 1 rfl
  have qg0 := hQ22.cellAt 5 rfl 0 rfl
  have qg1 := hQ22.cellAt 5 rfl 1 rfl
  have qg2 := hQ22.cellAt 5 rfl 2 rfl
  have qg3 := hQ22.cellAt 5 rfl 3 rfl
  have qg4 := hQ22.cellAt 5 rfl 4 rfl
  have mcb0 := mcb_Template (x00, x01)
  obtain ⟨psx0, hox0, hnx0, hpx0⟩ := Jx0_p12.out
  have HOx0 := Lib.hid hox0
  clear hox0
  clear Jx0_p12
  go_wp2_with fail
  refine (markTemplate_g (x00, x01) _ _ psx0 1 _ HOx0.out hnx0 (by omega) (by omega)).mono ?_
  rintro e w14 ⟨yx0, mx0, rfl, l0x0, l1x0, hyx0, hhx0, hbutx0⟩
  have HYx0 := Lib.hid hyx0
  have HHx0 := Lib.hid hhx0
  clear hyx0 hhx0 HOx0
  have hqx0 : ∀ k, k ∈ psx0 → wUF8.heap.size ≤ k ∧ k < w6.heap.size := fun k hk => by have := hpx0 k hk; simpa using this
  have JWF8_p14 := Lib.hid (Iv.but JWF8_p13.out hbutx0 (fun k hk => by have := hqx0 k hk; simp; omega))
  clear JWF8_p13
  have Jx1_p11 := Lib.hid (Iv.but Jx1_p10.out hbutx0 (fun k hk => by have := hqx0 k hk; simp; omega))
  clear Jx1_p10
  have JG_p9 := Lib.hid (Iv.but JG_p8.out hbutx0 (fun k hk => by have := hqx0 k hk; simp; omega))
  clear JG_p8
  have hQ23 := hQ22.butIv hbutx0 (fun k hk => by have := hqx0 k hk; omega) (fun x hx hp => by
    have := hqx0 _ hp
    simp only [List.mem_append, List.mem_cons, List.mem_nil_iff, or_false, List.not_mem_nil, false_or, or_assoc] at hx
    rcases hx with rfl | rfl | rfl | rfl | rfl | rfl <;> (simp only at this; omega))
  have hz11 : w13.heap.size ≤ w14.heap.size := by simpa using hbutx0.size
  clear qa00 qa01 qa10 qa11 qw0 qw1 qw2 qw3 qw4 qx00 qx01 qx10 qx11 qg0 qg1 qg2 qg3 qg4
  have qa00 := hQ23.cellAt 0 rfl 0 rfl
  have qa01 := hQ23.cellAt 0 rfl 1 rfl
  have qa10 := hQ23.cellAt 1 rfl 0 rfl
  have qa11 := hQ23.cellAt 1 rfl 1 rfl
  have qw0 := hQ23.cellAt 2 rfl 0 rfl
  have qw1 := hQ23.cellAt 2 rfl 1 rfl
  have qw2 := hQ23.cellAt 2 rfl 2 rfl
  have qw3 := hQ23.cellAt 2 rfl 3 rfl
  have qw4 := hQ23.cellAt 2 rfl 4 rfl
  have qx00 := hQ23.cellAt 3 rfl 0 rfl
  have qx01 := hQ23.cellAt 3 rfl 1 rfl
  have qx10 := hQ23.cellAt 4 rfl 0 rfl
  have qx11 := hQ23.cellAt 4 rfl 1 rfl
  have qg0 := hQ23.cellAt 5 rfl 0 rfl
  have qg1 := hQ23.cellAt 5 rfl 1 rfl
  have qg2 := hQ23.cellAt 5 rfl 2 rfl
  have qg3 := hQ23.cellAt 5 rfl 3 rfl
  have qg4 := hQ23.cellAt 5 rfl 4 rfl
  have mcb1 := mcb_Instance (x10, x11)
  obtain ⟨psx1, hox1, hnx1, hpx1⟩ := Jx1_p11.out
  have HOx1 := Lib.hid hox1
  clear hox1
  clear Jx1_p11
  go_wp2_with fail
  refine (markInstance_g (x10, x11) _ _ psx1 mx0 _ HOx1.out hnx1 (by omega) (by omega)).mono ?_
  rintro e w15 ⟨yx1, mx1, rfl, l0x1, l1x1, hyx1, hhx1, hbutx1⟩
  have HYx1 := Lib.hid hyx1
  have HHx1 := Lib.hid hhx1
  clear hyx1 hhx1 HOx1
  have hqx1 : ∀ k, k ∈ psx1 → w6.heap.size + 1 ≤ k ∧ k < w7.heap.size := fun k hk => by have := hpx1 k hk; simpa using this
  have JWF8_p15 := Lib.hid (Iv.but JWF8_p14.out hbutx1 (fun k hk => by have := hqx1 k hk; simp; omega))
  clear JWF8_p14
  have JG_p10 := Lib.hid (Iv.but JG_p9.out hbutx1 (fun k hk => by have := hqx1 k hk; simp; omega))
  clear JG_p9
  have hQ24 := hQ23.butIv hbutx1 (fun k hk => by have := hqx1 k hk; omega) (fun x hx hp => by
    have := hqx1 _ hp
    simp only [List.mem_append, List.mem_cons, List.mem_nil_iff, or_false, List.not_mem_nil, false_or, or_assoc] at hx
    rcases hx with rfl | rfl | rfl | rfl | rfl | rfl <;> (simp only at this; omega))
  have hz12 : w14.heap.size ≤ w15.heap.size := by simpa using hbutx1.size
  clear qa00 qa01 qa10 qa11 qw0 qw1 qw2 qw3 qw4 qx00 qx01 qx10 qx11 qg0 qg1 qg2 qg3 qg4
  have qa00 := hQ24.cellAt 0 rfl 0 rfl
  have qa01 := hQ24.cellAt 0 rfl 1 rfl
  have qa10 := hQ24.cellAt 1 rfl 0 rfl
  have qa11 := hQ24.cellAt 1 rfl 1 rfl
  have qw0 := hQ24.cellAt 2 rfl 0 rfl
  have qw1 := hQ24.cellAt 2 rfl 1 rfl
  have qw2 := hQ24.cellAt 2 rfl 2 rfl
  have qw3 := hQ24.cellAt 2 rfl 3 rfl
  have qw4 := hQ24.cellAt 2 rfl 4 rfl
  have qx00 := hQ24.cellAt 3 rfl 0 rfl
  have qx01 := hQ24.cellAt 3 rfl 1 rfl
  have qx10 := hQ24.cellAt 4 rfl 0 rfl
  have qx11 := hQ24.cellAt 4 rfl 1 rfl
  have qg0 := hQ24.cellAt 5 rfl 0 rfl
  have qg1 := hQ24.cellAt 5 rfl 1 rfl
  have qg2 := hQ24.cellAt 5 rfl 2 rfl
  have qg3 := hQ24.cellAt 5 rfl 3 rfl
  have qg4 := hQ24.cellAt 5 rfl 4 rfl
  go_wp2_with fail
  refine (eqVerdict_s (r0, r1, r2, r3, r4) _ _ _ _ _ _ _ _ _ _ _ (Iv.rd JG_p10.out) (Iv.rd JWF8_p15.out)).mono ?_
  rintro e w16 ⟨rfl, hb16⟩
  have JWF8_p16 := Lib.hid (Iv.mono JWF8_p15.out hb16)
  clear JWF8_p15
  have JG_p11 := Lib.hid (Iv.mono JG_p10.out hb16)
  clear JG_p10
  have hQ25 := hQ24.step hb16
  have hz13 : w15.heap.size ≤ w16.heap.size := by simpa using hb16.size
  clear qa00 qa01 qa10 qa11 qw0 qw1 qw2 qw3 qw4 qx00 qx01 qx10 qx11 qg0 qg1 qg2 qg3 qg4
  have qa00 := hQ25.cellAt 0 rfl 0 rfl
  have qa01 := hQ25.cellAt 0 rfl 1 rfl
  have qa10 := hQ25.cellAt 1 rfl 0 rfl
  have qa11 := hQ25.cellAt 1 rfl 1 rfl
  have qw0 := hQ25.cellAt 2 rfl 0 rfl
  have qw1 := hQ25.cellAt 2 rfl 1 rfl
  have qw2 := hQ25.cellAt 2 rfl 2 rfl
  have qw3 := hQ25.cellAt 2 rfl 3 rfl
  have qw4 := hQ25.cellAt 2 rfl 4 rfl
  have qx00 := hQ25.cellAt 3 rfl 0 rfl
  have qx01 := hQ25.cellAt 3 rfl 1 rfl
  have qx10 := hQ25.cellAt 4 rfl 0 rfl
  have qx11 := hQ25.cellAt 4 rfl 1 rfl
  have qg0 := hQ25.cellAt 5 rfl 0 rfl
  have qg1 := hQ25.cellAt 5 rfl 1 rfl
  have qg2 := hQ25.cellAt 5 rfl 2 rfl
  have qg3 := hQ25.cellAt 5 rfl 3 rfl
  have qg4 := hQ25.cellAt 5 rfl 4 rfl
  obtain ⟨psG, hoG, hnG, hpG⟩ := JG_p11.out
  have HOG := Lib.hid hoG
  clear hoG
  clear JG_p11
  go_wp2_with fail
  refine (markVerdict_g (r0, r1, r2, r3, r4) _ _ _ _ _ psG 1 _ HOG.out hnG (by omega) (by omega)).mono ?_
  rintro e w17 ⟨yG, mG, rfl, l0G, l1G, hyG, hhG, hbutG⟩
  have HYG := Lib.hid hyG
  have HHG := Lib.hid hhG
  clear hyG hhG HOG
  have hqG : ∀ k, k ∈ psG → w7.heap.size + 1 ≤ k ∧ k < w8.heap.size := fun k hk => by have := hpG k hk; simpa using this
  have JWF8_p17 := Lib.hid (Iv.but JWF8_p16.out hbutG (fun k hk => by have := hqG k hk; simp; omega))
  clear JWF8_p16
  have hQ26 := hQ25.butIv hbutG (fun k hk => by have := hqG k hk; omega) (fun x hx hp => by
    have := hqG _ hp
    simp only [List.mem_append, List.mem_cons, List.mem_nil_iff, or_false, List.not_mem_nil, false_or, or_assoc] at hx
    rcases hx with rfl | rfl | rfl | rfl | rfl | rfl <;> (simp only at this; omega))
  have hz14 : w16.heap.size ≤ w17.heap.size := by simpa using hbutG.size
  clear qa00 qa01 qa10 qa11 qw0 qw1 qw2 qw3 qw4 qx00 qx01 qx10 qx11 qg0 qg1 qg2 qg3 qg4
  have qa00 := hQ26.cellAt 0 rfl 0 rfl
  have qa01 := hQ26.cellAt 0 rfl 1 rfl
  have qa10 := hQ26.cellAt 1 rfl 0 rfl
  have qa11 := hQ26.cellAt 1 rfl 1 rfl
  have qw0 := hQ26.cellAt 2 rfl 0 rfl
  have qw1 := hQ26.cellAt 2 rfl 1 rfl
  have qw2 := hQ26.cellAt 2 rfl 2 rfl
  have qw3 := hQ26.cellAt 2 rfl 3 rfl
  have qw4 := hQ26.cellAt 2 rfl 4 rfl
  have qx00 := hQ26.cellAt 3 rfl 0 rfl
  have qx01 := hQ26.cellAt 3 rfl 1 rfl
  have qx10 := hQ26.cellAt 4 rfl 0 rfl
  have qx11 := hQ26.cellAt 4 rfl 1 rfl
  have qg0 := hQ26.cellAt 5 rfl 0 rfl
  have qg1 := hQ26.cellAt 5 rfl 1 rfl
  have qg2 := hQ26.cellAt 5 rfl 2 rfl
  have qg3 := hQ26.cellAt 5 rfl 3 rfl
  have qg4 := hQ26.cellAt 5 rfl 4 rfl
  have HYr18 := Lib.hid (Own.rd HYG.out)
  go_wp2_with fail
  refine (heldVerdict_g yG _ _ _ _ _ 1 mG _ HYr18.out HHG.out (by omega) (by omega) (by omega)).mono ?_
  rintro e w18 ⟨rfl, hb18⟩
  have HYG' := Lib.hid (Own.mono HYG.out hb18)
  clear HYG HYr18
  have HYG := HYG'
  clear HYG'
  have JWF8_p18 := Lib.hid (Iv.mono JWF8_p17.out hb18)
  clear JWF8_p17
  have hQ27 := hQ26.step hb18
  have hz15 : w17.heap.size ≤ w18.heap.size := by simpa using hb18.size
  clear qa00 qa01 qa10 qa11 qw0 qw1 qw2 qw3 qw4 qx00 qx01 qx10 qx11 qg0 qg1 qg2 qg3 qg4
  have qa00 := hQ27.cellAt 0 rfl 0 rfl
  have qa01 := hQ27.cellAt 0 rfl 1 rfl
  have qa10 := hQ27.cellAt 1 rfl 0 rfl
  have qa11 := hQ27.cellAt 1 rfl 1 rfl
  have qw0 := hQ27.cellAt 2 rfl 0 rfl
  have qw1 := hQ27.cellAt 2 rfl 1 rfl
  have qw2 := hQ27.cellAt 2 rfl 2 rfl
  have qw3 := hQ27.cellAt 2 rfl 3 rfl
  have qw4 := hQ27.cellAt 2 rfl 4 rfl
  have qx00 := hQ27.cellAt 3 rfl 0 rfl
  have qx01 := hQ27.cellAt 3 rfl 1 rfl
  have qx10 := hQ27.cellAt 4 rfl 0 rfl
  have qx11 := hQ27.cellAt 4 rfl 1 rfl
  have qg0 := hQ27.cellAt 5 rfl 0 rfl
  have qg1 := hQ27.cellAt 5 rfl 1 rfl
  have qg2 := hQ27.cellAt 5 rfl 2 rfl
  have qg3 := hQ27.cellAt 5 rfl 3 rfl
  have qg4 := hQ27.cellAt 5 rfl 4 rfl
  have hmm : (mG != mG) = false := by simp
  have hm0 : ¬ mG < 0 := by omega
  go_upto_region 31 with fail
  refine wp_region_noPanic (wp_region_tree4 (fun w' => w'.cell? ⟨w.heap.size, 0, none⟩ = some (.int .i64 x00) ∧ w'.cell? ⟨w.heap.size, 1, none⟩ = some (.slice a01 x01.length c01) ∧ w'.cell? ⟨w.heap.size + 1, 0, none⟩ = some (.int .i64 x10) ∧ w'.cell? ⟨w.heap.size + 1, 1, none⟩ = some (.slice a11 x11.length c11) ∧ w'.cell? ⟨gUF8, 0, none⟩ = some (.int .i64 r0) ∧ w'.cell? ⟨gUF8, 1, none⟩ = some (.slice aW1 r1.length cW1) ∧ w'.cell? ⟨gUF8, 2, none⟩ = some (.slice aW2 r2.length cW2) ∧ w'.cell? ⟨gUF8, 3, none⟩ = some (.slice aW3 r3.length cW3) ∧ w'.cell? ⟨gUF8, 4, none⟩ = some (.slice aW4 r4.length cW4) ∧ w'.cell? ⟨w6.heap.size, 0, none⟩ = some (.int .i64 x00) ∧ w'.cell? ⟨w6.heap.size, 1, none⟩ = some (.slice ax01 x01.length cx01) ∧ w'.cell? ⟨w7.heap.size, 0, none⟩ = some (.int .i64 x10) ∧ w'.cell? ⟨w7.heap.size, 1, none⟩ = some (.slice ax11 x11.length cx11) ∧ w'.cell? ⟨w8.heap.size, 0, none⟩ = some (.int .i64 r0) ∧ w'.cell? ⟨w8.heap.size, 1, none⟩ = some (.slice aG1 r1.length cG1) ∧ w'.cell? ⟨w8.heap.size, 2, none⟩ = some (.slice aG2 r2.length cG2) ∧ w'.cell? ⟨w8.heap.size, 3, none⟩ = some (.slice aG3 r3.length cG3) ∧ w'.cell? ⟨w8.heap.size, 4, none⟩ = some (.slice aG4 r4.length cG4)) (.float 0 (.float 2 (.fork2 1 (.fork2 3 (.fork2 4 (.float 5 (.float 6 (.float 7 (.hard 8 (.hard 9 (.float 10 .nil)))))) 8 (.hard 4 (.float 5 (.float 6 (.float 7 (.hard 9 (.float 10 .nil))))))) 8 (.hard 3 (.hard 4 (.float 5 (.float 6 (.float 7 (.hard 9 (.float 10 .nil)))))))) 8 (.hard 1 (.hard 3 (.hard 4 (.float 5 (.float 6 (.float 7 (.hard 9 (.float 10 .nil))))))))))) (by kernel_rfl) (by kernel_rfl) (by kernel_rfl) rfl ?_ (fun _ _ _ _ _ h => h) ?_)
  · exact ⟨(hQ27.drew).cellAt 0 rfl 0 rfl, (hQ27.drew).cellAt 0 rfl 1 rfl, (hQ27.drew).cellAt 1 rfl 0 rfl, (hQ27.drew).cellAt 1 rfl 1 rfl, (hQ27.drew).cellAt 2 rfl 0 rfl, (hQ27.drew).cellAt 2 rfl 1 rfl, (hQ27.drew).cellAt 2 rfl 2 rfl, (hQ27.drew).cellAt 2 rfl 3 rfl, (hQ27.drew).cellAt 2 rfl 4 rfl, (hQ27.drew).cellAt 3 rfl 0 rfl, (hQ27.drew).cellAt 3 rfl 1 rfl, (hQ27.drew).cellAt 4 rfl 0 rfl, (hQ27.drew).cellAt 4 rfl 1 rfl, (hQ27.drew).cellAt 5 rfl 0 rfl, (hQ27.drew).cellAt 5 rfl 1 rfl, (hQ27.drew).cellAt 5 rfl 2 rfl, (hQ27.drew).cellAt 5 rfl 3 rfl, (hQ27.drew).cellAt 5 rfl 4 rfl⟩
  have JWF8_p19 := Lib.hid (Iv.mono JWF8_p18.out (belowD _))
  clear JWF8_p18
  have HYG' := Lib.hid (Own.mono HYG.out (belowD _))
  clear HYG
  have HYG := HYG'
  clear HYG'
  have hQ28 := hQ27.drew
  clear qa00 qa01 qa10 qa11 qw0 qw1 qw2 qw3 qw4 qx00 qx01 qx10 qx11 qg0 qg1 qg2 qg3 qg4
  have hzF31 : w18.heap.size ≤ (w18.drew).heap.size := by simp
  generalize hgenF31 : w18.drew = wF31 at *
  have HGF31 := Lib.hid hgenF31
  clear hgenF31
  (repeat (first | (apply t4_skip rfl (by rfl); try simp only [Act.put, sI, sZ, sS]) | (apply t4_float rfl (by rfl); (· (intro w' hS; go_simp <;> with_reducible rfl)); (try simp only [Act.put, sI, sZ, sS]))))
  apply mp_cut
  · intro HJ
    refine t4_fork2 ?_ ?_
    · refine t4_hard rfl (by rfl) (fun K hK => ?_)
      go_wp2_with (go_at_call 12; refine (toTemplate_b (x00, x01) _ _ _ (Rd.mono H0.out hQ28.bel) gc0).mono ?_; rintro e w19 ⟨ut00, ut01, rfl, frt0, hb19⟩)
      have JWF8_p20 := Lib.hid (Iv.mono JWF8_p19.out hb19)
      try clear JWF8_p19
      have hQ29 := hQ28.step hb19
      have hz16 : wF31.heap.size ≤ w19.heap.size := by simpa using hb19.size
      have Jt0 := Lib.hid (Fresh.iv frt0)
      have zt00 := rd_cons rfl (Iv.rd Jt0.out)
      obtain ⟨rfl, _⟩ := rd_i1 zt00.1
      obtain ⟨at01, ct01, rfl, _⟩ := rd_list zt00.2
      clear zt00
      clear frt0
      refine ⟨⟨hQ29.cellAt 0 rfl 0 rfl, hQ29.cellAt 0 rfl 1 rfl, hQ29.cellAt 1 rfl 0 rfl, hQ29.cellAt 1 rfl 1 rfl, hQ29.cellAt 2 rfl 0 rfl, hQ29.cellAt 2 rfl 1 rfl, hQ29.cellAt 2 rfl 2 rfl, hQ29.cellAt 2 rfl 3 rfl, hQ29.cellAt 2 rfl 4 rfl, hQ29.cellAt 3 rfl 0 rfl, hQ29.cellAt 3 rfl 1 rfl, hQ29.cellAt 4 rfl 0 rfl, hQ29.cellAt 4 rfl 1 rfl, hQ29.cellAt 5 rfl 0 rfl, hQ29.cellAt 5 rfl 1 rfl, hQ29.cellAt 5 rfl 2 rfl, hQ29.cellAt 5 rfl 3 rfl, hQ29.cellAt 5 rfl 4 rfl⟩, ?_⟩
      (repeat (first | (apply t4_skip rfl (by rfl); try simp only [Act.put, sI, sZ, sS]) | (apply t4_float rfl (by rfl); (· (intro w' hS; go_simp <;> with_reducible rfl)); (try simp only [Act.put, sI, sZ, sS]))))
      have HYG' := Lib.hid (Own.mono HYG.out hb19)
      try clear HYG
      have HYG := HYG'
      clear HYG'
      refine t4_fork2 ?_ ?_
      · refine t4_hard rfl (by rfl) (fun K hK => ?_)
        go_wp2_with (go_at_call 13; refine (toInstance_b (x10, x11) _ _ _ (Rd.mono H1.out hQ29.bel) gc1).mono ?_; rintro e w20 ⟨ut10, ut11, rfl, frt1, hb20⟩)
        have JWF8_p21 := Lib.hid (Iv.mono JWF8_p20.out hb20)
        try clear JWF8_p20
        have Jt0' := Lib.hid (Iv.mono Jt0.out hb20)
        try clear Jt0
        have hQ30 := hQ29.step hb20
        have hz17 : w19.heap.size ≤ w20.heap.size := by simpa using hb20.size
        have Jt1 := Lib.hid (Fresh.iv frt1)
        have zt10 := rd_cons rfl (Iv.rd Jt1.out)
        obtain ⟨rfl, _⟩ := rd_i1 zt10.1
        obtain ⟨at11, ct11, rfl, _⟩ := rd_list zt10.2
        clear zt10
        clear frt1
        refine ⟨⟨hQ30.cellAt 0 rfl 0 rfl, hQ30.cellAt 0 rfl 1 rfl, hQ30.cellAt 1 rfl 0 rfl, hQ30.cellAt 1 rfl 1 rfl, hQ30.cellAt 2 rfl 0 rfl, hQ30.cellAt 2 rfl 1 rfl, hQ30.cellAt 2 rfl 2 rfl, hQ30.cellAt 2 rfl 3 rfl, hQ30.cellAt 2 rfl 4 rfl, hQ30.cellAt 3 rfl 0 rfl, hQ30.cellAt 3 rfl 1 rfl, hQ30.cellAt 4 rfl 0 rfl, hQ30.cellAt 4 rfl 1 rfl, hQ30.cellAt 5 rfl 0 rfl, hQ30.cellAt 5 rfl 1 rfl, hQ30.cellAt 5 rfl 2 rfl, hQ30.cellAt 5 rfl 3 rfl, hQ30.cellAt 5 rfl 4 rfl⟩, ?_⟩
        (repeat (first | (apply t4_skip rfl (by rfl); try simp only [Act.put, sI, sZ, sS]) | (apply t4_float rfl (by rfl); (· (intro w' hS; go_simp <;> with_reducible rfl)); (try simp only [Act.put, sI, sZ, sS]))))
        have HYG' := Lib.hid (Own.mono HYG.out hb20)
        try clear HYG
        have HYG := HYG'
        clear HYG'
        refine t4_fork2 ?_ ?_
        · refine t4_hard rfl (by rfl) (fun K hK => ?_)
          go_wp2_with (go_at_call 31; refine (CI.out _ _ _ _ _ (Iv.rd Jt0'.out) (Iv.rd Jt1.out)).mono ?_; rintro e w21 ⟨uK0, uK1, uK2, uK3, uK4, rfl, frK, hb21⟩)
          have JWF8_p22 := Lib.hid (Iv.mono JWF8_p21.out hb21)
          try clear JWF8_p21
          have Jt0'' := Lib.hid (Iv.mono Jt0'.out hb21)
          try clear Jt0'
          have Jt1' := Lib.hid (Iv.mono Jt1.out hb21)
          try clear Jt1
          have hQ31 := hQ30.step hb21
          have hz18 : w20.heap.size ≤ w21.heap.size := by simpa using hb21.size
          have JK := Lib.hid (Fresh.iv frK)
          have zK0 := rd_cons rfl (Iv.rd JK.out)
          obtain ⟨rfl, _⟩ := rd_i1 zK0.1
          have zK1 := rd_cons rfl zK0.2
          obtain ⟨aK1, cK1, rfl, _⟩ := rd_list zK1.1
          have zK2 := rd_cons rfl zK1.2
          obtain ⟨aK2, cK2, rfl, _⟩ := rd_list zK2.1
          have zK3 := rd_cons rfl zK2.2
          obtain ⟨aK3, cK3, rfl, _⟩ := rd_list zK3.1
          obtain ⟨aK4, cK4, rfl, _⟩ := rd_list zK3.2
          clear zK0 zK1 zK2 zK3
          clear frK
          have HYG' := Lib.hid (Own.mono HYG.out hb21)
          try clear HYG
          have HYG := HYG'
          clear HYG'
          try clear Jt0''
          try clear Jt1'
          refine ⟨⟨hQ31.cellAt 0 rfl 0 rfl, hQ31.cellAt 0 rfl 1 rfl, hQ31.cellAt 1 rfl 0 rfl, hQ31.cellAt 1 rfl 1 rfl, hQ31.cellAt 2 rfl 0 rfl, hQ31.cellAt 2 rfl 1 rfl, hQ31.cellAt 2 rfl 2 rfl, hQ31.cellAt 2 rfl 3 rfl, hQ31.cellAt 2 rfl 4 rfl, hQ31.cellAt 3 rfl 0 rfl, hQ31.cellAt 3 rfl 1 rfl, hQ31.cellAt 4 rfl 0 rfl, hQ31.cellAt 4 rfl 1 rfl, hQ31.cellAt 5 rfl 0 rfl, hQ31.cellAt 5 rfl 1 rfl, hQ31.cellAt 5 rfl 2 rfl, hQ31.cellAt 5 rfl 3 rfl, hQ31.cellAt 5 rfl 4 rfl⟩, ?_⟩
          (repeat (first | (apply t4_skip rfl (by rfl); try simp only [Act.put, sI, sZ, sS]) | (apply t4_float rfl (by rfl); (· (intro w' hS; go_simp <;> with_reducible rfl)); (try simp only [Act.put, sI, sZ, sS]))))
          refine t4_hard rfl (by rfl) (fun K hK => ?_)
          go_wp2_with fail
          have hQ32 := hQ31.alloc #[.int .i64 0, .slice none 0 0, .slice none 0 0, .slice none 0 0, .slice none 0 0] 37 rfl
          have JWF8_p23 := Lib.hid (Iv.mono JWF8_p22.out (belowA _ (.cells #[.int .i64 0, .slice none 0 0, .slice none 0 0, .slice none 0 0, .slice none 0 0] 37)))
          try clear JWF8_p22
          have JK' := Lib.hid (Iv.mono JK.out (belowA _ (.cells #[.int .i64 0, .slice none 0 0, .slice none 0 0, .slice none 0 0, .slice none 0 0] 37)))
          try clear JK
          have HYG' := Lib.hid (Own.mono HYG.out (belowA _ (.cells #[.int .i64 0, .slice none 0 0, .slice none 0 0, .slice none 0 0, .slice none 0 0] 37)))
          try clear HYG
          have HYG := HYG'
          clear HYG'
          have hzF31A1 : w21.heap.size + 1 ≤ (w21.alloc (.cells #[.int .i64 0, .slice none 0 0, .slice none 0 0, .slice none 0 0, .slice none 0 0] 37)).heap.size := by simp
          generalize hgenF31A1 : w21.alloc (.cells #[.int .i64 0, .slice none 0 0, .slice none 0 0, .slice none 0 0, .slice none 0 0] 37) = wF31A1 at *
          have HGF31A1 := Lib.hid hgenF31A1
          clear hgenF31A1
          refine ⟨⟨hQ32.cellAt 0 rfl 0 rfl, hQ32.cellAt 0 rfl 1 rfl, hQ32.cellAt 1 rfl 0 rfl, hQ32.cellAt 1 rfl 1 rfl, hQ32.cellAt 2 rfl 0 rfl, hQ32.cellAt 2 rfl 1 rfl, hQ32.cellAt 2 rfl 2 rfl, hQ32.cellAt 2 rfl 3 rfl, hQ32.cellAt 2 rfl 4 rfl, hQ32.cellAt 3 rfl 0 rfl, hQ32.cellAt 3 rfl 1 rfl, hQ32.cellAt 4 rfl 0 rfl, hQ32.cellAt 4 rfl 1 rfl, hQ32.cellAt 5 rfl 0 rfl, hQ32.cellAt 5 rfl 1 rfl, hQ32.cellAt 5 rfl 2 rfl, hQ32.cellAt 5 rfl 3 rfl, hQ32.cellAt 5 rfl 4 rfl⟩, ?_⟩
          (repeat (first | (apply t4_skip rfl (by rfl); try simp only [Act.put, sI, sZ, sS]) | (apply t4_float rfl (by rfl); (· (intro w' hS; go_simp <;> with_reducible rfl)); (try simp only [Act.put, sI, sZ, sS]))))
          refine t4_hard rfl (by rfl) (fun K hK => ?_)
          have fF310 := hQ32.freeAt 6 rfl 0
          have cF310 := hQ32.cellAt 6 rfl 0 rfl
          have fF311 := hQ32.freeAt 6 rfl 1
          have cF311 := hQ32.cellAt 6 rfl 1 rfl
          have fF312 := hQ32.freeAt 6 rfl 2
          have cF312 := hQ32.cellAt 6 rfl 2 rfl
          have fF313 := hQ32.freeAt 6 rfl 3
          have cF313 := hQ32.cellAt 6 rfl 3 rfl
          have fF314 := hQ32.freeAt 6 rfl 4
          have cF314 := hQ32.cellAt 6 rfl 4 rfl
          go_wp2_with fail
          have hQ46 := (((((hQ32.set (p := [_, _, _, _, _, _]) (by simp <;> omega) 0 (.int .i64 r0)).set (p := [_, _, _, _, _, _]) (by simp <;> omega) 1 (.slice aK1 r1.length cK1)).set (p := [_, _, _, _, _, _]) (by simp <;> omega) 2 (.slice aK2 r2.length cK2)).set (p := [_, _, _, _, _, _]) (by simp <;> omega) 3 (.slice aK3 r3.length cK3)).set (p := [_, _, _, _, _, _]) (by simp <;> omega) 4 (.slice aK4 r4.length cK4))
          have JWF8_p24 := Lib.hid (Iv.setOut (Iv.setOut (Iv.setOut (Iv.setOut (Iv.setOut JWF8_p23.out (a := ⟨w21.heap.size, 0, none⟩) (by first | (left; simp only; first | done | omega) | (right; simp only; first | done | omega)) (.int .i64 r0)) (a := ⟨w21.heap.size, 1, none⟩) (by first | (left; simp only; first | done | omega) | (right; simp only; first | done | omega)) (.slice aK1 r1.length cK1)) (a := ⟨w21.heap.size, 2, none⟩) (by first | (left; simp only; first | done | omega) | (right; simp only; first | done | omega)) (.slice aK2 r2.length cK2)) (a := ⟨w21.heap.size, 3, none⟩) (by first | (left; simp only; first | done | omega) | (right; simp only; first | done | omega)) (.slice aK3 r3.length cK3)) (a := ⟨w21.heap.size, 4, none⟩) (by first | (left; simp only; first | done | omega) | (right; simp only; first | done | omega)) (.slice aK4 r4.length cK4))
          try clear JWF8_p23
          have JK'' := Lib.hid (Iv.setOut (Iv.setOut (Iv.setOut (Iv.setOut (Iv.setOut JK'.out (a := ⟨w21.heap.size, 0, none⟩) (by first | (left; simp only; first | done | omega) | (right; simp only; first | done | omega)) (.int .i64 r0)) (a := ⟨w21.heap.size, 1, none⟩) (by first | (left; simp only; first | done | omega) | (right; simp only; first | done | omega)) (.slice aK1 r1.length cK1)) (a := ⟨w21.heap.size, 2, none⟩) (by first | (left; simp only; first | done | omega) | (right; simp only; first | done | omega)) (.slice aK2 r2.length cK2)) (a := ⟨w21.heap.size, 3, none⟩) (by first | (left; simp only; first | done | omega) | (right; simp only; first | done | omega)) (.slice aK3 r3.length cK3)) (a := ⟨w21.heap.size, 4, none⟩) (by first | (left; simp only; first | done | omega) | (right; simp only; first | done | omega)) (.slice aK4 r4.length cK4))
          try clear JK'
          have HYG' := Lib.hid (own_setOut (own_setOut (own_setOut (own_setOut (own_setOut HYG.out (b := w21.heap.size) (o := 0) (fun hk => by have := hqG _ hk; omega) (.int .i64 r0)) (b := w21.heap.size) (o := 1) (fun hk => by have := hqG _ hk; omega) (.slice aK1 r1.length cK1)) (b := w21.heap.size) (o := 2) (fun hk => by have := hqG _ hk; omega) (.slice aK2 r2.length cK2)) (b := w21.heap.size) (o := 3) (fun hk => by have := hqG _ hk; omega) (.slice aK3 r3.length cK3)) (b := w21.heap.size) (o := 4) (fun hk => by have := hqG _ hk; omega) (.slice aK4 r4.length cK4))
          try clear HYG
          have HYG := HYG'
          clear HYG'
          clear fF310 cF310 fF311 cF311 fF312 cF312 fF313 cF313 fF314 cF314
          refine ⟨?_, ?_⟩
          · first | (have u9 : wF31A1.cell? ⟨w.heap.size, 0, none⟩ = some (.int .i64 x00) ∧ wF31A1.cell? ⟨w.heap.size, 1, none⟩ = some (.slice a01 x01.length c01) ∧ wF31A1.cell? ⟨w.heap.size + 1, 0, none⟩ = some (.int .i64 x10) ∧ wF31A1.cell? ⟨w.heap.size + 1, 1, none⟩ = some (.slice a11 x11.length c11) ∧ wF31A1.cell? ⟨gUF8, 0, none⟩ = some (.int .i64 r0) ∧ wF31A1.cell? ⟨gUF8, 1, none⟩ = some (.slice aW1 r1.length cW1) ∧ wF31A1.cell? ⟨gUF8, 2, none⟩ = some (.slice aW2 r2.length cW2) ∧ wF31A1.cell? ⟨gUF8, 3, none⟩ = some (.slice aW3 r3.length cW3) ∧ wF31A1.cell? ⟨gUF8, 4, none⟩ = some (.slice aW4 r4.length cW4) ∧ wF31A1.cell? ⟨w6.heap.size, 0, none⟩ = some (.int .i64 x00) ∧ wF31A1.cell? ⟨w6.heap.size, 1, none⟩ = some (.slice ax01 x01.length cx01) ∧ wF31A1.cell? ⟨w7.heap.size, 0, none⟩ = some (.int .i64 x10) ∧ wF31A1.cell? ⟨w7.heap.size, 1, none⟩ = some (.slice ax11 x11.length cx11) ∧ wF31A1.cell? ⟨w8.heap.size, 0, none⟩ = some (.int .i64 r0) ∧ wF31A1.cell? ⟨w8.heap.size, 1, none⟩ = some (.slice aG1 r1.length cG1) ∧ wF31A1.cell? ⟨w8.heap.size, 2, none⟩ = some (.slice aG2 r2.length cG2) ∧ wF31A1.cell? ⟨w8.heap.size, 3, none⟩ = some (.slice aG3 r3.length cG3) ∧ wF31A1.cell? ⟨w8.heap.size, 4, none⟩ = some (.slice aG4 r4.length cG4) := ⟨hQ32.cellAt 0 rfl 0 rfl, hQ32.cellAt 0 rfl 1 rfl, hQ32.cellAt 1 rfl 0 rfl, hQ32.cellAt 1 rfl 1 rfl, hQ32.cellAt 2 rfl 0 rfl, hQ32.cellAt 2 rfl 1 rfl, hQ32.cellAt 2 rfl 2 rfl, hQ32.cellAt 2 rfl 3 rfl, hQ32.cellAt 2 rfl 4 rfl, hQ32.cellAt 3 rfl 0 rfl, hQ32.cellAt 3 rfl 1 rfl, hQ32.cellAt 4 rfl 0 rfl, hQ32.cellAt 4 rfl 1 rfl, hQ32.cellAt 5 rfl 0 rfl, hQ32.cellAt 5 rfl 1 rfl, hQ32.cellAt 5 rfl 2 rfl, hQ32.cellAt 5 rfl 3 rfl, hQ32.cellAt 5 rfl 4 rfl⟩; with_reducible exact u9) | (have u9 : (((((wF31A1.setCell ⟨w21.heap.size, 0, none⟩ (.int .i64 r0)).setCell ⟨w21.heap.size, 1, none⟩ (.slice aK1 r1.length cK1)).setCell ⟨w21.heap.size, 2, none⟩ (.slice aK2 r2.length cK2)).setCell ⟨w21.heap.size, 3, none⟩ (.slice aK3 r3.length cK3)).setCell ⟨w21.heap.size, 4, none⟩ (.slice aK4 r4.length cK4)).cell? ⟨w.heap.size, 0, none⟩ = some (.int .i64 x00) ∧ (((((wF31A1.setCell ⟨w21.heap.size, 0, none⟩ (.int .i64 r0)).setCell ⟨w21.heap.size, 1, none⟩ (.slice aK1 r1.length cK1)).setCell ⟨w21.heap.size, 2, none⟩ (.slice aK2 r2.length cK2)).setCell ⟨w21.heap.size, 3, none⟩ (.slice aK3 r3.length cK3)).setCell ⟨w21.heap.size, 4, none⟩ (.slice aK4 r4.length cK4)).cell? ⟨w.heap.size, 1, none⟩ = some (.slice a01 x01.length c01) ∧ (((((wF31A1.setCell ⟨w21.heap.size, 0, none⟩ (.int .i64 r0)).setCell ⟨w21.heap.size, 1, none⟩ (.slice aK1 r1.length cK1)).setCell ⟨w21.heap.size, 2, none⟩ (.slice aK2 r2.length cK2)).setCell ⟨w21.heap.size, 3, none⟩ (.slice aK3 r3.length cK3)).setCell ⟨w21.heap.size, 4, none⟩ (.slice aK4 r4.length cK4)).cell? ⟨w.heap.size + 1, 0, none⟩ = some (.int .i64 x10) ∧ (((((wF31A1.setCell ⟨w21.heap.size, 0, none⟩ (.int .i64 r0)).setCell ⟨w21.heap.size, 1, none⟩ (.slice aK1 r1.length cK1)).setCell ⟨w21.heap.size, 2, none⟩ (.slice aK2 r2.length cK2)).setCell ⟨w21.heap.size, 3, none⟩ (.slice aK3 r3.length cK3)).setCell ⟨w21.heap.size, 4, none⟩ (.slice aK4 r4.length cK4)).cell? ⟨w.heap.size + 1, 1, none⟩ = some (.slice a11 x11.length c11) ∧ (((((wF31A1.setCell ⟨w21.heap.size, 0, none⟩ (.int .i64 r0)).setCell ⟨w21.heap.size, 1, none⟩ (.slice aK1 r1.length cK1)).setCell ⟨w21.heap.size, 2, none⟩ (.slice aK2 r2.length cK2)).setCell ⟨w21.heap.size, 3, none⟩ (.slice aK3 r3.length cK3)).setCell ⟨w21.heap.size, 4, none⟩ (.slice aK4 r4.length cK4)).cell? ⟨gUF8, 0, none⟩ = some (.int .i64 r0) ∧ (((((wF31A1.setCell ⟨w21.heap.size, 0, none⟩ (.int .i64 r0)).setCell ⟨w21.heap.size, 1, none⟩ (.slice aK1 r1.length cK1)).setCell ⟨w21.heap.size, 2, none⟩ (.slice aK2 r2.length cK2)).setCell ⟨w21.heap.size, 3, none⟩ (.slice aK3 r3.length cK3)).setCell ⟨w21.heap.size, 4, none⟩ (.slice aK4 r4.length cK4)).cell? ⟨gUF8, 1, none⟩ = some (.slice aW1 r1.length cW1) ∧ (((((wF31A1.setCell ⟨w21.heap.size, 0, none⟩ (.int .i64 r0)).setCell ⟨w21.heap.size, 1, none⟩ (.slice aK1 r1.length cK1)).setCell ⟨w21.heap.size, 2, none⟩ (.slice aK2 r2.length cK2)).setCell ⟨w21.heap.size, 3, none⟩ (.slice aK3 r3.length cK3)).setCell ⟨w21.heap.size, 4, none⟩ (.slice aK4 r4.length cK4)).cell? ⟨gUF8, 2, none⟩ = some (.slice aW2 r2.length cW2) ∧ (((((wF31A1.setCell ⟨w21.heap.size, 0, none⟩ (.int .i64 r0)).setCell ⟨w21.heap.size, 1, none⟩ (.slice aK1 r1.length cK1)).setCell ⟨w21.heap.size, 2, none⟩ (.slice aK2 r2.length cK2)).setCell ⟨w21.heap.size, 3, none⟩ (.slice aK3 r3.length cK3)).setCell ⟨w21.heap.size, 4, none⟩ (.slice aK4 r4.length cK4)).cell? ⟨gUF8, 3, none⟩ = some (.slice aW3 r3.length cW3) ∧ (((((wF31A1.setCell ⟨w21.heap.size, 0, none⟩ (.int .i64 r0)).setCell ⟨w21.heap.size, 1, none⟩ (.slice aK1 r1.length cK1)).setCell ⟨w21.heap.size, 2, none⟩ (.slice aK2 r2.length cK2)).setCell ⟨w21.heap.size, 3, none⟩ (.slice aK3 r3.length cK3)).setCell ⟨w21.heap.size, 4, none⟩ (.slice aK4 r4.length cK4)).cell? ⟨gUF8, 4, none⟩ = some (.slice aW4 r4.length cW4) ∧ (((((wF31A1.setCell ⟨w21.heap.size, 0, none⟩ (.int .i64 r0)).setCell ⟨w21.heap.size, 1, none⟩ (.slice aK1 r1.length cK1)).setCell ⟨w21.heap.size, 2, none⟩ (.slice aK2 r2.length cK2)).setCell ⟨w21.heap.size, 3, none⟩ (.slice aK3 r3.length cK3)).setCell ⟨w21.heap.size, 4, none⟩ (.slice aK4 r4.length cK4)).cell? ⟨w6.heap.size, 0, none⟩ = some (.int .i64 x00) ∧ (((((wF31A1.setCell ⟨w21.heap.size, 0, none⟩ (.int .i64 r0)).setCell ⟨w21.heap.size, 1, none⟩ (.slice aK1 r1.length cK1)).setCell ⟨w21.heap.size, 2, none⟩ (.slice aK2 r2.length cK2)).setCell ⟨w21.heap.size, 3, none⟩ (.slice aK3 r3.length cK3)).setCell ⟨w21.heap.size, 4, none⟩ (.slice aK4 r4.length cK4)).cell? ⟨w6.heap.size, 1, none⟩ = some (.slice ax01 x01.length cx01) ∧ (((((wF31A1.setCell ⟨w21.heap.size, 0, none⟩ (.int .i64 r0)).setCell ⟨w21.heap.size, 1, none⟩ (.slice aK1 r1.length cK1)).setCell ⟨w21.heap.size, 2, none⟩ (.slice aK2 r2.length cK2)).setCell ⟨w21.heap.size, 3, none⟩ (.slice aK3 r3.length cK3)).setCell ⟨w21.heap.size, 4, none⟩ (.slice aK4 r4.length cK4)).cell? ⟨w7.heap.size, 0, none⟩ = some (.int .i64 x10) ∧ (((((wF31A1.setCell ⟨w21.heap.size, 0, none⟩ (.int .i64 r0)).setCell ⟨w21.heap.size, 1, none⟩ (.slice aK1 r1.length cK1)).setCell ⟨w21.heap.size, 2, none⟩ (.slice aK2 r2.length cK2)).setCell ⟨w21.heap.size, 3, none⟩ (.slice aK3 r3.length cK3)).setCell ⟨w21.heap.size, 4, none⟩ (.slice aK4 r4.length cK4)).cell? ⟨w7.heap.size, 1, none⟩ = some (.slice ax11 x11.length cx11) ∧ (((((wF31A1.setCell ⟨w21.heap.size, 0, none⟩ (.int .i64 r0)).setCell ⟨w21.heap.size, 1, none⟩ (.slice aK1 r1.length cK1)).setCell ⟨w21.heap.size, 2, none⟩ (.slice aK2 r2.length cK2)).setCell ⟨w21.heap.size, 3, none⟩ (.slice aK3 r3.length cK3)).setCell ⟨w21.heap.size, 4, none⟩ (.slice aK4 r4.length cK4)).cell? ⟨w8.heap.size, 0, none⟩ = some (.int .i64 r0) ∧ (((((wF31A1.setCell ⟨w21.heap.size, 0, none⟩ (.int .i64 r0)).setCell ⟨w21.heap.size, 1, none⟩ (.slice aK1 r1.length cK1)).setCell ⟨w21.heap.size, 2, none⟩ (.slice aK2 r2.length cK2)).setCell ⟨w21.heap.size, 3, none⟩ (.slice aK3 r3.length cK3)).setCell ⟨w21.heap.size, 4, none⟩ (.slice aK4 r4.length cK4)).cell? ⟨w8.heap.size, 1, none⟩ = some (.slice aG1 r1.length cG1) ∧ (((((wF31A1.setCell ⟨w21.heap.size, 0, none⟩ (.int .i64 r0)).setCell ⟨w21.heap.size, 1, none⟩ (.slice aK1 r1.length cK1)).setCell ⟨w21.heap.size, 2, none⟩ (.slice aK2 r2.length cK2)).setCell ⟨w21.heap.size, 3, none⟩ (.slice aK3 r3.length cK3)).setCell ⟨w21.heap.size, 4, none⟩ (.slice aK4 r4.length cK4)).cell? ⟨w8.heap.size, 2, none⟩ = some (.slice aG2 r2.length cG2) ∧ (((((wF31A1.setCell ⟨w21.heap.size, 0, none⟩ (.int .i64 r0)).setCell ⟨w21.heap.size, 1, none⟩ (.slice aK1 r1.length cK1)).setCell ⟨w21.heap.size, 2, none⟩ (.slice aK2 r2.length cK2)).setCell ⟨w21.heap.size, 3, none⟩ (.slice aK3 r3.length cK3)).setCell ⟨w21.heap.size, 4, none⟩ (.slice aK4 r4.length cK4)).cell? ⟨w8.heap.size, 3, none⟩ = some (.slice aG3 r3.length cG3) ∧ (((((wF31A1.setCell ⟨w21.heap.size, 0, none⟩ (.int .i64 r0)).setCell ⟨w21.heap.size, 1, none⟩ (.slice aK1 r1.length cK1)).setCell ⟨w21.heap.size, 2, none⟩ (.slice aK2 r2.length cK2)).setCell ⟨w21.heap.size, 3, none⟩ (.slice aK3 r3.length cK3)).setCell ⟨w21.heap.size, 4, none⟩ (.slice aK4 r4.length cK4)).cell? ⟨w8.heap.size, 4, none⟩ = some (.slice aG4 r4.length cG4) := ⟨hQ46.cellAt 0 rfl 0 rfl, hQ46.cellAt 0 rfl 1 rfl, hQ46.cellAt 1 rfl 0 rfl, hQ46.cellAt 1 rfl 1 rfl, hQ46.cellAt 2 rfl 0 rfl, hQ46.cellAt 2 rfl 1 rfl, hQ46.cellAt 2 rfl 2 rfl, hQ46.cellAt 2 rfl 3 rfl, hQ46.cellAt 2 rfl 4 rfl, hQ46.cellAt 3 rfl 0 rfl, hQ46.cellAt 3 rfl 1 rfl, hQ46.cellAt 4 rfl 0 rfl, hQ46.cellAt 4 rfl 1 rfl, hQ46.cellAt 5 rfl 0 rfl, hQ46.cellAt 5 rfl 1 rfl, hQ46.cellAt 5 rfl 2 rfl, hQ46.cellAt 5 rfl 3 rfl, hQ46.cellAt 5 rfl 4 rfl⟩; with_reducible exact u9) | exact ⟨hQ46.cellAt 0 rfl 0 rfl, hQ46.cellAt 0 rfl 1 rfl, hQ46.cellAt 1 rfl 0 rfl, hQ46.cellAt 1 rfl 1 rfl, hQ46.cellAt 2 rfl 0 rfl, hQ46.cellAt 2 rfl 1 rfl, hQ46.cellAt 2 rfl 2 rfl, hQ46.cellAt 2 rfl 3 rfl, hQ46.cellAt 2 rfl 4 rfl, hQ46.cellAt 3 rfl 0 rfl, hQ46.cellAt 3 rfl 1 rfl, hQ46.cellAt 4 rfl 0 rfl, hQ46.cellAt 4 rfl 1 rfl, hQ46.cellAt 5 rfl 0 rfl, hQ46.cellAt 5 rfl 1 rfl, hQ46.cellAt 5 rfl 2 rfl, hQ46.cellAt 5 rfl 3 rfl, hQ46.cellAt 5 rfl 4 rfl⟩ | exact ⟨hQ32.cellAt 0 rfl 0 rfl, hQ32.cellAt 0 rfl 1 rfl, hQ32.cellAt 1 rfl 0 rfl, hQ32.cellAt 1 rfl 1 rfl, hQ32.cellAt 2 rfl 0 rfl, hQ32.cellAt 2 rfl 1 rfl, hQ32.cellAt 2 rfl 2 rfl, hQ32.cellAt 2 rfl 3 rfl, hQ32.cellAt 2 rfl 4 rfl, hQ32.cellAt 3 rfl 0 rfl, hQ32.cellAt 3 rfl 1 rfl, hQ32.cellAt 4 rfl 0 rfl, hQ32.cellAt 4 rfl 1 rfl, hQ32.cellAt 5 rfl 0 rfl, hQ32.cellAt 5 rfl 1 rfl, hQ32.cellAt 5 rfl 2 rfl, hQ32.cellAt 5 rfl 3 rfl, hQ32.cellAt 5 rfl 4 rfl⟩
          (repeat (first | (apply t4_skip rfl (by rfl); try simp only [Act.put, sI, sZ, sS]) | (apply t4_float rfl (by rfl); (· (intro w' hS; go_simp <;> with_reducible rfl)); (try simp only [Act.put, sI, sZ, sS]))))
          refine t4_nil (NoPanic.normal ?_)
          have hsF31 : St w (((((wF31A1.setCell ⟨w21.heap.size, 0, none⟩ (.int .i64 r0)).setCell ⟨w21.heap.size, 1, none⟩ (.slice aK1 r1.length cK1)).setCell ⟨w21.heap.size, 2, none⟩ (.slice aK2 r2.length cK2)).setCell ⟨w21.heap.size, 3, none⟩ (.slice aK3 r3.length cK3)).setCell ⟨w21.heap.size, 4, none⟩ (.slice aK4 r4.length cK4)).heap.size (((((wF31A1.setCell ⟨w21.heap.size, 0, none⟩ (.int .i64 r0)).setCell ⟨w21.heap.size, 1, none⟩ (.slice aK1 r1.length cK1)).setCell ⟨w21.heap.size, 2, none⟩ (.slice aK2 r2.length cK2)).setCell ⟨w21.heap.size, 3, none⟩ (.slice aK3 r3.length cK3)).setCell ⟨w21.heap.size, 4, none⟩ (.slice aK4 r4.length cK4)) [(w.heap.size, #[.int .i64 x00, .slice a01 x01.length c01], 24), (w.heap.size + 1, #[.int .i64 x10, .slice a11 x11.length c11], 27), (gUF8, #[.int .i64 r0, .slice aW1 r1.length cW1, .slice aW2 r2.length cW2, .slice aW3 r3.length cW3, .slice aW4 r4.length cW4], 37), (w6.heap.size, #[.int .i64 x00, .slice ax01 x01.length cx01], 42), (w7.heap.size, #[.int .i64 x10, .slice ax11 x11.length cx11], 46), (w8.heap.size, #[.int .i64 r0, .slice aG1 r1.length cG1, .slice aG2 r2.length cG2, .slice aG3 r3.length cG3, .slice aG4 r4.length cG4], 37), (w21.heap.size, #[.int .i64 r0, .slice aK1 r1.length cK1, .slice aK2 r2.length cK2, .slice aK3 r3.length cK3, .slice aK4 r4.length cK4], 37)] := hQ46.up hQ46.hi (Nat.le_refl _)
          have hVF31 : wF31A1.heap.size = (((((wF31A1.setCell ⟨w21.heap.size, 0, none⟩ (.int .i64 r0)).setCell ⟨w21.heap.size, 1, none⟩ (.slice aK1 r1.length cK1)).setCell ⟨w21.heap.size, 2, none⟩ (.slice aK2 r2.length cK2)).setCell ⟨w21.heap.size, 3, none⟩ (.slice aK3 r3.length cK3)).setCell ⟨w21.heap.size, 4, none⟩ (.slice aK4 r4.length cK4)).heap.size := by simp [World.setCell]
          obtain ⟨loUF31, hiUF31, hUF31, JUF31⟩ : ∃ lo hi : Nat, (w18.heap.size ≤ lo ∧ hi ≤ wF31A1.heap.size ∧ (w21.heap.size < lo ∨ hi ≤ w21.heap.size) ∧ w18.heap.size ≤ w21.heap.size ∧ w21.heap.size < wF31A1.heap.size) ∧ Hid (Iv lo hi (((((wF31A1.setCell ⟨w21.heap.size, 0, none⟩ (.int .i64 r0)).setCell ⟨w21.heap.size, 1, none⟩ (.slice aK1 r1.length cK1)).setCell ⟨w21.heap.size, 2, none⟩ (.slice aK2 r2.length cK2)).setCell ⟨w21.heap.size, 3, none⟩ (.slice aK3 r3.length cK3)).setCell ⟨w21.heap.size, 4, none⟩ (.slice aK4 r4.length cK4)) [.int .i64 r0, .slice aK1 r1.length cK1, .slice aK2 r2.length cK2, .slice aK3 r3.length cK3, .slice aK4 r4.length cK4] (r0, r1, r2, r3, r4)) := ⟨w20.heap.size, w21.heap.size, by omega, JK''.out⟩
          rw [hVF31] at hUF31
          clear hVF31 JK''
          generalize hhwUF31 : (((((wF31A1.setCell ⟨w21.heap.size, 0, none⟩ (.int .i64 r0)).setCell ⟨w21.heap.size, 1, none⟩ (.slice aK1 r1.length cK1)).setCell ⟨w21.heap.size, 2, none⟩ (.slice aK2 r2.length cK2)).setCell ⟨w21.heap.size, 3, none⟩ (.slice aK3 r3.length cK3)).setCell ⟨w21.heap.size, 4, none⟩ (.slice aK4 r4.length cK4)) = wUF31 at hsF31 hUF31 JUF31 JWF8_p24 HYG ⊢
          clear hhwUF31
          generalize hhgUF31 : w21.heap.size = gUF31 at hsF31 hUF31 JUF31 JWF8_p24 HYG ⊢
          clear hhgUF31
          generalize at01 = zat01 at hsF31 hUF31 JUF31 JWF8_p24 HYG ⊢
          generalize ct01 = zct01 at hsF31 hUF31 JUF31 JWF8_p24 HYG ⊢
          generalize at11 = zat11 at hsF31 hUF31 JUF31 JWF8_p24 HYG ⊢
          generalize ct11 = zct11 at hsF31 hUF31 JUF31 JWF8_p24 HYG ⊢
          generalize aK1 = zaK1 at hsF31 hUF31 JUF31 JWF8_p24 HYG ⊢
          generalize cK1 = zcK1 at hsF31 hUF31 JUF31 JWF8_p24 HYG ⊢
          generalize aK2 = zaK2 at hsF31 hUF31 JUF31 JWF8_p24 HYG ⊢
          generalize cK2 = zcK2 at hsF31 hUF31 JUF31 JWF8_p24 HYG ⊢
          generalize aK3 = zaK3 at hsF31 hUF31 JUF31 JWF8_p24 HYG ⊢
          generalize cK3 = zcK3 at hsF31 hUF31 JUF31 JWF8_p24 HYG ⊢
          generalize aK4 = zaK4 at hsF31 hUF31 JUF31 JWF8_p24 HYG ⊢
          generalize cK4 = zcK4 at hsF31 hUF31 JUF31 JWF8_p24 HYG ⊢
          revert HYG
          revert JWF8_p24
          revert JUF31
          revert hUF31
          revert hsF31
          revert zcK4
          revert zaK4
          revert zcK3
          revert zaK3
          revert zcK2
          revert zaK2
          revert zcK1
          revert zaK1
          revert zct11
          revert zat11
          revert zct01
          revert zat01
          revert hiUF31
          revert loUF31
          revert gUF31
          revert wUF31
          exact HJ.get
        · refine t4_hard rfl (by rfl) (fun K hK => ?_)
          go_wp2_with fail
          have hQ33 := hQ30.alloc #[.int .i64 0, .slice none 0 0, .slice none 0 0, .slice none 0 0, .slice none 0 0] 37 rfl
          have JWF8_p22 := Lib.hid (Iv.mono JWF8_p21.out (belowA _ (.cells #[.int .i64 0, .slice none 0 0, .slice none 0 0, .slice none 0 0, .slice none 0 0] 37)))
          try clear JWF8_p21
          have Jt0'' := Lib.hid (Iv.mono Jt0'.out (belowA _ (.cells #[.int .i64 0, .slice none 0 0, .slice none 0 0, .slice none 0 0, .slice none 0 0] 37)))
          try clear Jt0'
          have Jt1' := Lib.hid (Iv.mono Jt1.out (belowA _ (.cells #[.int .i64 0, .slice none 0 0, .slice none 0 0, .slice none 0 0, .slice none 0 0] 37)))
          try clear Jt1
          have HYG' := Lib.hid (Own.mono HYG.out (belowA _ (.cells #[.int .i64 0, .slice none 0 0, .slice none 0 0, .slice none 0 0, .slice none 0 0] 37)))
          try clear HYG
          have HYG := HYG'
          clear HYG'
          have hzF31A2 : w20.heap.size + 1 ≤ (w20.alloc (.cells #[.int .i64 0, .slice none 0 0, .slice none 0 0, .slice none 0 0, .slice none 0 0] 37)).heap.size := by simp
          generalize hgenF31A2 : w20.alloc (.cells #[.int .i64 0, .slice none 0 0, .slice none 0 0, .slice none 0 0, .slice none 0 0] 37) = wF31A2 at *
          have HGF31A2 := Lib.hid hgenF31A2
          clear hgenF31A2
          refine ⟨⟨hQ33.cellAt 0 rfl 0 rfl, hQ33.cellAt 0 rfl 1 rfl, hQ33.cellAt 1 rfl 0 rfl, hQ33.cellAt 1 rfl 1 rfl, hQ33.cellAt 2 rfl 0 rfl, hQ33.cellAt 2 rfl 1 rfl, hQ33.cellAt 2 rfl 2 rfl, hQ33.cellAt 2 rfl 3 rfl, hQ33.cellAt 2 rfl 4 rfl, hQ33.cellAt 3 rfl 0 rfl, hQ33.cellAt 3 rfl 1 rfl, hQ33.cellAt 4 rfl 0 rfl, hQ33.cellAt 4 rfl 1 rfl, hQ33.cellAt 5 rfl 0 rfl, hQ33.cellAt 5 rfl 1 rfl, hQ33.cellAt 5 rfl 2 rfl, hQ33.cellAt 5 rfl 3 rfl, hQ33.cellAt 5 rfl 4 rfl⟩, ?_⟩
          (repeat (first | (apply t4_skip rfl (by rfl); try simp only [Act.put, sI, sZ, sS]) | (apply t4_float rfl (by rfl); (· (intro w' hS; go_simp <;> with_reducible rfl)); (try simp only [Act.put, sI, sZ, sS]))))
          refine t4_hard rfl (by rfl) (fun K hK => ?_)
          go_wp2_with (go_at_call 31; refine (CI.out _ _ _ _ _ (Iv.rd Jt0''.out) (Iv.rd Jt1'.out)).mono ?_; rintro e w21 ⟨uK0, uK1, uK2, uK3, uK4, rfl, frK, hb21⟩)
          have JWF8_p23 := Lib.hid (Iv.mono JWF8_p22.out hb21)
          try clear JWF8_p22
          have Jt0_p3 := Lib.hid (Iv.mono Jt0''.out hb21)
          try clear Jt0''
          have Jt1'' := Lib.hid (Iv.mono Jt1'.out hb21)
          try clear Jt1'
          have hQ34 := hQ33.step hb21
          have hz18 : wF31A2.heap.size ≤ w21.heap.size := by simpa using hb21.size
          have JK := Lib.hid (Fresh.iv frK)
          have zK0 := rd_cons rfl (Iv.rd JK.out)
          obtain ⟨rfl, _⟩ := rd_i1 zK0.1
          have zK1 := rd_cons rfl zK0.2
          obtain ⟨aK1, cK1, rfl, _⟩ := rd_list zK1.1
          have zK2 := rd_cons rfl zK1.2
          obtain ⟨aK2, cK2, rfl, _⟩ := rd_list zK2.1
          have zK3 := rd_cons rfl zK2.2
          obtain ⟨aK3, cK3, rfl, _⟩ := rd_list zK3.1
          obtain ⟨aK4, cK4, rfl, _⟩ := rd_list zK3.2
          clear zK0 zK1 zK2 zK3
          clear frK
          have HYG' := Lib.hid (Own.mono HYG.out hb21)
          try clear HYG
          have HYG := HYG'
          clear HYG'
          try clear Jt0_p3
          try clear Jt1''
          refine ⟨⟨hQ34.cellAt 0 rfl 0 rfl, hQ34.cellAt 0 rfl 1 rfl, hQ34.cellAt 1 rfl 0 rfl, hQ34.cellAt 1 rfl 1 rfl, hQ34.cellAt 2 rfl 0 rfl, hQ34.cellAt 2 rfl 1 rfl, hQ34.cellAt 2 rfl 2 rfl, hQ34.cellAt 2 rfl 3 rfl, hQ34.cellAt 2 rfl 4 rfl, hQ34.cellAt 3 rfl 0 rfl, hQ34.cellAt 3 rfl 1 rfl, hQ34.cellAt 4 rfl 0 rfl, hQ34.cellAt 4 rfl 1 rfl, hQ34.cellAt 5 rfl 0 rfl, hQ34.cellAt 5 rfl 1 rfl, hQ34.cellAt 5 rfl 2 rfl, hQ34.cellAt 5 rfl 3 rfl, hQ34.cellAt 5 rfl 4 rfl⟩, ?_⟩
          (repeat (first | (apply t4_skip rfl (by rfl); try simp only [Act.put, sI, sZ, sS]) | (apply t4_float rfl (by rfl); (· (intro w' hS; go_simp <;> with_reducible rfl)); (try simp only [Act.put, sI, sZ, sS]))))
          refine t4_hard rfl (by rfl) (fun K hK => ?_)
          have fF310 := hQ34.freeAt 6 rfl 0
          have cF310 := hQ34.cellAt 6 rfl 0 rfl
          have fF311 := hQ34.freeAt 6 rfl 1
          have cF311 := hQ34.cellAt 6 rfl 1 rfl
          have fF312 := hQ34.freeAt 6 rfl 2
          have cF312 := hQ34.cellAt 6 rfl 2 rfl
          have fF313 := hQ34.freeAt 6 rfl 3
          have cF313 := hQ34.cellAt 6 rfl 3 rfl
          have fF314 := hQ34.freeAt 6 rfl 4
          have cF314 := hQ34.cellAt 6 rfl 4 rfl
          go_wp2_with fail
          have hQ47 := (((((hQ34.set (p := [_, _, _, _, _, _]) (by simp <;> omega) 0 (.int .i64 r0)).set (p := [_, _, _, _, _, _]) (by simp <;> omega) 1 (.slice aK1 r1.length cK1)).set (p := [_, _, _, _, _, _]) (by simp <;> omega) 2 (.slice aK2 r2.length cK2)).set (p := [_, _, _, _, _, _]) (by simp <;> omega) 3 (.slice aK3 r3.length cK3)).set (p := [_, _, _, _, _, _]) (by simp <;> omega) 4 (.slice aK4 r4.length cK4))
          have JWF8_p24 := Lib.hid (Iv.setOut (Iv.setOut (Iv.setOut (Iv.setOut (Iv.setOut JWF8_p23.out (a := ⟨w20.heap.size, 0, none⟩) (by first | (left; simp only; first | done | omega) | (right; simp only; first | done | omega)) (.int .i64 r0)) (a := ⟨w20.heap.size, 1, none⟩) (by first | (left; simp only; first | done | omega) | (right; simp only; first | done | omega)) (.slice aK1 r1.length cK1)) (a := ⟨w20.heap.size, 2, none⟩) (by first | (left; simp only; first | done | omega) | (right; simp only; first | done | omega)) (.slice aK2 r2.length cK2)) (a := ⟨w20.heap.size, 3, none⟩) (by first | (left; simp only; first | done | omega) | (right; simp only; first | done | omega)) (.slice aK3 r3.length cK3)) (a := ⟨w20.heap.size, 4, none⟩) (by first | (left; simp only; first | done | omega) | (right; simp only; first | done | omega)) (.slice aK4 r4.length cK4))
          try clear JWF8_p23
          have JK' := Lib.hid (Iv.setOut (Iv.setOut (Iv.setOut (Iv.setOut (Iv.setOut JK.out (a := ⟨w20.heap.size, 0, none⟩) (by first | (left; simp only; first | done | omega) | (right; simp only; first | done | omega)) (.int .i64 r0)) (a := ⟨w20.heap.size, 1, none⟩) (by first | (left; simp only; first | done | omega) | (right; simp only; first | done | omega)) (.slice aK1 r1.length cK1)) (a := ⟨w20.heap.size, 2, none⟩) (by first | (left; simp only; first | done | omega) | (right; simp only; first | done | omega)) (.slice aK2 r2.length cK2)) (a := ⟨w20.heap.size, 3, none⟩) (by first | (left; simp only; first | done | omega) | (right; simp only; first | done | omega)) (.slice aK3 r3.length cK3)) (a := ⟨w20.heap.size, 4, none⟩) (by first | (left; simp only; first | done | omega) | (right; simp only; first | done | omega)) (.slice aK4 r4.length cK4))
          try clear JK
          have HYG' := Lib.hid (own_setOut (own_setOut (own_setOut (own_setOut (own_setOut HYG.out (b := w20.heap.size) (o := 0) (fun hk => by have := hqG _ hk; omega) (.int .i64 r0)) (b := w20.heap.size) (o := 1) (fun hk => by have := hqG _ hk; omega) (.slice aK1 r1.length cK1)) (b := w20.heap.size) (o := 2) (fun hk => by have := hqG _ hk; omega) (.slice aK2 r2.length cK2)) (b := w20.heap.size) (o := 3) (fun hk => by have := hqG _ hk; omega) (.slice aK3 r3.length cK3)) (b := w20.heap.size) (o := 4) (fun hk => by have := hqG _ hk; omega) (.slice aK4 r4.length cK4))
          try clear HYG
          have HYG := HYG'
          clear HYG'
          clear fF310 cF310 fF311 cF311 fF312 cF312 fF313 cF313 fF314 cF314
          refine ⟨?_, ?_⟩
          · first | (have u9 : w21.cell? ⟨w.heap.size, 0, none⟩ = some (.int .i64 x00) ∧ w21.cell? ⟨w.heap.size, 1, none⟩ = some (.slice a01 x01.length c01) ∧ w21.cell? ⟨w.heap.size + 1, 0, none⟩ = some (.int .i64 x10) ∧ w21.cell? ⟨w.heap.size + 1, 1, none⟩ = some (.slice a11 x11.length c11) ∧ w21.cell? ⟨gUF8, 0, none⟩ = some (.int .i64 r0) ∧ w21.cell? ⟨gUF8, 1, none⟩ = some (.slice aW1 r1.length cW1) ∧ w21.cell? ⟨gUF8, 2, none⟩ = some (.slice aW2 r2.length cW2) ∧ w21.cell? ⟨gUF8, 3, none⟩ = some (.slice aW3 r3.length cW3) ∧ w21.cell? ⟨gUF8, 4, none⟩ = some (.slice aW4 r4.length cW4) ∧ w21.cell? ⟨w6.heap.size, 0, none⟩ = some (.int .i64 x00) ∧ w21.cell? ⟨w6.heap.size, 1, none⟩ = some (.slice ax01 x01.length cx01) ∧ w21.cell? ⟨w7.heap.size, 0, none⟩ = some (.int .i64 x10) ∧ w21.cell? ⟨w7.heap.size, 1, none⟩ = some (.slice ax11 x11.length cx11) ∧ w21.cell? ⟨w8.heap.size, 0, none⟩ = some (.int .i64 r0) ∧ w21.cell? ⟨w8.heap.size, 1, none⟩ = some (.slice aG1 r1.length cG1) ∧ w21.cell? ⟨w8.heap.size, 2, none⟩ = some (.slice aG2 r2.length cG2) ∧ w21.cell? ⟨w8.heap.size, 3, none⟩ = some (.slice aG3 r3.length cG3) ∧ w21.cell? ⟨w8.heap.size, 4, none⟩ = some (.slice aG4 r4.length cG4) := ⟨hQ34.cellAt 0 rfl 0 rfl, hQ34.cellAt 0 rfl 1 rfl, hQ34.cellAt 1 rfl 0 rfl, hQ34.cellAt 1 rfl 1 rfl, hQ34.cellAt 2 rfl 0 rfl, hQ34.cellAt 2 rfl 1 rfl, hQ34.cellAt 2 rfl 2 rfl, hQ34.cellAt 2 rfl 3 rfl, hQ34.cellAt 2 rfl 4 rfl, hQ34.cellAt 3 rfl 0 rfl, hQ34.cellAt 3 rfl 1 rfl, hQ34.cellAt 4 rfl 0 rfl, hQ34.cellAt 4 rfl 1 rfl, hQ34.cellAt 5 rfl 0 rfl, hQ34.cellAt 5 rfl 1 rfl, hQ34.cellAt 5 rfl 2 rfl, hQ34.cellAt 5 rfl 3 rfl, hQ34.cellAt 5 rfl 4 rfl⟩; with_reducible exact u9) | (have u9 : (((((w21.setCell ⟨w20.heap.size, 0, none⟩ (.int .i64 r0)).setCell ⟨w20.heap.size, 1, none⟩ (.slice aK1 r1.length cK1)).setCell ⟨w20.heap.size, 2, none⟩ (.slice aK2 r2.length cK2)).setCell ⟨w20.heap.size, 3, none⟩ (.slice aK3 r3.length cK3)).setCell ⟨w20.heap.size, 4, none⟩ (.slice aK4 r4.length cK4)).cell? ⟨w.heap.size, 0, none⟩ = some (.int .i64 x00) ∧ (((((w21.setCell ⟨w20.heap.size, 0, none⟩ (.int .i64 r0)).setCell ⟨w20.heap.size, 1, none⟩ (.slice aK1 r1.length cK1)).setCell ⟨w20.heap.size, 2, none⟩ (.slice aK2 r2.length cK2)).setCell ⟨w20.heap.size, 3, none⟩ (.slice aK3 r3.length cK3)).setCell ⟨w20.heap.size, 4, none⟩ (.slice aK4 r4.length cK4)).cell? ⟨w.heap.size, 1, none⟩ = some (.slice a01 x01.length c01) ∧ (((((w21.setCell ⟨w20.heap.size, 0, none⟩ (.int .i64 r0)).setCell ⟨w20.heap.size, 1, none⟩ (.slice aK1 r1.length cK1)).setCell ⟨w20.heap.size, 2, none⟩ (.slice aK2 r2.length cK2)).setCell ⟨w20.heap.size, 3, none⟩ (.slice aK3 r3.length cK3)).setCell ⟨w20.heap.size, 4, none⟩ (.slice aK4 r4.length cK4)).cell? ⟨w.heap.size + 1, 0, none⟩ = some (.int .i64 x10) ∧ (((((w21.setCell ⟨w20.heap.size, 0, none⟩ (.int .i64 r0)).setCell ⟨w20.heap.size, 1, none⟩ (.slice aK1 r1.length cK1)).setCell ⟨w20.heap.size, 2, none⟩ (.slice aK2 r2.length cK2)).setCell ⟨w20.heap.size, 3, none⟩ (.slice aK3 r3.length cK3)).setCell ⟨w20.heap.size, 4, none⟩ (.slice aK4 r4.length cK4)).cell? ⟨w.heap.size + 1, 1, none⟩ = some (.slice a11 x11.length c11) ∧ (((((w21.setCell ⟨w20.heap.size, 0, none⟩ (.int .i64 r0)).setCell ⟨w20.heap.size, 1, none⟩ (.slice aK1 r1.length cK1)).setCell ⟨w20.heap.size, 2, none⟩ (.slice aK2 r2.length cK2)).setCell ⟨w20.heap.size, 3, none⟩ (.slice aK3 r3.length cK3)).setCell ⟨w20.heap.size, 4, none⟩ (.slice aK4 r4.length cK4)).cell? ⟨gUF8, 0, none⟩ = some (.int .i64 r0) ∧ (((((w21.setCell ⟨w20.heap.size, 0, none⟩ (.int .i64 r0)).setCell ⟨w20.heap.size, 1, none⟩ (.slice aK1 r1.length cK1)).setCell ⟨w20.heap.size, 2, none⟩ (.slice aK2 r2.length cK2)).setCell ⟨w20.heap.size, 3, none⟩ (.slice aK3 r3.length cK3)).setCell ⟨w20.heap.size, 4, none⟩ (.slice aK4 r4.length cK4)).cell? ⟨gUF8, 1, none⟩ = some (.slice aW1 r1.length cW1) ∧ (((((w21.setCell ⟨w20.heap.size, 0, none⟩ (.int .i64 r0)).setCell ⟨w20.heap.size, 1, none⟩ (.slice aK1 r1.length cK1)).setCell ⟨w20.heap.size, 2, none⟩ (.slice aK2 r2.length cK2)).setCell ⟨w20.heap.size, 3, none⟩ (.slice aK3 r3.length cK3)).setCell ⟨w20.heap.size, 4, none⟩ (.slice aK4 r4.length cK4)).cell? ⟨gUF8, 2, none⟩ = some (.slice aW2 r2.length cW2) ∧ (((((w21.setCell ⟨w20.heap.size, 0, none⟩ (.int .i64 r0)).setCell ⟨w20.heap.size, 1, none⟩ (.slice aK1 r1.length cK1)).setCell ⟨w20.heap.size, 2, none⟩ (.slice aK2 r2.length cK2)).setCell ⟨w20.heap.size, 3, none⟩ (.slice aK3 r3.length cK3)).setCell ⟨w20.heap.size, 4, none⟩ (.slice aK4 r4.length cK4)).cell? ⟨gUF8, 3, none⟩ = some (.slice aW3 r3.length cW3) ∧ (((((w21.setCell ⟨w20.heap.size, 0, none⟩ (.int .i64 r0)).setCell ⟨w20.heap.size, 1, none⟩ (.slice aK1 r1.length cK1)).setCell ⟨w20.heap.size, 2, none⟩ (.slice aK2 r2.length cK2)).setCell ⟨w20.heap.size, 3, none⟩ (.slice aK3 r3.length cK3)).setCell ⟨w20.heap.size, 4, none⟩ (.slice aK4 r4.length cK4)).cell? ⟨gUF8, 4, none⟩ = some (.slice aW4 r4.length cW4) ∧ (((((w21.setCell ⟨w20.heap.size, 0, none⟩ (.int .i64 r0)).setCell ⟨w20.heap.size, 1, none⟩ (.slice aK1 r1.length cK1)).setCell ⟨w20.heap.size, 2, none⟩ (.slice aK2 r2.length cK2)).setCell ⟨w20.heap.size, 3, none⟩ (.slice aK3 r3.length cK3)).setCell ⟨w20.heap.size, 4, none⟩ (.slice aK4 r4.length cK4)).cell? ⟨w6.heap.size, 0, none⟩ = some (.int .i64 x00) ∧ (((((w21.setCell ⟨w20.heap.size, 0, none⟩ (.int .i64 r0)).setCell ⟨w20.heap.size, 1, none⟩ (.slice aK1 r1.length cK1)).setCell ⟨w20.heap.size, 2, none⟩ (.slice aK2 r2.length cK2)).setCell ⟨w20.heap.size, 3, none⟩ (.slice aK3 r3.length cK3)).setCell ⟨w20.heap.size, 4, none⟩ (.slice aK4 r4.length cK4)).cell? ⟨w6.heap.size, 1, none⟩ = some (.slice ax01 x01.length cx01) ∧ (((((w21.setCell ⟨w20.heap.size, 0, none⟩ (.int .i64 r0)).setCell ⟨w20.heap.size, 1, none⟩ (.slice aK1 r1.length cK1)).setCell ⟨w20.heap.size, 2, none⟩ (.slice aK2 r2.length cK2)).setCell ⟨w20.heap.size, 3, none⟩ (.slice aK3 r3.length cK3)).setCell ⟨w20.heap.size, 4, none⟩ (.slice aK4 r4.length cK4)).cell? ⟨w7.heap.size, 0, none⟩ = some (.int .i64 x10) ∧ (((((w21.setCell ⟨w20.heap.size, 0, none⟩ (.int .i64 r0)).setCell ⟨w20.heap.size, 1, none⟩ (.slice aK1 r1.length cK1)).setCell ⟨w20.heap.size, 2, none⟩ (.slice aK2 r2.length cK2)).setCell ⟨w20.heap.size, 3, none⟩ (.slice aK3 r3.length cK3)).setCell ⟨w20.heap.size, 4, none⟩ (.slice aK4 r4.length cK4)).cell? ⟨w7.heap.size, 1, none⟩ = some (.slice ax11 x11.length cx11) ∧ (((((w21.setCell ⟨w20.heap.size, 0, none⟩ (.int .i64 r0)).setCell ⟨w20.heap.size, 1, none⟩ (.slice aK1 r1.length cK1)).setCell ⟨w20.heap.size, 2, none⟩ (.slice aK2 r2.length cK2)).setCell ⟨w20.heap.size, 3, none⟩ (.slice aK3 r3.length cK3)).setCell ⟨w20.heap.size, 4, none⟩ (.slice aK4 r4.length cK4)).cell? ⟨w8.heap.size, 0, none⟩ = some (.int .i64 r0) ∧ (((((w21.setCell ⟨w20.heap.size, 0, none⟩ (.int .i64 r0)).setCell ⟨w20.heap.size, 1, none⟩ (.slice aK1 r1.length cK1)).setCell ⟨w20.heap.size, 2, none⟩ (.slice aK2 r2.length cK2)).setCell ⟨w20.heap.size, 3, none⟩ (.slice aK3 r3.length cK3)).setCell ⟨w20.heap.size, 4, none⟩ (.slice aK4 r4.length cK4)).cell? ⟨w8.heap.size, 1, none⟩ = some (.slice aG1 r1.length cG1) ∧ (((((w21.setCell ⟨w20.heap.size, 0, none⟩ (.int .i64 r0)).setCell ⟨w20.heap.size, 1, none⟩ (.slice aK1 r1.length cK1)).setCell ⟨w20.heap.size, 2, none⟩ (.slice aK2 r2.length cK2)).setCell ⟨w20.heap.size, 3, none⟩ (.slice aK3 r3.length cK3)).setCell ⟨w20.heap.size, 4, none⟩ (.slice aK4 r4.length cK4)).cell? ⟨w8.heap.size, 2, none⟩ = some (.slice aG2 r2.length cG2) ∧ (((((w21.setCell ⟨w20.heap.size, 0, none⟩ (.int .i64 r0)).setCell ⟨w20.heap.size, 1, none⟩ (.slice aK1 r1.length cK1)).setCell ⟨w20.heap.size, 2, none⟩ (.slice aK2 r2.length cK2)).setCell ⟨w20.heap.size, 3, none⟩ (.slice aK3 r3.length cK3)).setCell ⟨w20.heap.size, 4, none⟩ (.slice aK4 r4.length cK4)).cell? ⟨w8.heap.size, 3, none⟩ = some (.slice aG3 r3.length cG3) ∧ (((((w21.setCell ⟨w20.heap.size, 0, none⟩ (.int .i64 r0)).setCell ⟨w20.heap.size, 1, none⟩ (.slice aK1 r1.length cK1)).setCell ⟨w20.heap.size, 2, none⟩ (.slice aK2 r2.length cK2)).setCell ⟨w20.heap.size, 3, none⟩ (.slice aK3 r3.length cK3)).setCell ⟨w20.heap.size, 4, none⟩ (.slice aK4 r4.length cK4)).cell? ⟨w8.heap.size, 4, none⟩ = some (.slice aG4 r4.length cG4) := ⟨hQ47.cellAt 0 rfl 0 rfl, hQ47.cellAt 0 rfl 1 rfl, hQ47.cellAt 1 rfl 0 rfl, hQ47.cellAt 1 rfl 1 rfl, hQ47.cellAt 2 rfl 0 rfl, hQ47.cellAt 2 rfl 1 rfl, hQ47.cellAt 2 rfl 2 rfl, hQ47.cellAt 2 rfl 3 rfl, hQ47.cellAt 2 rfl 4 rfl, hQ47.cellAt 3 rfl 0 rfl, hQ47.cellAt 3 rfl 1 rfl, hQ47.cellAt 4 rfl 0 rfl, hQ47.cellAt 4 rfl 1 rfl, hQ47.cellAt 5 rfl 0 rfl, hQ47.cellAt 5 rfl 1 rfl, hQ47.cellAt 5 rfl 2 rfl, hQ47.cellAt 5 rfl 3 rfl, hQ47.cellAt 5 rfl 4 rfl⟩; with_reducible exact u9) | exact ⟨hQ47.cellAt 0 rfl 0 rfl, hQ47.cellAt 0 rfl 1 rfl, hQ47.cellAt 1 rfl 0 rfl, hQ47.cellAt 1 rfl 1 rfl, hQ47.cellAt 2 rfl 0 rfl, hQ47.cellAt 2 rfl 1 rfl, hQ47.cellAt 2 rfl 2 rfl, hQ47.cellAt 2 rfl 3 rfl, hQ47.cellAt 2 rfl 4 rfl, hQ47.cellAt 3 rfl 0 rfl, hQ47.cellAt 3 rfl 1 rfl, hQ47.cellAt 4 rfl 0 rfl, hQ47.cellAt 4 rfl 1 rfl, hQ47.cellAt 5 rfl 0 rfl, hQ47.cellAt 5 rfl 1 rfl, hQ47.cellAt 5 rfl 2 rfl, hQ47.cellAt 5 rfl 3 rfl, hQ47.cellAt 5 rfl 4 rfl⟩ | exact ⟨hQ34.cellAt 0 rfl 0 rfl, hQ34.cellAt 0 rfl 1 rfl, hQ34.cellAt 1 rfl 0 rfl, hQ34.cellAt 1 rfl 1 rfl, hQ34.cellAt 2 rfl 0 rfl, hQ34.cellAt 2 rfl 1 rfl, hQ34.cellAt 2 rfl 2 rfl, hQ34.cellAt 2 rfl 3 rfl, hQ34.cellAt 2 rfl 4 rfl, hQ34.cellAt 3 rfl 0 rfl, hQ34.cellAt 3 rfl 1 rfl, hQ34.cellAt 4 rfl 0 rfl, hQ34.cellAt 4 rfl 1 rfl, hQ34.cellAt 5 rfl 0 rfl, hQ34.cellAt 5 rfl 1 rfl, hQ34.cellAt 5 rfl 2 rfl, hQ34.cellAt 5 rfl 3 rfl, hQ34.cellAt 5 rfl 4 rfl⟩
          (repeat (first | (apply t4_skip rfl (by rfl); try simp only [Act.put, sI, sZ, sS]) | (apply t4_float rfl (by rfl); (· (intro w' hS; go_simp <;> with_reducible rfl)); (try simp only [Act.put, sI, sZ, sS]))))
          refine t4_nil (NoPanic.normal ?_)
          have hsF31 : St w (((((w21.setCell ⟨w20.heap.size, 0, none⟩ (.int .i64 r0)).setCell ⟨w20.heap.size, 1, none⟩ (.slice aK1 r1.length cK1)).setCell ⟨w20.heap.size, 2, none⟩ (.slice aK2 r2.length cK2)).setCell ⟨w20.heap.size, 3, none⟩ (.slice aK3 r3.length cK3)).setCell ⟨w20.heap.size, 4, none⟩ (.slice aK4 r4.length cK4)).heap.size (((((w21.setCell ⟨w20.heap.size, 0, none⟩ (.int .i64 r0)).setCell ⟨w20.heap.size, 1, none⟩ (.slice aK1 r1.length cK1)).setCell ⟨w20.heap.size, 2, none⟩ (.slice aK2 r2.length cK2)).setCell ⟨w20.heap.size, 3, none⟩ (.slice aK3 r3.length cK3)).setCell ⟨w20.heap.size, 4, none⟩ (.slice aK4 r4.length cK4)) [(w.heap.size, #[.int .i64 x00, .slice a01 x01.length c01], 24), (w.heap.size + 1, #[.int .i64 x10, .slice a11 x11.length c11], 27), (gUF8, #[.int .i64 r0, .slice aW1 r1.length cW1, .slice aW2 r2.length cW2, .slice aW3 r3.length cW3, .slice aW4 r4.length cW4], 37), (w6.heap.size, #[.int .i64 x00, .slice ax01 x01.length cx01], 42), (w7.heap.size, #[.int .i64 x10, .slice ax11 x11.length cx11], 46), (w8.heap.size, #[.int .i64 r0, .slice aG1 r1.length cG1, .slice aG2 r2.length cG2, .slice aG3 r3.length cG3, .slice aG4 r4.length cG4], 37), (w20.heap.size, #[.int .i64 r0, .slice aK1 r1.length cK1, .slice aK2 r2.length cK2, .slice aK3 r3.length cK3, .slice aK4 r4.length cK4], 37)] := hQ47.up hQ47.hi (Nat.le_refl _)
          have hVF31 : w21.heap.size = (((((w21.setCell ⟨w20.heap.size, 0, none⟩ (.int .i64 r0)).setCell ⟨w20.heap.size, 1, none⟩ (.slice aK1 r1.length cK1)).setCell ⟨w20.heap.size, 2, none⟩ (.slice aK2 r2.length cK2)).setCell ⟨w20.heap.size, 3, none⟩ (.slice aK3 r3.length cK3)).setCell ⟨w20.heap.size, 4, none⟩ (.slice aK4 r4.length cK4)).heap.size := by simp [World.setCell]
          obtain ⟨loUF31, hiUF31, hUF31, JUF31⟩ : ∃ lo hi : Nat, (w18.heap.size ≤ lo ∧ hi ≤ w21.heap.size ∧ (w20.heap.size < lo ∨ hi ≤ w20.heap.size) ∧ w18.heap.size ≤ w20.heap.size ∧ w20.heap.size < w21.heap.size) ∧ Hid (Iv lo hi (((((w21.setCell ⟨w20.heap.size, 0, none⟩ (.int .i64 r0)).setCell ⟨w20.heap.size, 1, none⟩ (.slice aK1 r1.length cK1)).setCell ⟨w20.heap.size, 2, none⟩ (.slice aK2 r2.length cK2)).setCell ⟨w20.heap.size, 3, none⟩ (.slice aK3 r3.length cK3)).setCell ⟨w20.heap.size, 4, none⟩ (.slice aK4 r4.length cK4)) [.int .i64 r0, .slice aK1 r1.length cK1, .slice aK2 r2.length cK2, .slice aK3 r3.length cK3, .slice aK4 r4.length cK4] (r0, r1, r2, r3, r4)) := ⟨wF31A2.heap.size, w21.heap.size, by omega, JK'.out⟩
          rw [hVF31] at hUF31
          clear hVF31 JK'
          generalize hhwUF31 : (((((w21.setCell ⟨w20.heap.size, 0, none⟩ (.int .i64 r0)).setCell ⟨w20.heap.size, 1, none⟩ (.slice aK1 r1.length cK1)).setCell ⟨w20.heap.size, 2, none⟩ (.slice aK2 r2.length cK2)).setCell ⟨w20.heap.size, 3, none⟩ (.slice aK3 r3.length cK3)).setCell ⟨w20.heap.size, 4, none⟩ (.slice aK4 r4.length cK4)) = wUF31 at hsF31 hUF31 JUF31 JWF8_p24 HYG ⊢
          clear hhwUF31
          generalize hhgUF31 : w20.heap.size = gUF31 at hsF31 hUF31 JUF31 JWF8_p24 HYG ⊢
          clear hhgUF31
          generalize at01 = zat01 at hsF31 hUF31 JUF31 JWF8_p24 HYG ⊢
          generalize ct01 = zct01 at hsF31 hUF31 JUF31 JWF8_p24 HYG ⊢
          generalize at11 = zat11 at hsF31 hUF31 JUF31 JWF8_p24 HYG ⊢
          generalize ct11 = zct11 at hsF31 hUF31 JUF31 JWF8_p24 HYG ⊢
          generalize aK1 = zaK1 at hsF31 hUF31 JUF31 JWF8_p24 HYG ⊢
          generalize cK1 = zcK1 at hsF31 hUF31 JUF31 JWF8_p24 HYG ⊢
          generalize aK2 = zaK2 at hsF31 hUF31 JUF31 JWF8_p24 HYG ⊢
          generalize cK2 = zcK2 at hsF31 hUF31 JUF31 JWF8_p24 HYG ⊢
          generalize aK3 = zaK3 at hsF31 hUF31 JUF31 JWF8_p24 HYG ⊢
          generalize cK3 = zcK3 at hsF31 hUF31 JUF31 JWF8_p24 HYG ⊢
          generalize aK4 = zaK4 at hsF31 hUF31 JUF31 JWF8_p24 HYG ⊢
          generalize cK4 = zcK4 at hsF31 hUF31 JUF31 JWF8_p24 HYG ⊢
          revert HYG
          revert JWF8_p24
          revert JUF31
          revert hUF31
          revert hsF31
          revert zcK4
          revert zaK4
          revert zcK3
          revert zaK3
          revert zcK2
          revert zaK2
          revert zcK1
          revert zaK1
          revert zct11
          revert zat11
          revert zct01
          revert zat01
          revert hiUF31
          revert loUF31
          revert gUF31
          revert wUF31
          exact HJ.get
      · refine t4_hard rfl (by rfl) (fun K hK => ?_)
        go_wp2_with fail
        have hQ35 := hQ29.alloc #[.int .i64 0, .slice none 0 0, .slice none 0 0, .slice none 0 0, .slice none 0 0] 37 rfl
        have JWF8_p21 := Lib.hid (Iv.mono JWF8_p20.out (belowA _ (.cells #[.int .i64 0, .slice none 0 0, .slice none 0 0, .slice none 0 0, .slice none 0 0] 37)))
        try clear JWF8_p20
        have Jt0' := Lib.hid (Iv.mono Jt0.out (belowA _ (.cells #[.int .i64 0, .slice none 0 0, .slice none 0 0, .slice none 0 0, .slice none 0 0] 37)))
        try clear Jt0
        have HYG' := Lib.hid (Own.mono HYG.out (belowA _ (.cells #[.int .i64 0, .slice none 0 0, .slice none 0 0, .slice none 0 0, .slice none 0 0] 37)))
        try clear HYG
        have HYG := HYG'
        clear HYG'
        have hzF31A3 : w19.heap.size + 1 ≤ (w19.alloc (.cells #[.int .i64 0, .slice none 0 0, .slice none 0 0, .slice none 0 0, .slice none 0 0] 37)).heap.size := by simp
        generalize hgenF31A3 : w19.alloc (.cells #[.int .i64 0, .slice none 0 0, .slice none 0 0, .slice none 0 0, .slice none 0 0] 37) = wF31A3 at *
        have HGF31A3 := Lib.hid hgenF31A3
        clear hgenF31A3
        refine ⟨⟨hQ35.cellAt 0 rfl 0 rfl, hQ35.cellAt 0 rfl 1 rfl, hQ35.cellAt 1 rfl 0 rfl, hQ35.cellAt 1 rfl 1 rfl, hQ35.cellAt 2 rfl 0 rfl, hQ35.cellAt 2 rfl 1 rfl, hQ35.cellAt 2 rfl 2 rfl, hQ35.cellAt 2 rfl 3 rfl, hQ35.cellAt 2 rfl 4 rfl, hQ35.cellAt 3 rfl 0 rfl, hQ35.cellAt 3 rfl 1 rfl, hQ35.cellAt 4 rfl 0 rfl, hQ35.cellAt 4 rfl 1 rfl, hQ35.cellAt 5 rfl 0 rfl, hQ35.cellAt 5 rfl 1 rfl, hQ35.cellAt 5 rfl 2 rfl, hQ35.cellAt 5 rfl 3 rfl, hQ35.cellAt 5 rfl 4 rfl⟩, ?_⟩
        (repeat (first | (apply t4_skip rfl (by rfl); try simp only [Act.put, sI, sZ, sS]) | (apply t4_float rfl (by rfl); (· (intro w' hS; go_simp <;> with_reducible rfl)); (try simp only [Act.put, sI, sZ, sS]))))
        refine t4_hard rfl (by rfl) (fun K hK => ?_)
        go_wp2_with (go_at_call 13; refine (toInstance_b (x10, x11) _ _ _ (Rd.mono H1.out hQ35.bel) gc1).mono ?_; rintro e w20 ⟨ut10, ut11, rfl, frt1, hb20⟩)
        have JWF8_p22 := Lib.hid (Iv.mono JWF8_p21.out hb20)
        try clear JWF8_p21
        have Jt0'' := Lib.hid (Iv.mono Jt0'.out hb20)
        try clear Jt0'
        have hQ36 := hQ35.step hb20
        have hz17 : wF31A3.heap.size ≤ w20.heap.size := by simpa using hb20.size
        have Jt1 := Lib.hid (Fresh.iv frt1)
        have zt10 := rd_cons rfl (Iv.rd Jt1.out)
        obtain ⟨rfl, _⟩ := rd_i1 zt10.1
        obtain ⟨at11, ct11, rfl, _⟩ := rd_list zt10.2
        clear zt10
        clear frt1
        refine ⟨⟨hQ36.cellAt 0 rfl 0 rfl, hQ36.cellAt 0 rfl 1 rfl, hQ36.cellAt 1 rfl 0 rfl, hQ36.cellAt 1 rfl 1 rfl, hQ36.cellAt 2 rfl 0 rfl, hQ36.cellAt 2 rfl 1 rfl, hQ36.cellAt 2 rfl 2 rfl, hQ36.cellAt 2 rfl 3 rfl, hQ36.cellAt 2 rfl 4 rfl, hQ36.cellAt 3 rfl 0 rfl, hQ36.cellAt 3 rfl 1 rfl, hQ36.cellAt 4 rfl 0 rfl, hQ36.cellAt 4 rfl 1 rfl, hQ36.cellAt 5 rfl 0 rfl, hQ36.cellAt 5 rfl 1 rfl, hQ36.cellAt 5 rfl 2 rfl, hQ36.cellAt 5 rfl 3 rfl, hQ36.cellAt 5 rfl 4 rfl⟩, ?_⟩
        (repeat (first | (apply t4_skip rfl (by rfl); try simp only [Act.put, sI, sZ, sS]) | (apply t4_float rfl (by rfl); (· (intro w' hS; go_simp <;> with_reducible rfl)); (try simp only [Act.put, sI, sZ, sS]))))
        have HYG' := Lib.hid (Own.mono HYG.out hb20)
        try clear HYG
        have HYG := HYG'
        clear HYG'
        refine t4_hard rfl (by rfl) (fun K hK => ?_)
        go_wp2_with (go_at_call 31; refine (CI.out _ _ _ _ _ (Iv.rd Jt0''.out) (Iv.rd Jt1.out)).mono ?_; rintro e w21 ⟨uK0, uK1, uK2, uK3, uK4, rfl, frK, hb21⟩)
        have JWF8_p23 := Lib.hid (Iv.mono JWF8_p22.out hb21)
        try clear JWF8_p22
        have Jt0_p3 := Lib.hid (Iv.mono Jt0''.out hb21)
        try clear Jt0''
        have Jt1' := Lib.hid (Iv.mono Jt1.out hb21)
        try clear Jt1
        have hQ37 := hQ36.step hb21
        have hz18 : w20.heap.size ≤ w21.heap.size := by simpa using hb21.size
        have JK := Lib.hid (Fresh.iv frK)
        have zK0 := rd_cons rfl (Iv.rd JK.out)
        obtain ⟨rfl, _⟩ := rd_i1 zK0.1
        have zK1 := rd_cons rfl zK0.2
        obtain ⟨aK1, cK1, rfl, _⟩ := rd_list zK1.1
        have zK2 := rd_cons rfl zK1.2
        obtain ⟨aK2, cK2, rfl, _⟩ := rd_list zK2.1
        have zK3 := rd_cons rfl zK2.2
        obtain ⟨aK3, cK3, rfl, _⟩ := rd_list zK3.1
        obtain ⟨aK4, cK4, rfl, _⟩ := rd_list zK3.2
        clear zK0 zK1 zK2 zK3
        clear frK
        have HYG' := Lib.hid (Own.mono HYG.out hb21)
        try clear HYG
        have HYG := HYG'
        clear HYG'
        try clear Jt0_p3
        try clear Jt1'
        refine ⟨⟨hQ37.cellAt 0 rfl 0 rfl, hQ37.cellAt 0 rfl 1 rfl, hQ37.cellAt 1 rfl 0 rfl, hQ37.cellAt 1 rfl 1 rfl, hQ37.cellAt 2 rfl 0 rfl, hQ37.cellAt 2 rfl 1 rfl, hQ37.cellAt 2 rfl 2 rfl, hQ37.cellAt 2 rfl 3 rfl, hQ37.cellAt 2 rfl 4 rfl, hQ37.cellAt 3 rfl 0 rfl, hQ37.cellAt 3 rfl 1 rfl, hQ37.cellAt 4 rfl 0 rfl, hQ37.cellAt 4 rfl 1 rfl, hQ37.cellAt 5 rfl 0 rfl, hQ37.cellAt 5 rfl 1 rfl, hQ37.cellAt 5 rfl 2 rfl, hQ37.cellAt 5 rfl 3 rfl, hQ37.cellAt 5 rfl 4 rfl⟩, ?_⟩
        (repeat (first | (apply t4_skip rfl (by rfl); try simp only [Act.put, sI, sZ, sS]) | (apply t4_float rfl (by rfl); (· (intro w' hS; go_simp <;> with_reducible rfl)); (try simp only [Act.put, sI, sZ, sS]))))
        refine t4_hard rfl (by rfl) (fun K hK => ?_)
        have fF310 := hQ37.freeAt 6 rfl 0
        have cF310 := hQ37.cellAt 6 rfl 0 rfl
        have fF311 := hQ37.freeAt 6 rfl 1
        have cF311 := hQ37.cellAt 6 rfl 1 rfl
        have fF312 := hQ37.freeAt 6 rfl 2
        have cF312 := hQ37.cellAt 6 rfl 2 rfl
        have fF313 := hQ37.freeAt 6 rfl 3
        have cF313 := hQ37.cellAt 6 rfl 3 rfl
        have fF314 := hQ37.freeAt 6 rfl 4
        have cF314 := hQ37.cellAt 6 rfl 4 rfl
        go_wp2_with fail
        have hQ48 := (((((hQ37.set (p := [_, _, _, _, _, _]) (by simp <;> omega) 0 (.int .i64 r0)).set (p := [_, _, _, _, _, _]) (by simp <;> omega) 1 (.slice aK1 r1.length cK1)).set (p := [_, _, _, _, _, _]) (by simp <;> omega) 2 (.slice aK2 r2.length cK2)).set (p := [_, _, _, _, _, _]) (by simp <;> omega) 3 (.slice aK3 r3.length cK3)).set (p := [_, _, _, _, _, _]) (by simp <;> omega) 4 (.slice aK4 r4.length cK4))
        have JWF8_p24 := Lib.hid (Iv.setOut (Iv.setOut (Iv.setOut (Iv.setOut (Iv.setOut JWF8_p23.out (a := ⟨w19.heap.size, 0, none⟩) (by first | (left; simp only; first | done | omega) | (right; simp only; first | done | omega)) (.int .i64 r0)) (a := ⟨w19.heap.size, 1, none⟩) (by first | (left; simp only; first | done | omega) | (right; simp only; first | done | omega)) (.slice aK1 r1.length cK1)) (a := ⟨w19.heap.size, 2, none⟩) (by first | (left; simp only; first | done | omega) | (right; simp only; first | done | omega)) (.slice aK2 r2.length cK2)) (a := ⟨w19.heap.size, 3, none⟩) (by first | (left; simp only; first | done | omega) | (right; simp only; first | done | omega)) (.slice aK3 r3.length cK3)) (a := ⟨w19.heap.size, 4, none⟩) (by first | (left; simp only; first | done | omega) | (right; simp only; first | done | omega)) (.slice aK4 r4.length cK4))
        try clear JWF8_p23
        have JK' := Lib.hid (Iv.setOut (Iv.setOut (Iv.setOut (Iv.setOut (Iv.setOut JK.out (a := ⟨w19.heap.size, 0, none⟩) (by first | (left; simp only; first | done | omega) | (right; simp only; first | done | omega)) (.int .i64 r0)) (a := ⟨w19.heap.size, 1, none⟩) (by first | (left; simp only; first | done | omega) | (right; simp only; first | done | omega)) (.slice aK1 r1.length cK1)) (a := ⟨w19.heap.size, 2, none⟩) (by first | (left; simp only; first | done | omega) | (right; simp only; first | done | omega)) (.slice aK2 r2.length cK2)) (a := ⟨w19.heap.size, 3, none⟩) (by first | (left; simp only; first | done | omega) | (right; simp only; first | done | omega)) (.slice aK3 r3.length cK3)) (a := ⟨w19.heap.size, 4, none⟩) (by first | (left; simp only; first | done | omega) | (right; simp only; first | done | omega)) (.slice aK4 r4.length cK4))
        try clear JK
        have HYG' := Lib.hid (own_setOut (own_setOut (own_setOut (own_setOut (own_setOut HYG.out (b := w19.heap.size) (o := 0) (fun hk => by have := hqG _ hk; omega) (.int .i64 r0)) (b := w19.heap.size) (o := 1) (fun hk => by have := hqG _ hk; omega) (.slice aK1 r1.length cK1)) (b := w19.heap.size) (o := 2) (fun hk => by have := hqG _ hk; omega) (.slice aK2 r2.length cK2)) (b := w19.heap.size) (o := 3) (fun hk => by have := hqG _ hk; omega) (.slice aK3 r3.length cK3)) (b := w19.heap.size) (o := 4) (fun hk => by have := hqG _ hk; omega) (.slice aK4 r4.length cK4))
        try clear HYG
        have HYG := HYG'
        clear HYG'
        clear fF310 cF310 fF311 cF311 fF312 cF312 fF313 cF313 fF314 cF314
        refine ⟨?_, ?_⟩
        · first | (have u9 : w21.cell? ⟨w.heap.size, 0, none⟩ = some (.int .i64 x00) ∧ w21.cell? ⟨w.heap.size, 1, none⟩ = some (.slice a01 x01.length c01) ∧ w21.cell? ⟨w.heap.size + 1, 0, none⟩ = some (.int .i64 x10) ∧ w21.cell? ⟨w.heap.size + 1, 1, none⟩ = some (.slice a11 x11.length c11) ∧ w21.cell? ⟨gUF8, 0, none⟩ = some (.int .i64 r0) ∧ w21.cell? ⟨gUF8, 1, none⟩ = some (.slice aW1 r1.length cW1) ∧ w21.cell? ⟨gUF8, 2, none⟩ = some (.slice aW2 r2.length cW2) ∧ w21.cell? ⟨gUF8, 3, none⟩ = some (.slice aW3 r3.length cW3) ∧ w21.cell? ⟨gUF8, 4, none⟩ = some (.slice aW4 r4.length cW4) ∧ w21.cell? ⟨w6.heap.size, 0, none⟩ = some (.int .i64 x00) ∧ w21.cell? ⟨w6.heap.size, 1, none⟩ = some (.slice ax01 x01.length cx01) ∧ w21.cell? ⟨w7.heap.size, 0, none⟩ = some (.int .i64 x10) ∧ w21.cell? ⟨w7.heap.size, 1, none⟩ = some (.slice ax11 x11.length cx11) ∧ w21.cell? ⟨w8.heap.size, 0, none⟩ = some (.int .i64 r0) ∧ w21.cell? ⟨w8.heap.size, 1, none⟩ = some (.slice aG1 r1.length cG1) ∧ w21.cell? ⟨w8.heap.size, 2, none⟩ = some (.slice aG2 r2.length cG2) ∧ w21.cell? ⟨w8.heap.size, 3, none⟩ = some (.slice aG3 r3.length cG3) ∧ w21.cell? ⟨w8.heap.size, 4, none⟩ = some (.slice aG4 r4.length cG4) := ⟨hQ37.cellAt 0 rfl 0 rfl, hQ37.cellAt 0 rfl 1 rfl, hQ37.cellAt 1 rfl 0 rfl, hQ37.cellAt 1 rfl 1 rfl, hQ37.cellAt 2 rfl 0 rfl, hQ37.cellAt 2 rfl 1 rfl, hQ37.cellAt 2 rfl 2 rfl, hQ37.cellAt 2 rfl 3 rfl, hQ37.cellAt 2 rfl 4 rfl, hQ37.cellAt 3 rfl 0 rfl, hQ37.cellAt 3 rfl 1 rfl, hQ37.cellAt 4 rfl 0 rfl, hQ37.cellAt 4 rfl 1 rfl, hQ37.cellAt 5 rfl 0 rfl, hQ37.cellAt 5 rfl 1 rfl, hQ37.cellAt 5 rfl 2 rfl, hQ37.cellAt 5 rfl 3 rfl, hQ37.cellAt 5 rfl 4 rfl⟩; with_reducible exact u9) | (have u9 : (((((w21.setCell ⟨w19.heap.size, 0, none⟩ (.int .i64 r0)).setCell ⟨w19.heap.size, 1, none⟩ (.slice aK1 r1.length cK1)).setCell ⟨w19.heap.size, 2, none⟩ (.slice aK2 r2.length cK2)).setCell ⟨w19.heap.size, 3, none⟩ (.slice aK3 r3.length cK3)).setCell ⟨w19.heap.size, 4, none⟩ (.slice aK4 r4.length cK4)).cell? ⟨w.heap.size, 0, none⟩ = some (.int .i64 x00) ∧ (((((w21.setCell ⟨w19.heap.size, 0, none⟩ (.int .i64 r0)).setCell ⟨w19.heap.size, 1, none⟩ (.slice aK1 r1.length cK1)).setCell ⟨w19.heap.size, 2, none⟩ (.slice aK2 r2.length cK2)).setCell ⟨w19.heap.size, 3, none⟩ (.slice aK3 r3.length cK3)).setCell ⟨w19.heap.size, 4, none⟩ (.slice aK4 r4.length cK4)).cell? ⟨w.heap.size, 1, none⟩ = some (.slice a01 x01.length c01) ∧ (((((w21.setCell ⟨w19.heap.size, 0, none⟩ (.int .i64 r0)).setCell ⟨w19.heap.size, 1, none⟩ (.slice aK1 r1.length cK1)).setCell ⟨w19.heap.size, 2, none⟩ (.slice aK2 r2.length cK2)).setCell ⟨w19.heap.size, 3, none⟩ (.slice aK3 r3.length cK3)).setCell ⟨w19.heap.size, 4, none⟩ (.slice aK4 r4.length cK4)).cell? ⟨w.heap.size + 1, 0, none⟩ = some (.int .i64 x10) ∧ (((((w21.setCell ⟨w19.heap.size, 0, none⟩ (.int .i64 r0)).setCell ⟨w19.heap.size, 1, none⟩ (.slice aK1 r1.length cK1)).setCell ⟨w19.heap.size, 2, none⟩ (.slice aK2 r2.length cK2)).setCell ⟨w19.heap.size, 3, none⟩ (.slice aK3 r3.length cK3)).setCell ⟨w19.heap.size, 4, none⟩ (.slice aK4 r4.length cK4)).cell? ⟨w.heap.size + 1, 1, none⟩ = some (.slice a11 x11.length c11) ∧ (((((w21.setCell ⟨w19.heap.size, 0, none⟩ (.int .i64 r0)).setCell ⟨w19.heap.size, 1, none⟩ (.slice aK1 r1.length cK1)).setCell ⟨w19.heap.size, 2, none⟩ (.slice aK2 r2.length cK2)).setCell ⟨w19.heap.size, 3, none⟩ (.slice aK3 r3.length cK3)).setCell ⟨w19.heap.size, 4, none⟩ (.slice aK4 r4.length cK4)).cell? ⟨gUF8, 0, none⟩ = some (.int .i64 r0) ∧ (((((w21.setCell ⟨w19.heap.size, 0, none⟩ (.int .i64 r0)).setCell ⟨w19.heap.size, 1, none⟩ (.slice aK1 r1.length cK1)).setCell ⟨w19.heap.size, 2, none⟩ (.slice aK2 r2.length cK2)).setCell ⟨w19.heap.size, 3, none⟩ (.slice aK3 r3.length cK3)).setCell ⟨w19.heap.size, 4, none⟩ (.slice aK4 r4.length cK4)).cell? ⟨gUF8, 1, none⟩ = some (.slice aW1 r1.length cW1) ∧ (((((w21.setCell ⟨w19.heap.size, 0, none⟩ (.int .i64 r0)).setCell ⟨w19.heap.size, 1, none⟩ (.slice aK1 r1.length cK1)).setCell ⟨w19.heap.size, 2, none⟩ (.slice aK2 r2.length cK2)).setCell ⟨w19.heap.size, 3, none⟩ (.slice aK3 r3.length cK3)).setCell ⟨w19.heap.size, 4, none⟩ (.slice aK4 r4.length cK4)).cell? ⟨gUF8, 2, none⟩ = some (.slice aW2 r2.length cW2) ∧ (((((w21.setCell ⟨w19.heap.size, 0, none⟩ (.int .i64 r0)).setCell ⟨w19.heap.size, 1, none⟩ (.slice aK1 r1.length cK1)).setCell ⟨w19.heap.size, 2, none⟩ (.slice aK2 r2.length cK2)).setCell ⟨w19.heap.size, 3, none⟩ (.slice aK3 r3.length cK3)).setCell ⟨w19.heap.size, 4, none⟩ (.slice aK4 r4.length cK4)).cell? ⟨gUF8, 3, none⟩ = some (.slice aW3 r3.length cW3) ∧ (((((w21.setCell ⟨w19.heap.size, 0, none⟩ (.int .i64 r0)).setCell ⟨w19.heap.size, 1, none⟩ (.slice aK1 r1.length cK1)).setCell ⟨w19.heap.size, 2, none⟩ (.slice aK2 r2.length cK2)).setCell ⟨w19.heap.size, 3, none⟩ (.slice aK3 r3.length cK3)).setCell ⟨w19.heap.size, 4, none⟩ (.slice aK4 r4.length cK4)).cell? ⟨gUF8, 4, none⟩ = some (.slice aW4 r4.length cW4) ∧ (((((w21.setCell ⟨w19.heap.size, 0, none⟩ (.int .i64 r0)).setCell ⟨w19.heap.size, 1, none⟩ (.slice aK1 r1.length cK1)).setCell ⟨w19.heap.size, 2, none⟩ (.slice aK2 r2.length cK2)).setCell ⟨w19.heap.size, 3, none⟩ (.slice aK3 r3.length cK3)).setCell ⟨w19.heap.size, 4, none⟩ (.slice aK4 r4.length cK4)).cell? ⟨w6.heap.size, 0, none⟩ = some (.int .i64 x00) ∧ (((((w21.setCell ⟨w19.heap.size, 0, none⟩ (.int .i64 r0)).setCell ⟨w19.heap.size, 1, none⟩ (.slice aK1 r1.length cK1)).setCell ⟨w19.heap.size, 2, none⟩ (.slice aK2 r2.length cK2)).setCell ⟨w19.heap.size, 3, none⟩ (.slice aK3 r3.length cK3)).setCell ⟨w19.heap.size, 4, none⟩ (.slice aK4 r4.length cK4)).cell? ⟨w6.heap.size, 1, none⟩ = some (.slice ax01 x01.length cx01) ∧ (((((w21.setCell ⟨w19.heap.size, 0, none⟩ (.int .i64 r0)).setCell ⟨w19.heap.size, 1, none⟩ (.slice aK1 r1.length cK1)).setCell ⟨w19.heap.size, 2, none⟩ (.slice aK2 r2.length cK2)).setCell ⟨w19.heap.size, 3, none⟩ (.slice aK3 r3.length cK3)).setCell ⟨w19.heap.size, 4, none⟩ (.slice aK4 r4.length cK4)).cell? ⟨w7.heap.size, 0, none⟩ = some (.int .i64 x10) ∧ (((((w21.setCell ⟨w19.heap.size, 0, none⟩ (.int .i64 r0)).setCell ⟨w19.heap.size, 1, none⟩ (.slice aK1 r1.length cK1)).setCell ⟨w19.heap.size, 2, none⟩ (.slice aK2 r2.length cK2)).setCell ⟨w19.heap.size, 3, none⟩ (.slice aK3 r3.length cK3)).setCell ⟨w19.heap.size, 4, none⟩ (.slice aK4 r4.length cK4)).cell? ⟨w7.heap.size, 1, none⟩ = some (.slice ax11 x11.length cx11) ∧ (((((w21.setCell ⟨w19.heap.size, 0, none⟩ (.int .i64 r0)).setCell ⟨w19.heap.size, 1, none⟩ (.slice aK1 r1.length cK1)).setCell ⟨w19.heap.size, 2, none⟩ (.slice aK2 r2.length cK2)).setCell ⟨w19.heap.size, 3, none⟩ (.slice aK3 r3.length cK3)).setCell ⟨w19.heap.size, 4, none⟩ (.slice aK4 r4.length cK4)).cell? ⟨w8.heap.size, 0, none⟩ = some (.int .i64 r0) ∧ (((((w21.setCell ⟨w19.heap.size, 0, none⟩ (.int .i64 r0)).setCell ⟨w19.heap.size, 1, none⟩ (.slice aK1 r1.length cK1)).setCell ⟨w19.heap.size, 2, none⟩ (.slice aK2 r2.length cK2)).setCell ⟨w19.heap.size, 3, none⟩ (.slice aK3 r3.length cK3)).setCell ⟨w19.heap.size, 4, none⟩ (.slice aK4 r4.length cK4)).cell? ⟨w8.heap.size, 1, none⟩ = some (.slice aG1 r1.length cG1) ∧ (((((w21.setCell ⟨w19.heap.size, 0, none⟩ (.int .i64 r0)).setCell ⟨w19.heap.size, 1, none⟩ (.slice aK1 r1.length cK1)).setCell ⟨w19.heap.size, 2, none⟩ (.slice aK2 r2.length cK2)).setCell ⟨w19.heap.size, 3, none⟩ (.slice aK3 r3.length cK3)).setCell ⟨w19.heap.size, 4, none⟩ (.slice aK4 r4.length cK4)).cell? ⟨w8.heap.size, 2, none⟩ = some (.slice aG2 r2.length cG2) ∧ (((((w21.setCell ⟨w19.heap.size, 0, none⟩ (.int .i64 r0)).setCell ⟨w19.heap.size, 1, none⟩ (.slice aK1 r1.length cK1)).setCell ⟨w19.heap.size, 2, none⟩ (.slice aK2 r2.length cK2)).setCell ⟨w19.heap.size, 3, none⟩ (.slice aK3 r3.length cK3)).setCell ⟨w19.heap.size, 4, none⟩ (.slice aK4 r4.length cK4)).cell? ⟨w8.heap.size, 3, none⟩ = some (.slice aG3 r3.length cG3) ∧ (((((w21.setCell ⟨w19.heap.size, 0, none⟩ (.int .i64 r0)).setCell ⟨w19.heap.size, 1, none⟩ (.slice aK1 r1.length cK1)).setCell ⟨w19.heap.size, 2, none⟩ (.slice aK2 r2.length cK2)).setCell ⟨w19.heap.size, 3, none⟩ (.slice aK3 r3.length cK3)).setCell ⟨w19.heap.size, 4, none⟩ (.slice aK4 r4.length cK4)).cell? ⟨w8.heap.size, 4, none⟩ = some (.slice aG4 r4.length cG4) := ⟨hQ48.cellAt 0 rfl 0 rfl, hQ48.cellAt 0 rfl 1 rfl, hQ48.cellAt 1 rfl 0 rfl, hQ48.cellAt 1 rfl 1 rfl, hQ48.cellAt 2 rfl 0 rfl, hQ48.cellAt 2 rfl 1 rfl, hQ48.cellAt 2 rfl 2 rfl, hQ48.cellAt 2 rfl 3 rfl, hQ48.cellAt 2 rfl 4 rfl, hQ48.cellAt 3 rfl 0 rfl, hQ48.cellAt 3 rfl 1 rfl, hQ48.cellAt 4 rfl 0 rfl, hQ48.cellAt 4 rfl 1 rfl, hQ48.cellAt 5 rfl 0 rfl, hQ48.cellAt 5 rfl 1 rfl, hQ48.cellAt 5 rfl 2 rfl, hQ48.cellAt 5 rfl 3 rfl, hQ48.cellAt 5 rfl 4 rfl⟩; with_reducible exact u9) | exact ⟨hQ48.cellAt 0 rfl 0 rfl, hQ48.cellAt 0 rfl 1 rfl, hQ48.cellAt 1 rfl 0 rfl, hQ48.cellAt 1 rfl 1 rfl, hQ48.cellAt 2 rfl 0 rfl, hQ48.cellAt 2 rfl 1 rfl, hQ48.cellAt 2 rfl 2 rfl, hQ48.cellAt 2 rfl 3 rfl, hQ48.cellAt 2 rfl 4 rfl, hQ48.cellAt 3 rfl 0 rfl, hQ48.cellAt 3 rfl 1 rfl, hQ48.cellAt 4 rfl 0 rfl, hQ48.cellAt 4 rfl 1 rfl, hQ48.cellAt 5 rfl 0 rfl, hQ48.cellAt 5 rfl 1 rfl, hQ48.cellAt 5 rfl 2 rfl, hQ48.cellAt 5 rfl 3 rfl, hQ48.cellAt 5 rfl 4 rfl⟩ | exact ⟨hQ37.cellAt 0 rfl 0 rfl, hQ37.cellAt 0 rfl 1 rfl, hQ37.cellAt 1 rfl 0 rfl, hQ37.cellAt 1 rfl 1 rfl, hQ37.cellAt 2 rfl 0 rfl, hQ37.cellAt 2 rfl 1 rfl, hQ37.cellAt 2 rfl 2 rfl, hQ37.cellAt 2 rfl 3 rfl, hQ37.cellAt 2 rfl 4 rfl, hQ37.cellAt 3 rfl 0 rfl, hQ37.cellAt 3 rfl 1 rfl, hQ37.cellAt 4 rfl 0 rfl, hQ37.cellAt 4 rfl 1 rfl, hQ37.cellAt 5 rfl 0 rfl, hQ37.cellAt 5 rfl 1 rfl, hQ37.cellAt 5 rfl 2 rfl, hQ37.cellAt 5 rfl 3 rfl, hQ37.cellAt 5 rfl 4 rfl⟩
        (repeat (first | (apply t4_skip rfl (by rfl); try simp only [Act.put, sI, sZ, sS]) | (apply t4_float rfl (by rfl); (· (intro w' hS; go_simp <;> with_reducible rfl)); (try simp only [Act.put, sI, sZ, sS]))))
        refine t4_nil (NoPanic.normal ?_)
        have hsF31 : St w (((((w21.setCell ⟨w19.heap.size, 0, none⟩ (.int .i64 r0)).setCell ⟨w19.heap.size, 1, none⟩ (.slice aK1 r1.length cK1)).setCell ⟨w19.heap.size, 2, none⟩ (.slice aK2 r2.length cK2)).setCell ⟨w19.heap.size, 3, none⟩ (.slice aK3 r3.length cK3)).setCell ⟨w19.heap.size, 4, none⟩ (.slice aK4 r4.length cK4)).heap.size (((((w21.setCell ⟨w19.heap.size, 0, none⟩ (.int .i64 r0)).setCell ⟨w19.heap.size, 1, none⟩ (.slice aK1 r1.length cK1)).setCell ⟨w19.heap.size, 2, none⟩ (.slice aK2 r2.length cK2)).setCell ⟨w19.heap.size, 3, none⟩ (.slice aK3 r3.length cK3)).setCell ⟨w19.heap.size, 4, none⟩ (.slice aK4 r4.length cK4)) [(w.heap.size, #[.int .i64 x00, .slice a01 x01.length c01], 24), (w.heap.size + 1, #[.int .i64 x10, .slice a11 x11.length c11], 27), (gUF8, #[.int .i64 r0, .slice aW1 r1.length cW1, .slice aW2 r2.length cW2, .slice aW3 r3.length cW3, .slice aW4 r4.length cW4], 37), (w6.heap.size, #[.int .i64 x00, .slice ax01 x01.length cx01], 42), (w7.heap.size, #[.int .i64 x10, .slice ax11 x11.length cx11], 46), (w8.heap.size, #[.int .i64 r0, .slice aG1 r1.length cG1, .slice aG2 r2.length cG2, .slice aG3 r3.length cG3, .slice aG4 r4.length cG4], 37), (w19.heap.size, #[.int .i64 r0, .slice aK1 r1.length cK1, .slice aK2 r2.length cK2, .slice aK3 r3.length cK3, .slice aK4 r4.length cK4], 37)] := hQ48.up hQ48.hi (Nat.le_refl _)
        have hVF31 : w21.heap.size = (((((w21.setCell ⟨w19.heap.size, 0, none⟩ (.int .i64 r0)).setCell ⟨w19.heap.size, 1, none⟩ (.slice aK1 r1.length cK1)).setCell ⟨w19.heap.size, 2, none⟩ (.slice aK2 r2.length cK2)).setCell ⟨w19.heap.size, 3, none⟩ (.slice aK3 r3.length cK3)).setCell ⟨w19.heap.size, 4, none⟩ (.slice aK4 r4.length cK4)).heap.size := by simp [World.setCell]
        obtain ⟨loUF31, hiUF31, hUF31, JUF31⟩ : ∃ lo hi : Nat, (w18.heap.size ≤ lo ∧ hi ≤ w21.heap.size ∧ (w19.heap.size < lo ∨ hi ≤ w19.heap.size) ∧ w18.heap.size ≤ w19.heap.size ∧ w19.heap.size < w21.heap.size) ∧ Hid (Iv lo hi (((((w21.setCell ⟨w19.heap.size, 0, none⟩ (.int .i64 r0)).setCell ⟨w19.heap.size, 1, none⟩ (.slice aK1 r1.length cK1)).setCell ⟨w19.heap.size, 2, none⟩ (.slice aK2 r2.length cK2)).setCell ⟨w19.heap.size, 3, none⟩ (.slice aK3 r3.length cK3)).setCell ⟨w19.heap.size, 4, none⟩ (.slice aK4 r4.length cK4)) [.int .i64 r0, .slice aK1 r1.length cK1, .slice aK2 r2.length cK2, .slice aK3 r3.length cK3, .slice aK4 r4.length cK4] (r0, r1, r2, r3, r4)) := ⟨w20.heap.size, w21.heap.size, by omega, JK'.out⟩
        rw [hVF31] at hUF31
        clear hVF31 JK'
        generalize hhwUF31 : (((((w21.setCell ⟨w19.heap.size, 0, none⟩ (.int .i64 r0)).setCell ⟨w19.heap.size, 1, none⟩ (.slice aK1 r1.length cK1)).setCell ⟨w19.heap.size, 2, none⟩ (.slice aK2 r2.length cK2)).setCell ⟨w19.heap.size, 3, none⟩ (.slice aK3 r3.length cK3)).setCell ⟨w19.heap.size, 4, none⟩ (.slice aK4 r4.length cK4)) = wUF31 at hsF31 hUF31 JUF31 JWF8_p24 HYG ⊢
        clear hhwUF31
        generalize hhgUF31 : w19.heap.size = gUF31 at hsF31 hUF31 JUF31 JWF8_p24 HYG ⊢
        clear hhgUF31
        generalize at01 = zat01 at hsF31 hUF31 JUF31 JWF8_p24 HYG ⊢
        generalize ct01 = zct01 at hsF31 hUF31 JUF31 JWF8_p24 HYG ⊢
        generalize at11 = zat11 at hsF31 hUF31 JUF31 JWF8_p24 HYG ⊢
        generalize ct11 = zct11 at hsF31 hUF31 JUF31 JWF8_p24 HYG ⊢
        generalize aK1 = zaK1 at hsF31 hUF31 JUF31 JWF8_p24 HYG ⊢
        generalize cK1 = zcK1 at hsF31 hUF31 JUF31 JWF8_p24 HYG ⊢
        generalize aK2 = zaK2 at hsF31 hUF31 JUF31 JWF8_p24 HYG ⊢
        generalize cK2 = zcK2 at hsF31 hUF31 JUF31 JWF8_p24 HYG ⊢
        generalize aK3 = zaK3 at hsF31 hUF31 JUF31 JWF8_p24 HYG ⊢
        generalize cK3 = zcK3 at hsF31 hUF31 JUF31 JWF8_p24 HYG ⊢
        generalize aK4 = zaK4 at hsF31 hUF31 JUF31 JWF8_p24 HYG ⊢
        generalize cK4 = zcK4 at hsF31 hUF31 JUF31 JWF8_p24 HYG ⊢
        revert HYG
        revert JWF8_p24
        revert JUF31
        revert hUF31
        revert hsF31
        revert zcK4
        revert zaK4
        revert zcK3
        revert zaK3
        revert zcK2
        revert zaK2
        revert zcK1
        revert zaK1
        revert zct11
        revert zat11
        revert zct01
        revert zat01
        revert hiUF31
        revert loUF31
        revert gUF31
        revert wUF31
        exact HJ.get
    · refine t4_hard rfl (by rfl) (fun K hK => ?_)
      go_wp2_with fail
      have hQ38 := hQ28.alloc #[.int .i64 0, .slice none 0 0, .slice none 0 0, .slice none 0 0, .slice none 0 0] 37 rfl
      have JWF8_p20 := Lib.hid (Iv.mono JWF8_p19.out (belowA _ (.cells #[.int .i64 0, .slice none 0 0, .slice none 0 0, .slice none 0 0, .slice none 0 0] 37)))
      try clear JWF8_p19
      have HYG' := Lib.hid (Own.mono HYG.out (belowA _ (.cells #[.int .i64 0, .slice none 0 0, .slice none 0 0, .slice none 0 0, .slice none 0 0] 37)))
      try clear HYG
      have HYG := HYG'
      clear HYG'
      have hzF31A4 : wF31.heap.size + 1 ≤ (wF31.alloc (.cells #[.int .i64 0, .slice none 0 0, .slice none 0 0, .slice none 0 0, .slice none 0 0] 37)).heap.size := by simp
      generalize hgenF31A4 : wF31.alloc (.cells #[.int .i64 0, .slice none 0 0, .slice none 0 0, .slice none 0 0, .slice none 0 0] 37) = wF31A4 at *
      have HGF31A4 := Lib.hid hgenF31A4
      clear hgenF31A4
      refine ⟨⟨hQ38.cellAt 0 rfl 0 rfl, hQ38.cellAt 0 rfl 1 rfl, hQ38.cellAt 1 rfl 0 rfl, hQ38.cellAt 1 rfl 1 rfl, hQ38.cellAt 2 rfl 0 rfl, hQ38.cellAt 2 rfl 1 rfl, hQ38.cellAt 2 rfl 2 rfl, hQ38.cellAt 2 rfl 3 rfl, hQ38.cellAt 2 rfl 4 rfl, hQ38.cellAt 3 rfl 0 rfl, hQ38.cellAt 3 rfl 1 rfl, hQ38.cellAt 4 rfl 0 rfl, hQ38.cellAt 4 rfl 1 rfl, hQ38.cellAt 5 rfl 0 rfl, hQ38.cellAt 5 rfl 1 rfl, hQ38.cellAt 5 rfl 2 rfl, hQ38.cellAt 5 rfl 3 rfl, hQ38.cellAt 5 rfl 4 rfl⟩, ?_⟩
      (repeat (first | (apply t4_skip rfl (by rfl); try simp only [Act.put, sI, sZ, sS]) | (apply t4_float rfl (by rfl); (· (intro w' hS; go_simp <;> with_reducible rfl)); (try simp only [Act.put, sI, sZ, sS]))))
      refine t4_hard rfl (by rfl) (fun K hK => ?_)
      go_wp2_with (go_at_call 12; refine (toTemplate_b (x00, x01) _ _ _ (Rd.mono H0.out hQ38.bel) gc0).mono ?_; rintro e w19 ⟨ut00, ut01, rfl, frt0, hb19⟩)
      have JWF8_p21 := Lib.hid (Iv.mono JWF8_p20.out hb19)
      try clear JWF8_p20
      have hQ39 := hQ38.step hb19
      have hz16 : wF31A4.heap.size ≤ w19.heap.size := by simpa using hb19.size
      have Jt0 := Lib.hid (Fresh.iv frt0)
      have zt00 := rd_cons rfl (Iv.rd Jt0.out)
      obtain ⟨rfl, _⟩ := rd_i1 zt00.1
      obtain ⟨at01, ct01, rfl, _⟩ := rd_list zt00.2
      clear zt00
      clear frt0
      refine ⟨⟨hQ39.cellAt 0 rfl 0 rfl, hQ39.cellAt 0 rfl 1 rfl, hQ39.cellAt 1 rfl 0 rfl, hQ39.cellAt 1 rfl 1 rfl, hQ39.cellAt 2 rfl 0 rfl, hQ39.cellAt 2 rfl 1 rfl, hQ39.cellAt 2 rfl 2 rfl, hQ39.cellAt 2 rfl 3 rfl, hQ39.cellAt 2 rfl 4 rfl, hQ39.cellAt 3 rfl 0 rfl, hQ39.cellAt 3 rfl 1 rfl, hQ39.cellAt 4 rfl 0 rfl, hQ39.cellAt 4 rfl 1 rfl, hQ39.cellAt 5 rfl 0 rfl, hQ39.cellAt 5 rfl 1 rfl, hQ39.cellAt 5 rfl 2 rfl, hQ39.cellAt 5 rfl 3 rfl, hQ39.cellAt 5 rfl 4 rfl⟩, ?_⟩
      (repeat (first | (apply t4_skip rfl (by rfl); try simp only [Act.put, sI, sZ, sS]) | (apply t4_float rfl (by rfl); (· (intro w' hS; go_simp <;> with_reducible rfl)); (try simp only [Act.put, sI, sZ, sS]))))
      have HYG' := Lib.hid (Own.mono HYG.out hb19)
      try clear HYG
      have HYG := HYG'
      clear HYG'
      refine t4_hard rfl (by rfl) (fun K hK => ?_)
      go_wp2_with (go_at_call 13; refine (toInstance_b (x10, x11) _ _ _ (Rd.mono H1.out hQ39.bel) gc1).mono ?_; rintro e w20 ⟨ut10, ut11, rfl, frt1, hb20⟩)
      have JWF8_p22 := Lib.hid (Iv.mono JWF8_p21.out hb20)
      try clear JWF8_p21
      have Jt0' := Lib.hid (Iv.mono Jt0.out hb20)
      try clear Jt0
      have hQ40 := hQ39.step hb20
      have hz17 : w19.heap.size ≤ w20.heap.size := by simpa using hb20.size
      have Jt1 := Lib.hid (Fresh.iv frt1)
      have zt10 := rd_cons rfl (Iv.rd Jt1.out)
      obtain ⟨rfl, _⟩ := rd_i1 zt10.1
      obtain ⟨at11, ct11, rfl, _⟩ := rd_list zt10.2
      clear zt10
      clear frt1
      refine ⟨⟨hQ40.cellAt 0 rfl 0 rfl, hQ40.cellAt 0 rfl 1 rfl, hQ40.cellAt 1 rfl 0 rfl, hQ40.cellAt 1 rfl 1 rfl, hQ40.cellAt 2 rfl 0 rfl, hQ40.cellAt 2 rfl 1 rfl, hQ40.cellAt 2 rfl 2 rfl, hQ40.cellAt 2 rfl 3 rfl, hQ40.cellAt 2 rfl 4 rfl, hQ40.cellAt 3 rfl 0 rfl, hQ40.cellAt 3 rfl 1 rfl, hQ40.cellAt 4 rfl 0 rfl, hQ40.cellAt 4 rfl 1 rfl, hQ40.cellAt 5 rfl 0 rfl, hQ40.cellAt 5 rfl 1 rfl, hQ40.cellAt 5 rfl 2 rfl, hQ40.cellAt 5 rfl 3 rfl, hQ40.cellAt 5 rfl 4 rfl⟩, ?_⟩
      (repeat (first | (apply t4_skip rfl (by rfl); try simp only [Act.put, sI, sZ, sS]) | (apply t4_float rfl (by rfl); (· (intro w' hS; go_simp <;> with_reducible rfl)); (try simp only [Act.put, sI, sZ, sS]))))
      have HYG' := Lib.hid (Own.mono HYG.out hb20)
      try clear HYG
      have HYG := HYG'
      clear HYG'
      refine t4_hard rfl (by rfl) (fun K hK => ?_)
      go_wp2_with (go_at_call 31; refine (CI.out _ _ _ _ _ (Iv.rd Jt0'.out) (Iv.rd Jt1.out)).mono ?_; rintro e w21 ⟨uK0, uK1, uK2, uK3, uK4, rfl, frK, hb21⟩)
      have JWF8_p23 := Lib.hid (Iv.mono JWF8_p22.out hb21)
      try clear JWF8_p22
      have Jt0'' := Lib.hid (Iv.mono Jt0'.out hb21)
      try clear Jt0'
      have Jt1' := Lib.hid (Iv.mono Jt1.out hb21)
      try clear Jt1
      have hQ41 := hQ40.step hb21
      have hz18 : w20.heap.size ≤ w21.heap.size := by simpa using hb21.size
      have JK := Lib.hid (Fresh.iv frK)
      have zK0 := rd_cons rfl (Iv.rd JK.out)
      obtain ⟨rfl, _⟩ := rd_i1 zK0.1
      have zK1 := rd_cons rfl zK0.2
      obtain ⟨aK1, cK1, rfl, _⟩ := rd_list zK1.1
      have zK2 := rd_cons rfl zK1.2
      obtain ⟨aK2, cK2, rfl, _⟩ := rd_list zK2.1
      have zK3 := rd_cons rfl zK2.2
      obtain ⟨aK3, cK3, rfl, _⟩ := rd_list zK3.1
      obtain ⟨aK4, cK4, rfl, _⟩ := rd_list zK3.2
      clear zK0 zK1 zK2 zK3
      clear frK
      have HYG' := Lib.hid (Own.mono HYG.out hb21)
      try clear HYG
      have HYG := HYG'
      clear HYG'
      try clear Jt0''
      try clear Jt1'
      refine ⟨⟨hQ41.cellAt 0 rfl 0 rfl, hQ41.cellAt 0 rfl 1 rfl, hQ41.cellAt 1 rfl 0 rfl, hQ41.cellAt 1 rfl 1 rfl, hQ41.cellAt 2 rfl 0 rfl, hQ41.cellAt 2 rfl 1 rfl, hQ41.cellAt 2 rfl 2 rfl, hQ41.cellAt 2 rfl 3 rfl, hQ41.cellAt 2 rfl 4 rfl, hQ41.cellAt 3 rfl 0 rfl, hQ41.cellAt 3 rfl 1 rfl, hQ41.cellAt 4 rfl 0 rfl, hQ41.cellAt 4 rfl 1 rfl, hQ41.cellAt 5 rfl 0 rfl, hQ41.cellAt 5 rfl 1 rfl, hQ41.cellAt 5 rfl 2 rfl, hQ41.cellAt 5 rfl 3 rfl, hQ41.cellAt 5 rfl 4 rfl⟩, ?_⟩
      (repeat (first | (apply t4_skip rfl (by rfl); try simp only [Act.put, sI, sZ, sS]) | (apply t4_float rfl (by rfl); (· (intro w' hS; go_simp <;> with_reducible rfl)); (try simp only [Act.put, sI, sZ, sS]))))
      refine t4_hard rfl (by rfl) (fun K hK => ?_)
      have fF310 := hQ41.freeAt 6 rfl 0
      have cF310 := hQ41.cellAt 6 rfl 0 rfl
      have fF311 := hQ41.freeAt 6 rfl 1
      have cF311 := hQ41.cellAt 6 rfl 1 rfl
      have fF312 := hQ41.freeAt 6 rfl 2
      have cF312 := hQ41.cellAt 6 rfl 2 rfl
      have fF313 := hQ41.freeAt 6 rfl 3
      have cF313 := hQ41.cellAt 6 rfl 3 rfl
      have fF314 := hQ41.freeAt 6 rfl 4
      have cF314 := hQ41.cellAt 6 rfl 4 rfl
      go_wp2_with fail
      have hQ49 := (((((hQ41.set (p := [_, _, _, _, _, _]) (by simp <;> omega) 0 (.int .i64 r0)).set (p := [_, _, _, _, _, _]) (by simp <;> omega) 1 (.slice aK1 r1.length cK1)).set (p := [_, _, _, _, _, _]) (by simp <;> omega) 2 (.slice aK2 r2.length cK2)).set (p := [_, _, _, _, _, _]) (by simp <;> omega) 3 (.slice aK3 r3.length cK3)).set (p := [_, _, _, _, _, _]) (by simp <;> omega) 4 (.slice aK4 r4.length cK4))
      have JWF8_p24 := Lib.hid (Iv.setOut (Iv.setOut (Iv.setOut (Iv.setOut (Iv.setOut JWF8_p23.out (a := ⟨wF31.heap.size, 0, none⟩) (by first | (left; simp only; first | done | omega) | (right; simp only; first | done | omega)) (.int .i64 r0)) (a := ⟨wF31.heap.size, 1, none⟩) (by first | (left; simp only; first | done | omega) | (right; simp only; first | done | omega)) (.slice aK1 r1.length cK1)) (a := ⟨wF31.heap.size, 2, none⟩) (by first | (left; simp only; first | done | omega) | (right; simp only; first | done | omega)) (.slice aK2 r2.length cK2)) (a := ⟨wF31.heap.size, 3, none⟩) (by first | (left; simp only; first | done | omega) | (right; simp only; first | done | omega)) (.slice aK3 r3.length cK3)) (a := ⟨wF31.heap.size, 4, none⟩) (by first | (left; simp only; first | done | omega) | (right; simp only; first | done | omega)) (.slice aK4 r4.length cK4))
      try clear JWF8_p23
      have JK' := Lib.hid (Iv.setOut (Iv.setOut (Iv.setOut (Iv.setOut (Iv.setOut JK.out (a := ⟨wF31.heap.size, 0, none⟩) (by first | (left; simp only; first | done | omega) | (right; simp only; first | done | omega)) (.int .i64 r0)) (a := ⟨wF31.heap.size, 1, none⟩) (by first | (left; simp only; first | done | omega) | (right; simp only; first | done | omega)) (.slice aK1 r1.length cK1)) (a := ⟨wF31.heap.size, 2, none⟩) (by first | (left; simp only; first | done | omega) | (right; simp only; first | done | omega)) (.slice aK2 r2.length cK2)) (a := ⟨wF31.heap.size, 3, none⟩) (by first | (left; simp only; first | done | omega) | (right; simp only; first | done | omega)) (.slice aK3 r3.length cK3)) (a := ⟨wF31.heap.size, 4, none⟩) (by first | (left; simp only; first | done | omega) | (right; simp only; first | done | omega)) (.slice aK4 r4.length cK4))
      try clear JK
      have HYG' := Lib.hid (own_setOut (own_setOut (own_setOut (own_setOut (own_setOut HYG.out (b := wF31.heap.size) (o := 0) (fun hk => by have := hqG _ hk; omega) (.int .i64 r0)) (b := wF31.heap.size) (o := 1) (fun hk => by have := hqG _ hk; omega) (.slice aK1 r1.length cK1)) (b := wF31.heap.size) (o := 2) (fun hk => by have := hqG _ hk; omega) (.slice aK2 r2.length cK2)) (b := wF31.heap.size) (o := 3) (fun hk => by have := hqG _ hk; omega) (.slice aK3 r3.length cK3)) (b := wF31.heap.size) (o := 4) (fun hk => by have := hqG _ hk; omega) (.slice aK4 r4.length cK4))
      try clear HYG
      have HYG := HYG'
      clear HYG'
      clear fF310 cF310 fF311 cF311 fF312 cF312 fF313 cF313 fF314 cF314
      refine ⟨?_, ?_⟩
      · first | (have u9 : w21.cell? ⟨w.heap.size, 0, none⟩ = some (.int .i64 x00) ∧ w21.cell? ⟨w.heap.size, 1, none⟩ = some (.slice a01 x01.length c01) ∧ w21.cell? ⟨w.heap.size + 1, 0, none⟩ = some (.int .i64 x10) ∧ w21.cell? ⟨w.heap.size + 1, 1, none⟩ = some (.slice a11 x11.length c11) ∧ w21.cell? ⟨gUF8, 0, none⟩ = some (.int .i64 r0) ∧ w21.cell? ⟨gUF8, 1, none⟩ = some (.slice aW1 r1.length cW1) ∧ w21.cell? ⟨gUF8, 2, none⟩ = some (.slice aW2 r2.length cW2) ∧ w21.cell? ⟨gUF8, 3, none⟩ = some (.slice aW3 r3.length cW3) ∧ w21.cell? ⟨gUF8, 4, none⟩ = some (.slice aW4 r4.length cW4) ∧ w21.cell? ⟨w6.heap.size, 0, none⟩ = some (.int .i64 x00) ∧ w21.cell? ⟨w6.heap.size, 1, none⟩ = some (.slice ax01 x01.length cx01) ∧ w21.cell? ⟨w7.heap.size, 0, none⟩ = some (.int .i64 x10) ∧ w21.cell? ⟨w7.heap.size, 1, none⟩ = some (.slice ax11 x11.length cx11) ∧ w21.cell? ⟨w8.heap.size, 0, none⟩ = some (.int .i64 r0) ∧ w21.cell? ⟨w8.heap.size, 1, none⟩ = some (.slice aG1 r1.length cG1) ∧ w21.cell? ⟨w8.heap.size, 2, none⟩ = some (.slice aG2 r2.length cG2) ∧ w21.cell? ⟨w8.heap.size, 3, none⟩ = some (.slice aG3 r3.length cG3) ∧ w21.cell? ⟨w8.heap.size, 4, none⟩ = some (.slice aG4 r4.length cG4) := ⟨hQ41.cellAt 0 rfl 0 rfl, hQ41.cellAt 0 rfl 1 rfl, hQ41.cellAt 1 rfl 0 rfl, hQ41.cellAt 1 rfl 1 rfl, hQ41.cellAt 2 rfl 0 rfl, hQ41.cellAt 2 rfl 1 rfl, hQ41.cellAt 2 rfl 2 rfl, hQ41.cellAt 2 rfl 3 rfl, hQ41.cellAt 2 rfl 4 rfl, hQ41.cellAt 3 rfl 0 rfl, hQ41.cellAt 3 rfl 1 rfl, hQ41.cellAt 4 rfl 0 rfl, hQ41.cellAt 4 rfl 1 rfl, hQ41.cellAt 5 rfl 0 rfl, hQ41.cellAt 5 rfl 1 rfl, hQ41.cellAt 5 rfl 2 rfl, hQ41.cellAt 5 rfl 3 rfl, hQ41.cellAt 5 rfl 4 rfl⟩; with_reducible exact u9) | (have u9 : (((((w21.setCell ⟨wF31.heap.size, 0, none⟩ (.int .i64 r0)).setCell ⟨wF31.heap.size, 1, none⟩ (.slice aK1 r1.length cK1)).setCell ⟨wF31.heap.size, 2, none⟩ (.slice aK2 r2.length cK2)).setCell ⟨wF31.heap.size, 3, none⟩ (.slice aK3 r3.length cK3)).setCell ⟨wF31.heap.size, 4, none⟩ (.slice aK4 r4.length cK4)).cell? ⟨w.heap.size, 0, none⟩ = some (.int .i64 x00) ∧ (((((w21.setCell ⟨wF31.heap.size, 0, none⟩ (.int .i64 r0)).setCell ⟨wF31.heap.size, 1, none⟩ (.slice aK1 r1.length cK1)).setCell ⟨wF31.heap.size, 2, none⟩ (.slice aK2 r2.length cK2)).setCell ⟨wF31.heap.size, 3, none⟩ (.slice aK3 r3.length cK3)).setCell ⟨wF31.heap.size, 4, none⟩ (.slice aK4 r4.length cK4)).cell? ⟨w.heap.size, 1, none⟩ = some (.slice a01 x01.length c01) ∧ (((((w21.setCell ⟨wF31.heap.size, 0, none⟩ (.int .i64 r0)).setCell ⟨wF31.heap.size, 1, none⟩ (.slice aK1 r1.length cK1)).setCell ⟨wF31.heap.size, 2, none⟩ (.slice aK2 r2.length cK2)).setCell ⟨wF31.heap.size, 3, none⟩ (.slice aK3 r3.length cK3)).setCell ⟨wF31.heap.size, 4, none⟩ (.slice aK4 r4.length cK4)).cell? ⟨w.heap.size + 1, 0, none⟩ = some (.int .i64 x10) ∧ (((((w21.setCell ⟨wF31.heap.size, 0, none⟩ (.int .i64 r0)).setCell ⟨wF31.heap.size, 1, none⟩ (.slice aK1 r1.length cK1)).setCell ⟨wF31.heap.size, 2, none⟩ (.slice aK2 r2.length cK2)).setCell ⟨wF31.heap.size, 3, none⟩ (.slice aK3 r3.length cK3)).setCell ⟨wF31.heap.size, 4, none⟩ (.slice aK4 r4.length cK4)).cell? ⟨w.heap.size + 1, 1, none⟩ = some (.slice a11 x11.length c11) ∧ (((((w21.setCell ⟨wF31.heap.size, 0, none⟩ (.int .i64 r0)).setCell ⟨wF31.heap.size, 1, none⟩ (.slice aK1 r1.length cK1)).setCell ⟨wF31.heap.size, 2, none⟩ (.slice aK2 r2.length cK2)).setCell ⟨wF31.heap.size, 3, none⟩ (.slice aK3 r3.length cK3)).setCell ⟨wF31.heap.size, 4, none⟩ (.slice aK4 r4.length cK4)).cell? ⟨gUF8, 0, none⟩ = some (.int .i64 r0) ∧ (((((w21.setCell ⟨wF31.heap.size, 0, none⟩ (.int .i64 r0)).setCell ⟨wF31.heap.size, 1, none⟩ (.slice aK1 r1.length cK1)).setCell ⟨wF31.heap.size, 2, none⟩ (.slice aK2 r2.length cK2)).setCell ⟨wF31.heap.size, 3, none⟩ (.slice aK3 r3.length cK3)).setCell ⟨wF31.heap.size, 4, none⟩ (.slice aK4 r4.length cK4)).cell? ⟨gUF8, 1, none⟩ = some (.slice aW1 r1.length cW1) ∧ (((((w21.setCell ⟨wF31.heap.size, 0, none⟩ (.int .i64 r0)).setCell ⟨wF31.heap.size, 1, none⟩ (.slice aK1 r1.length cK1)).setCell ⟨wF31.heap.size, 2, none⟩ (.slice aK2 r2.length cK2)).setCell ⟨wF31.heap.size, 3, none⟩ (.slice aK3 r3.length cK3)).setCell ⟨wF31.heap.size, 4, none⟩ (.slice aK4 r4.length cK4)).cell? ⟨gUF8, 2, none⟩ = some (.slice aW2 r2.length cW2) ∧ (((((w21.setCell ⟨wF31.heap.size, 0, none⟩ (.int .i64 r0)).setCell ⟨wF31.heap.size, 1, none⟩ (.slice aK1 r1.length cK1)).setCell ⟨wF31.heap.size, 2, none⟩ (.slice aK2 r2.length cK2)).setCell ⟨wF31.heap.size, 3, none⟩ (.slice aK3 r3.length cK3)).setCell ⟨wF31.heap.size, 4, none⟩ (.slice aK4 r4.length cK4)).cell? ⟨gUF8, 3, none⟩ = some (.slice aW3 r3.length cW3) ∧ (((((w21.setCell ⟨wF31.heap.size, 0, none⟩ (.int .i64 r0)).setCell ⟨wF31.heap.size, 1, none⟩ (.slice aK1 r1.length cK1)).setCell ⟨wF31.heap.size, 2, none⟩ (.slice aK2 r2.length cK2)).setCell ⟨wF31.heap.size, 3, none⟩ (.slice aK3 r3.length cK3)).setCell ⟨wF31.heap.size, 4, none⟩ (.slice aK4 r4.length cK4)).cell? ⟨gUF8, 4, none⟩ = some (.slice aW4 r4.length cW4) ∧ (((((w21.setCell ⟨wF31.heap.size, 0, none⟩ (.int .i64 r0)).setCell ⟨wF31.heap.size, 1, none⟩ (.slice aK1 r1.length cK1)).setCell ⟨wF31.heap.size, 2, none⟩ (.slice aK2 r2.length cK2)).setCell ⟨wF31.heap.size, 3, none⟩ (.slice aK3 r3.length cK3)).setCell ⟨wF31.heap.size, 4, none⟩ (.slice aK4 r4.length cK4)).cell? ⟨w6.heap.size, 0, none⟩ = some (.int .i64 x00) ∧ (((((w21.setCell ⟨wF31.heap.size, 0, none⟩ (.int .i64 r0)).setCell ⟨wF31.heap.size, 1, none⟩ (.slice aK1 r1.length cK1)).setCell ⟨wF31.heap.size, 2, none⟩ (.slice aK2 r2.length cK2)).setCell ⟨wF31.heap.size, 3, none⟩ (.slice aK3 r3.length cK3)).setCell ⟨wF31.heap.size, 4, none⟩ (.slice aK4 r4.length cK4)).cell? ⟨w6.heap.size, 1, none⟩ = some (.slice ax01 x01.length cx01) ∧ (((((w21.setCell ⟨wF31.heap.size, 0, none⟩ (.int .i64 r0)).setCell ⟨wF31.heap.size, 1, none⟩ (.slice aK1 r1.length cK1)).setCell ⟨wF31.heap.size, 2, none⟩ (.slice aK2 r2.length cK2)).setCell ⟨wF31.heap.size, 3, none⟩ (.slice aK3 r3.length cK3)).setCell ⟨wF31.heap.size, 4, none⟩ (.slice aK4 r4.length cK4)).cell? ⟨w7.heap.size, 0, none⟩ = some (.int .i64 x10) ∧ (((((w21.setCell ⟨wF31.heap.size, 0, none⟩ (.int .i64 r0)).setCell ⟨wF31.heap.size, 1, none⟩ (.slice aK1 r1.length cK1)).setCell ⟨wF31.heap.size, 2, none⟩ (.slice aK2 r2.length cK2)).setCell ⟨wF31.heap.size, 3, none⟩ (.slice aK3 r3.length cK3)).setCell ⟨wF31.heap.size, 4, none⟩ (.slice aK4 r4.length cK4)).cell? ⟨w7.heap.size, 1, none⟩ = some (.slice ax11 x11.length cx11) ∧ (((((w21.setCell ⟨wF31.heap.size, 0, none⟩ (.int .i64 r0)).setCell ⟨wF31.heap.size, 1, none⟩ (.slice aK1 r1.length cK1)).setCell ⟨wF31.heap.size, 2, none⟩ (.slice aK2 r2.length cK2)).setCell ⟨wF31.heap.size, 3, none⟩ (.slice aK3 r3.length cK3)).setCell ⟨wF31.heap.size, 4, none⟩ (.slice aK4 r4.length cK4)).cell? ⟨w8.heap.size, 0, none⟩ = some (.int .i64 r0) ∧ (((((w21.setCell ⟨wF31.heap.size, 0, none⟩ (.int .i64 r0)).setCell ⟨wF31.heap.size, 1, none⟩ (.slice aK1 r1.length cK1)).setCell ⟨wF31.heap.size, 2, none⟩ (.slice aK2 r2.length cK2)).setCell ⟨wF31.heap.size, 3, none⟩ (.slice aK3 r3.length cK3)).setCell ⟨wF31.heap.size, 4, none⟩ (.slice aK4 r4.length cK4)).cell? ⟨w8.heap.size, 1, none⟩ = some (.slice aG1 r1.length cG1) ∧ (((((w21.setCell ⟨wF31.heap.size, 0, none⟩ (.int .i64 r0)).setCell ⟨wF31.heap.size, 1, none⟩ (.slice aK1 r1.length cK1)).setCell ⟨wF31.heap.size, 2, none⟩ (.slice aK2 r2.length cK2)).setCell ⟨wF31.heap.size, 3, none⟩ (.slice aK3 r3.length cK3)).setCell ⟨wF31.heap.size, 4, none⟩ (.slice aK4 r4.length cK4)).cell? ⟨w8.heap.size, 2, none⟩ = some (.slice aG2 r2.length cG2) ∧ (((((w21.setCell ⟨wF31.heap.size, 0, none⟩ (.int .i64 r0)).setCell ⟨wF31.heap.size, 1, none⟩ (.slice aK1 r1.length cK1)).setCell ⟨wF31.heap.size, 2, none⟩ (.slice aK2 r2.length cK2)).setCell ⟨wF31.heap.size, 3, none⟩ (.slice aK3 r3.length cK3)).setCell ⟨wF31.heap.size, 4, none⟩ (.slice aK4 r4.length cK4)).cell? ⟨w8.heap.size, 3, none⟩ = some (.slice aG3 r3.length cG3) ∧ (((((w21.setCell ⟨wF31.heap.size, 0, none⟩ (.int .i64 r0)).setCell ⟨wF31.heap.size, 1, none⟩ (.slice aK1 r1.length cK1)).setCell ⟨wF31.heap.size, 2, none⟩ (.slice aK2 r2.length cK2)).setCell ⟨wF31.heap.size, 3, none⟩ (.slice aK3 r3.length cK3)).setCell ⟨wF31.heap.size, 4, none⟩ (.slice aK4 r4.length cK4)).cell? ⟨w8.heap.size, 4, none⟩ = some (.slice aG4 r4.length cG4) := ⟨hQ49.cellAt 0 rfl 0 rfl, hQ49.cellAt 0 rfl 1 rfl, hQ49.cellAt 1 rfl 0 rfl, hQ49.cellAt 1 rfl 1 rfl, hQ49.cellAt 2 rfl 0 rfl, hQ49.cellAt 2 rfl 1 rfl, hQ49.cellAt 2 rfl 2 rfl, hQ49.cellAt 2 rfl 3 rfl, hQ49.cellAt 2 rfl 4 rfl, hQ49.cellAt 3 rfl 0 rfl, hQ49.cellAt 3 rfl 1 rfl, hQ49.cellAt 4 rfl 0 rfl, hQ49.cellAt 4 rfl 1 rfl, hQ49.cellAt 5 rfl 0 rfl, hQ49.cellAt 5 rfl 1 rfl, hQ49.cellAt 5 rfl 2 rfl, hQ49.cellAt 5 rfl 3 rfl, hQ49.cellAt 5 rfl 4 rfl⟩; with_reducible exact u9) | exact ⟨hQ49.cellAt 0 rfl 0 rfl, hQ49.cellAt 0 rfl 1 rfl, hQ49.cellAt 1 rfl 0 rfl, hQ49.cellAt 1 rfl 1 rfl, hQ49.cellAt 2 rfl 0 rfl, hQ49.cellAt 2 rfl 1 rfl, hQ49.cellAt 2 rfl 2 rfl, hQ49.cellAt 2 rfl 3 rfl, hQ49.cellAt 2 rfl 4 rfl, hQ49.cellAt 3 rfl 0 rfl, hQ49.cellAt 3 rfl 1 rfl, hQ49.cellAt 4 rfl 0 rfl, hQ49.cellAt 4 rfl 1 rfl, hQ49.cellAt 5 rfl 0 rfl, hQ49.cellAt 5 rfl 1 rfl, hQ49.cellAt 5 rfl 2 rfl, hQ49.cellAt 5 rfl 3 rfl, hQ49.cellAt 5 rfl 4 rfl⟩ | exact ⟨hQ41.cellAt 0 rfl 0 rfl, hQ41.cellAt 0 rfl 1 rfl, hQ41.cellAt 1 rfl 0 rfl, hQ41.cellAt 1 rfl 1 rfl, hQ41.cellAt 2 rfl 0 rfl, hQ41.cellAt 2 rfl 1 rfl, hQ41.cellAt 2 rfl 2 rfl, hQ41.cellAt 2 rfl 3 rfl, hQ41.cellAt 2 rfl 4 rfl, hQ41.cellAt 3 rfl 0 rfl, hQ41.cellAt 3 rfl 1 rfl, hQ41.cellAt 4 rfl 0 rfl, hQ41.cellAt 4 rfl 1 rfl, hQ41.cellAt 5 rfl 0 rfl, hQ41.cellAt 5 rfl 1 rfl, hQ41.cellAt 5 rfl 2 rfl, hQ41.cellAt 5 rfl 3 rfl, hQ41.cellAt 5 rfl 4 rfl⟩
      (repeat (first | (apply t4_skip rfl (by rfl); try simp only [Act.put, sI, sZ, sS]) | (apply t4_float rfl (by rfl); (· (intro w' hS; go_simp <;> with_reducible rfl)); (try simp only [Act.put, sI, sZ, sS]))))
      refine t4_nil (NoPanic.normal ?_)
      have hsF31 : St w (((((w21.setCell ⟨wF31.heap.size, 0, none⟩ (.int .i64 r0)).setCell ⟨wF31.heap.size, 1, none⟩ (.slice aK1 r1.length cK1)).setCell ⟨wF31.heap.size, 2, none⟩ (.slice aK2 r2.length cK2)).setCell ⟨wF31.heap.size, 3, none⟩ (.slice aK3 r3.length cK3)).setCell ⟨wF31.heap.size, 4, none⟩ (.slice aK4 r4.length cK4)).heap.size (((((w21.setCell ⟨wF31.heap.size, 0, none⟩ (.int .i64 r0)).setCell ⟨wF31.heap.size, 1, none⟩ (.slice aK1 r1.length cK1)).setCell ⟨wF31.heap.size, 2, none⟩ (.slice aK2 r2.length cK2)).setCell ⟨wF31.heap.size, 3, none⟩ (.slice aK3 r3.length cK3)).setCell ⟨wF31.heap.size, 4, none⟩ (.slice aK4 r4.length cK4)) [(w.heap.size, #[.int .i64 x00, .slice a01 x01.length c01], 24), (w.heap.size + 1, #[.int .i64 x10, .slice a11 x11.length c11], 27), (gUF8, #[.int .i64 r0, .slice aW1 r1.length cW1, .slice aW2 r2.length cW2, .slice aW3 r3.length cW3, .slice aW4 r4.length cW4], 37), (w6.heap.size, #[.int .i64 x00, .slice ax01 x01.length cx01], 42), (w7.heap.size, #[.int .i64 x10, .slice ax11 x11.length cx11], 46), (w8.heap.size, #[.int .i64 r0, .slice aG1 r1.length cG1, .slice aG2 r2.length cG2, .slice aG3 r3.length cG3, .slice aG4 r4.length cG4], 37), (wF31.heap.size, #[.int .i64 r0, .slice aK1 r1.length cK1, .slice aK2 r2.length cK2, .slice aK3 r3.length cK3, .slice aK4 r4.length cK4], 37)] := hQ49.up hQ49.hi (Nat.le_refl _)
      have hVF31 : w21.heap.size = (((((w21.setCell ⟨wF31.heap.size, 0, none⟩ (.int .i64 r0)).setCell ⟨wF31.heap.size, 1, none⟩ (.slice aK1 r1.length cK1)).setCell ⟨wF31.heap.size, 2, none⟩ (.slice aK2 r2.length cK2)).setCell ⟨wF31.heap.size, 3, none⟩ (.slice aK3 r3.length cK3)).setCell ⟨wF31.heap.size, 4, none⟩ (.slice aK4 r4.length cK4)).heap.size := by simp [World.setCell]
      obtain ⟨loUF31, hiUF31, hUF31, JUF31⟩ : ∃ lo hi : Nat, (w18.heap.size ≤ lo ∧ hi ≤ w21.heap.size ∧ (wF31.heap.size < lo ∨ hi ≤ wF31.heap.size) ∧ w18.heap.size ≤ wF31.heap.size ∧ wF31.heap.size < w21.heap.size) ∧ Hid (Iv lo hi (((((w21.setCell ⟨wF31.heap.size, 0, none⟩ (.int .i64 r0)).setCell ⟨wF31.heap.size, 1, none⟩ (.slice aK1 r1.length cK1)).setCell ⟨wF31.heap.size, 2, none⟩ (.slice aK2 r2.length cK2)).setCell ⟨wF31.heap.size, 3, none⟩ (.slice aK3 r3.length cK3)).setCell ⟨wF31.heap.size, 4, none⟩ (.slice aK4 r4.length cK4)) [.int .i64 r0, .slice aK1 r1.length cK1, .slice aK2 r2.length cK2, .slice aK3 r3.length cK3, .slice aK4 r4.length cK4] (r0, r1, r2, r3, r4)) := ⟨w20.heap.size, w21.heap.size, by omega, JK'.out⟩
      rw [hVF31] at hUF31
      clear hVF31 JK'
      generalize hhwUF31 : (((((w21.setCell ⟨wF31.heap.size, 0, none⟩ (.int .i64 r0)).setCell ⟨wF31.heap.size, 1, none⟩ (.slice aK1 r1.length cK1)).setCell ⟨wF31.heap.size, 2, none⟩ (.slice aK2 r2.length cK2)).setCell ⟨wF31.heap.size, 3, none⟩ (.slice aK3 r3.length cK3)).setCell ⟨wF31.heap.size, 4, none⟩ (.slice aK4 r4.length cK4)) = wUF31 at hsF31 hUF31 JUF31 JWF8_p24 HYG ⊢
      clear hhwUF31
      generalize hhgUF31 : wF31.heap.size = gUF31 at hsF31 hUF31 JUF31 JWF8_p24 HYG ⊢
      clear hhgUF31
      generalize at01 = zat01 at hsF31 hUF31 JUF31 JWF8_p24 HYG ⊢
      generalize ct01 = zct01 at hsF31 hUF31 JUF31 JWF8_p24 HYG ⊢
      generalize at11 = zat11 at hsF31 hUF31 JUF31 JWF8_p24 HYG ⊢
      generalize ct11 = zct11 at hsF31 hUF31 JUF31 JWF8_p24 HYG ⊢
      generalize aK1 = zaK1 at hsF31 hUF31 JUF31 JWF8_p24 HYG ⊢
      generalize cK1 = zcK1 at hsF31 hUF31 JUF31 JWF8_p24 HYG ⊢
      generalize aK2 = zaK2 at hsF31 hUF31 JUF31 JWF8_p24 HYG ⊢
      generalize cK2 = zcK2 at hsF31 hUF31 JUF31 JWF8_p24 HYG ⊢
      generalize aK3 = zaK3 at hsF31 hUF31 JUF31 JWF8_p24 HYG ⊢
      generalize cK3 = zcK3 at hsF31 hUF31 JUF31 JWF8_p24 HYG ⊢
      generalize aK4 = zaK4 at hsF31 hUF31 JUF31 JWF8_p24 HYG ⊢
      generalize cK4 = zcK4 at hsF31 hUF31 JUF31 JWF8_p24 HYG ⊢
      revert HYG
      revert JWF8_p24
      revert JUF31
      revert hUF31
      revert hsF31
      revert zcK4
      revert zaK4
      revert zcK3
      revert zaK3
      revert zcK2
      revert zaK2
      revert zcK1
      revert zaK1
      revert zct11
      revert zat11
      revert zct01
      revert zat01
      revert hiUF31
      revert loUF31
      revert gUF31
      revert wUF31
      exact HJ.get
  intro wUF31 gUF31 loUF31 hiUF31 at01 ct01 at11 ct11 aK1 cK1 aK2 cK2 aK3 cK3 aK4 cK4
  intro hsF31 hUF31 JKF31 JWF31 HYG
  obtain ⟨h1F31, h2F31, h3F31, h4F31, h5F31⟩ := hUF31
  have qa00 := hsF31.cellAt 0 rfl 0 rfl
  have qa01 := hsF31.cellAt 0 rfl 1 rfl
  have qa10 := hsF31.cellAt 1 rfl 0 rfl
  have qa11 := hsF31.cellAt 1 rfl 1 rfl
  have qw0 := hsF31.cellAt 2 rfl 0 rfl
  have qw1 := hsF31.cellAt 2 rfl 1 rfl
  have qw2 := hsF31.cellAt 2 rfl 2 rfl
  have qw3 := hsF31.cellAt 2 rfl 3 rfl
  have qw4 := hsF31.cellAt 2 rfl 4 rfl
  have qx00 := hsF31.cellAt 3 rfl 0 rfl
  have qx01 := hsF31.cellAt 3 rfl 1 rfl
  have qx10 := hsF31.cellAt 4 rfl 0 rfl
  have qx11 := hsF31.cellAt 4 rfl 1 rfl
  have qg0 := hsF31.cellAt 5 rfl 0 rfl
  have qg1 := hsF31.cellAt 5 rfl 1 rfl
  have qg2 := hsF31.cellAt 5 rfl 2 rfl
  have qg3 := hsF31.cellAt 5 rfl 3 rfl
  have qg4 := hsF31.cellAt 5 rfl 4 rfl
  have qh0 := hsF31.cellAt 6 rfl 0 rfl
  have qh1 := hsF31.cellAt 6 rfl 1 rfl
  have qh2 := hsF31.cellAt 6 rfl 2 rfl
  have qh3 := hsF31.cellAt 6 rfl 3 rfl
  have qh4 := hsF31.cellAt 6 rfl 4 rfl
  go_wp2_with fail
  refine (eqVerdict_s (r0, r1, r2, r3, r4) _ _ _ _ _ _ _ _ _ _ _ (Iv.rd JKF31.out) (Iv.rd JWF31.out)).mono ?_
  rintro e w22 ⟨rfl, hb22⟩
  have JWF31' := Lib.hid (Iv.mono JWF31.out hb22)
  clear JWF31
  have JKF31' := Lib.hid (Iv.mono JKF31.out hb22)
  clear JKF31
  have hsF31s := hsF31.step hb22
  have hz16 : wUF31.heap.size ≤ w22.heap.size := by simpa using hb22.size
  clear qa00 qa01 qa10 qa11 qw0 qw1 qw2 qw3 qw4 qx00 qx01 qx10 qx11 qg0 qg1 qg2 qg3 qg4 qh0 qh1 qh2 qh3 qh4
  have qa00 := hsF31s.cellAt 0 rfl 0 rfl
  have qa01 := hsF31s.cellAt 0 rfl 1 rfl
  have qa10 := hsF31s.cellAt 1 rfl 0 rfl
  have qa11 := hsF31s.cellAt 1 rfl 1 rfl
  have qw0 := hsF31s.cellAt 2 rfl 0 rfl
  have qw1 := hsF31s.cellAt 2 rfl 1 rfl
  have qw2 := hsF31s.cellAt 2 rfl 2 rfl
  have qw3 := hsF31s.cellAt 2 rfl 3 rfl
  have qw4 := hsF31s.cellAt 2 rfl 4 rfl
  have qx00 := hsF31s.cellAt 3 rfl 0 rfl
  have qx01 := hsF31s.cellAt 3 rfl 1 rfl
  have qx10 := hsF31s.cellAt 4 rfl 0 rfl
  have qx11 := hsF31s.cellAt 4 rfl 1 rfl
  have qg0 := hsF31s.cellAt 5 rfl 0 rfl
  have qg1 := hsF31s.cellAt 5 rfl 1 rfl
  have qg2 := hsF31s.cellAt 5 rfl 2 rfl
  have qg3 := hsF31s.cellAt 5 rfl 3 rfl
  have qg4 := hsF31s.cellAt 5 rfl 4 rfl
  have qh0 := hsF31s.cellAt 6 rfl 0 rfl
  have qh1 := hsF31s.cellAt 6 rfl 1 rfl
  have qh2 := hsF31s.cellAt 6 rfl 2 rfl
  have qh3 := hsF31s.cellAt 6 rfl 3 rfl
  have qh4 := hsF31s.cellAt 6 rfl 4 rfl
  have HYG' := Lib.hid (Own.mono HYG.out hb22)
  clear HYG
  have HYG := HYG'
  clear HYG'
  have HYr23 := Lib.hid (Own.rd HYG.out)
  go_wp2_with fail
  refine (heldVerdict_g yG _ _ _ _ _ 1 mG _ HYr23.out HHG.out (by omega) (by omega) (by omega)).mono ?_
  rintro e w23 ⟨rfl, hb23⟩
  have HYG' := Lib.hid (Own.mono HYG.out hb23)
  clear HYG HYr23
  have HYG := HYG'
  clear HYG'
  have JWF31'' := Lib.hid (Iv.mono JWF31'.out hb23)
  clear JWF31'
  have JKF31'' := Lib.hid (Iv.mono JKF31'.out hb23)
  clear JKF31'
  have hsF31ss := hsF31s.step hb23
  have hz17 : w22.heap.size ≤ w23.heap.size := by simpa using hb23.size
  clear qa00 qa01 qa10 qa11 qw0 qw1 qw2 qw3 qw4 qx00 qx01 qx10 qx11 qg0 qg1 qg2 qg3 qg4 qh0 qh1 qh2 qh3 qh4
  have qa00 := hsF31ss.cellAt 0 rfl 0 rfl
  have qa01 := hsF31ss.cellAt 0 rfl 1 rfl
  have qa10 := hsF31ss.cellAt 1 rfl 0 rfl
  have qa11 := hsF31ss.cellAt 1 rfl 1 rfl
  have qw0 := hsF31ss.cellAt 2 rfl 0 rfl
  have qw1 := hsF31ss.cellAt 2 rfl 1 rfl
  have qw2 := hsF31ss.cellAt 2 rfl 2 rfl
  have qw3 := hsF31ss.cellAt 2 rfl 3 rfl
  have qw4 := hsF31ss.cellAt 2 rfl 4 rfl
  have qx00 := hsF31ss.cellAt 3 rfl 0 rfl
  have qx01 := hsF31ss.cellAt 3 rfl 1 rfl
  have qx10 := hsF31ss.cellAt 4 rfl 0 rfl
  have qx11 := hsF31ss.cellAt 4 rfl 1 rfl
  have qg0 := hsF31ss.cellAt 5 rfl 0 rfl
  have qg1 := hsF31ss.cellAt 5 rfl 1 rfl
  have qg2 := hsF31ss.cellAt 5 rfl 2 rfl
  have qg3 := hsF31ss.cellAt 5 rfl 3 rfl
  have qg4 := hsF31ss.cellAt 5 rfl 4 rfl
  have qh0 := hsF31ss.cellAt 6 rfl 0 rfl
  have qh1 := hsF31ss.cellAt 6 rfl 1 rfl
  have qh2 := hsF31ss.cellAt 6 rfl 2 rfl
  have qh3 := hsF31ss.cellAt 6 rfl 3 rfl
  have qh4 := hsF31ss.cellAt 6 rfl 4 rfl
  go_wp2_with fail
  go_ret
  exact ⟨rfl, hsF31ss.bel⟩
end Go.Proofs.YtoblfnoaepbhfaaGreat

