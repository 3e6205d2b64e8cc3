import Derived.Test.YtoblfnoaepbhfaaGreatSysOQb
set_option linter.unusedSimpArgs false
set_option linter.unusedVariables false
namespace Go.Proofs.YtoblfnoaepbhfaaGreat
open Go.RowKit Go.Shelf Go.IntWalk
open Rep (Rd Own sz)
theorem accP_empty {α : Type} [Rep α] {A : Nat → Prop} {e : TypeId} {w : World} {g : Nat} (h : w.ownsRow 0 e (sz α) (.slice (some ⟨g, 0, none⟩) 0 0) 0 []) (hA : A g) (hg : g < w.heap.size) : AccP (α := α) A e w (.slice (some ⟨g, 0, none⟩) 0 0) [] :=
  ⟨[], [], h, rfl, by simp [Value.ownBlock], fun k hk => by simp [Value.ownBlock] at hk; subst hk; exact ⟨hA, hg⟩, fun i hi => absurd hi (Nat.not_lt_zero _)⟩
set_option maxRecDepth 100000 in
set_option maxHeartbeats 16000000 in
theorem l06System_c (t : Tmpl) (x : Inst) (tb xb : Nat) (t0 t1 x0 x1 : Value) (w : World) (ht : Rd w [t0, t1] t) (hx : Rd w [x0, x1] x) (hok : instOk t x = true)
    (tc0 : w.cell? ⟨tb, 0, none⟩ = some t0) (tc1 : w.cell? ⟨tb, 1, none⟩ = some t1) (xc0 : w.cell? ⟨xb, 0, none⟩ = some x0) (xc1 : w.cell? ⟨xb, 1, none⟩ = some x1) :
    Calls Tryz.prog 80 #[.pointer (some ⟨tb, 0, none⟩), .pointer (some ⟨xb, 0, none⟩)] w fun e w' => ∃ u0 u1 u2, e = .returned (.tuple #[.agg #[u0, u1, u2], .int .i64 (sysF t x).2]) ∧ Fresh w.heap.size w' [u0, u1, u2] (sysF t x).1 ∧ Below w.heap.size w w' := by
  have hV := (instOk_get hok).2.1
  have hcl := (instOk_get hok).2.2.1
  have hs1 := (tmplOk_get (instOk_get hok).1).1
  have HRA := Lib.hid (relAt_ok hok)
  obtain ⟨size, rs⟩ := t
  obtain ⟨vars, cs⟩ := x
  simp only at hV hcl hs1
  obtain ⟨V, rfl⟩ : ∃ V : Nat, vars = (V : Int) := ⟨vars.toNat, by omega⟩
  have HCS := Lib.hid (rd_cons rfl hx).2
  have HRS := Lib.hid (rd_cons rfl ht).2
  have zt := rd_cons rfl ht
  obtain ⟨rfl, _⟩ := rd_i1 zt.1
  obtain ⟨at0, ct0, rfl, _⟩ := rd_list zt.2
  have zx := rd_cons rfl hx
  obtain ⟨rfl, _⟩ := rd_i1 zx.1
  obtain ⟨ax, cx, rfl, _⟩ := rd_list zx.2
  have hIs : I64 size := i64_of _ (by omega) (by omega)
  have hIV : I64 (V : Int) := i64_of _ (by omega) (by omega)
  clear hok ht hx zt zx
  have tc0_ := cellL (St.start w).bel tc0
  clear tc0_
  have tc0_ := cellL (St.start w).bel tc0
  have tc1_ := cellL (St.start w).bel tc1
  clear tc0_ tc1_
  have tc0_ := cellL (St.start w).bel tc0
  have tc1_ := cellL (St.start w).bel tc1
  have xc0_ := cellL (St.start w).bel xc0
  clear tc0_ tc1_ xc0_
  have tc0_ := cellL (St.start w).bel tc0
  have tc1_ := cellL (St.start w).bel tc1
  have xc0_ := cellL (St.start w).bel xc0
  have xc1_ := cellL (St.start w).bel xc1
  have hs1 := (St.start w).alloc #[.int .i64 0, .int .i64 0, .slice none 0 0] 61 (n := w.heap.size) (by simp)
  clear tc0_ tc1_ xc0_ xc1_
  have k0_0 := hs1.cellAt 0 rfl 0 rfl
  have k0_1 := hs1.cellAt 0 rfl 1 rfl
  have k0_2 := hs1.cellAt 0 rfl 2 rfl
  have tc0_ := cellL hs1.bel tc0
  have tc1_ := cellL hs1.bel tc1
  have xc0_ := cellL hs1.bel xc0
  have xc1_ := cellL hs1.bel xc1
  go_enter Tryz.func80, Tryz.ntmps80
  go_wp2_with fail
  refine (l07Prime_c size _).mono ?_
  rintro e w2 ⟨rfl, rfl⟩
  cases h1 : isPr size with
  | false =>
    have H1 := Lib.hid (show sysF (size, rs) ((V : Int), cs) = ((0, 0, []), 4) by unfold sysF; simp only; rw [h1]; rfl)
    clear h1
    have f0_0 := hs1.freeAt 0 rfl 0
    have f0_1 := hs1.freeAt 0 rfl 1
    have f0_2 := hs1.freeAt 0 rfl 2
    go_wp2_with fail
    have x0 := (hs1.cellAt 0 rfl 0 rfl)
    have x1 := (hs1.cellAt 0 rfl 1 rfl)
    have x2 := (hs1.cellAt 0 rfl 2 rfl)
    refine bodyPost_ret (v := .tuple #[.agg #[.int .i64 0, .int .i64 0, .slice none 0 0], .int .i64 4]) (by simp [results, Tryz.results80, go_sem, x0, x1, x2]) rfl ⟨_, _, _, by rw [H1.out], ?_, hs1.bel⟩
    rw [H1.out]; exact ⟨[], own0_sys, by simp, by simp⟩
  | true =>
    have HPR := Lib.hid h1
    clear h1
    go_upto_region 3 with fail
    have hz_wA : w.heap.size + 1 ≤ ((w.alloc (.cells #[.int .i64 0, .int .i64 0, .slice none 0 0] 61))).heap.size := by simp
    generalize hgen_wA : (w.alloc (.cells #[.int .i64 0, .int .i64 0, .slice none 0 0] 61)) = wA at *
    clear hgen_wA
    have HBA := Lib.hid (Below.refl wA.heap.size wA)
    go_cut [6] from 21 to 30 (fun x6 wx => ∃ g gL : Nat, x6 = .pointer (some ⟨g, 0, none⟩) ∧ Hid (St w wx.heap.size wx [(w.heap.size, #[.int .i64 0, .int .i64 0, .slice none 0 0], 61), (g, #[.int .i64 size, .int .i64 V, .slice (some ⟨gL, 0, none⟩) 0 0], 61)]) ∧ Hid (AccP (α := Eqn) (fun z => z = gL) 200 wx (.slice (some ⟨gL, 0, none⟩) 0 0) []) ∧ Hid (Below wA.heap.size wA wx ∧ g ≠ gL ∧ wA.heap.size ≤ g ∧ wA.heap.size ≤ gL ∧ g < wx.heap.size ∧ gL < wx.heap.size))
    case first =>
      refine wp_region_noPanic (wp_region_tree4 (fun w' => w'.cell? ⟨w.heap.size, 0, none⟩ = some (.int .i64 0) ∧ w'.cell? ⟨w.heap.size, 1, none⟩ = some (.int .i64 0) ∧ w'.cell? ⟨w.heap.size, 2, none⟩ = some (.slice none 0 0) ∧ w'.cell? ⟨tb, 0, none⟩ = some (.int .i64 size) ∧ w'.cell? ⟨tb, 1, none⟩ = some (.slice at0 rs.length ct0) ∧ w'.cell? ⟨xb, 0, none⟩ = some (.int .i64 V) ∧ w'.cell? ⟨xb, 1, none⟩ = some (.slice ax cs.length cx)) (.float 0 (.float 1 (.float 2 (.float 3 (.float 4 (.float 5 (.float 6 (.float 7 (.fork2 8 (.float 9 (.hard 10 (.last 11 .nil))) 10 (.hard 8 (.float 9 (.last 11 .nil)))))))))))) (by kernel_rfl) (by kernel_rfl) (by kernel_rfl) rfl ?_ (fun _ _ _ _ _ h => h) ?_)
      · exact ⟨(hs1.drew).cellAt 0 rfl 0 rfl, (hs1.drew).cellAt 0 rfl 1 rfl, (hs1.drew).cellAt 0 rfl 2 rfl, cellL (hs1.drew).bel tc0, cellL (hs1.drew).bel tc1, cellL (hs1.drew).bel xc0, cellL (hs1.drew).bel xc1⟩
      have hs3 := hs1.drew
      have HBA_4 := Lib.hid (HBA.out.trans (((belowD _)).mono HBA.out.size))
      clear HBA
      clear k0_0 k0_1 k0_2 tc0_ tc1_ xc0_ xc1_
      have hz_wd5 : wA.heap.size ≤ (wA.drew).heap.size := by simp
      generalize hgen_wd5 : wA.drew = wd5 at *
      have HG_wd5 := Lib.hid hgen_wd5
      clear hgen_wd5
      (repeat (first | (apply t4_skip rfl (by rfl); try simp only [Act.put, sI, sZ, sS]) | (apply t4_float rfl (by rfl); (· (intro w' hS; go_simp <;> with_reducible rfl)); (try simp only [Act.put, sI, sZ, sS]))))
      refine t4_fork2 ?_ ?_
      · refine t4_hard rfl (by rfl) (fun K hK => ?_)
        go_wp2_with fail
        have HROW := Lib.hid (row_made (size := 2) wd5 200)
        have hs6 := hs3.alloc #[] 200 (n := wd5.heap.size) (by simp)
        have HBA_7 := Lib.hid (HBA_4.out.trans (((belowA _ (.cells #[] 200))).mono HBA_4.out.size))
        clear HBA_4
        have hz_wL : wd5.heap.size + 1 ≤ ((wd5.alloc (.cells #[] 200))).heap.size := by simp
        generalize hgen_wL : (wd5.alloc (.cells #[] 200)) = wL at *
        clear hgen_wL
        refine ⟨⟨hs6.cellAt 0 rfl 0 rfl, hs6.cellAt 0 rfl 1 rfl, hs6.cellAt 0 rfl 2 rfl, cellL hs6.bel tc0, cellL hs6.bel tc1, cellL hs6.bel xc0, cellL hs6.bel xc1⟩, ?_⟩
        (repeat (first | (apply t4_skip rfl (by rfl); try simp only [Act.put, sI, sZ, sS]) | (apply t4_float rfl (by rfl); (· (intro w' hS; go_simp <;> with_reducible rfl)); (try simp only [Act.put, sI, sZ, sS]))))
        refine t4_hard rfl (by rfl) (fun K hK => ?_)
        go_wp2_with fail
        have hs8 := hs6.alloc #[.int .i64 0, .int .i64 0, .slice none 0 0] 61 (n := wL.heap.size) (by simp)
        have HBA_9 := Lib.hid (HBA_7.out.trans (((belowA _ (.cells #[.int .i64 0, .int .i64 0, .slice none 0 0] 61))).mono HBA_7.out.size))
        clear HBA_7
        have HROW_10 := Lib.hid (ownsRow_below HROW.out (belowA _ (.cells #[.int .i64 0, .int .i64 0, .slice none 0 0] 61)))
        clear HROW
        have hz_wG : wL.heap.size + 1 ≤ ((wL.alloc (.cells #[.int .i64 0, .int .i64 0, .slice none 0 0] 61))).heap.size := by simp
        generalize hgen_wG : (wL.alloc (.cells #[.int .i64 0, .int .i64 0, .slice none 0 0] 61)) = wG at *
        clear hgen_wG
        refine ⟨⟨hs8.cellAt 0 rfl 0 rfl, hs8.cellAt 0 rfl 1 rfl, hs8.cellAt 0 rfl 2 rfl, cellL hs8.bel tc0, cellL hs8.bel tc1, cellL hs8.bel xc0, cellL hs8.bel xc1⟩, ?_⟩
        (repeat (first | (apply t4_skip rfl (by rfl); try simp only [Act.put, sI, sZ, sS]) | (apply t4_float rfl (by rfl); (· (intro w' hS; go_simp <;> with_reducible rfl)); (try simp only [Act.put, sI, sZ, sS]))))
        refine t4_last rfl (by rfl) (fun K hK => ?_)
        have k0_0 := hs8.cellAt 0 rfl 0 rfl
        have k0_1 := hs8.cellAt 0 rfl 1 rfl
        have k0_2 := hs8.cellAt 0 rfl 2 rfl
        have k2_0 := hs8.cellAt 2 rfl 0 rfl
        have k2_1 := hs8.cellAt 2 rfl 1 rfl
        have k2_2 := hs8.cellAt 2 rfl 2 rfl
        have tc0_ := cellL hs8.bel tc0
        have tc1_ := cellL hs8.bel tc1
        have xc0_ := cellL hs8.bel xc0
        have xc1_ := cellL hs8.bel xc1
        have f0 := (hs8.freeAt 2 rfl 0)
        have f1 := (hs8.freeAt 2 rfl 1)
        have f2 := (hs8.freeAt 2 rfl 2)
        have hgG := (hs8.box (wL.heap.size, #[.int .i64 0, .int .i64 0, .slice none 0 0], 61) (by simp)).2.1
        have hgL := (hs8.box (wd5.heap.size, #[], 200) (by simp)).2.1
        have hgH := hs8.hi
        simp only at hgG hgL
        have hq := ((hs8.set (p := [_, _]) (by simp <;> omega) 0 (.int .i64 size)).set (p := [_, _]) (by simp <;> omega) 1 (.int .i64 V)).set (p := [_, _]) (by simp <;> omega) 2 (.slice (some ⟨wd5.heap.size, 0, none⟩) 0 0)
        go_wp2_with fail
        refine t4_nil (NoPanic.normal ?_)
        go_wp2_with fail
        go_meet
        case rel =>
          have ho := (((OnlyAt.refl [wL.heap.size] wG).setCell (p := ⟨wL.heap.size, 0, none⟩) (by simp) (.int .i64 size)).setCell (p := ⟨wL.heap.size, 1, none⟩) (by simp) (.int .i64 V)).setCell (p := ⟨wL.heap.size, 2, none⟩) (by simp) (.slice (some ⟨wd5.heap.size, 0, none⟩) 0 0)
          refine ⟨wL.heap.size, wd5.heap.size, rfl, (hq.up hq.hi (Nat.le_refl _)).sub (fun x hx => ?_), accP_empty (row_frame HROW_10.out (fun k hk => ho.block k (by simp [Value.ownBlock] at hk ⊢; omega))) rfl (by rw [ho.size]; omega), HBA_9.out.trans (ho.below (by simp; omega)), by omega, by omega, by omega, by rw [ho.size]; omega, by rw [ho.size]; omega⟩
          simp only [List.mem_cons, List.not_mem_nil, or_false] at hx
          rcases hx with rfl | rfl <;> simp
      · refine t4_hard rfl (by rfl) (fun K hK => ?_)
        go_wp2_with fail
        have hs11 := hs3.alloc #[.int .i64 0, .int .i64 0, .slice none 0 0] 61 (n := wd5.heap.size) (by simp)
        have HBA_12 := Lib.hid (HBA_4.out.trans (((belowA _ (.cells #[.int .i64 0, .int .i64 0, .slice none 0 0] 61))).mono HBA_4.out.size))
        clear HBA_4
        have hz_wG : wd5.heap.size + 1 ≤ ((wd5.alloc (.cells #[.int .i64 0, .int .i64 0, .slice none 0 0] 61))).heap.size := by simp
        generalize hgen_wG : (wd5.alloc (.cells #[.int .i64 0, .int .i64 0, .slice none 0 0] 61)) = wG at *
        clear hgen_wG
        refine ⟨⟨hs11.cellAt 0 rfl 0 rfl, hs11.cellAt 0 rfl 1 rfl, hs11.cellAt 0 rfl 2 rfl, cellL hs11.bel tc0, cellL hs11.bel tc1, cellL hs11.bel xc0, cellL hs11.bel xc1⟩, ?_⟩
        (repeat (first | (apply t4_skip rfl (by rfl); try simp only [Act.put, sI, sZ, sS]) | (apply t4_float rfl (by rfl); (· (intro w' hS; go_simp <;> with_reducible rfl)); (try simp only [Act.put, sI, sZ, sS]))))
        refine t4_hard rfl (by rfl) (fun K hK => ?_)
        go_wp2_with fail
        have HROW := Lib.hid (row_made (size := 2) wG 200)
        have hs13 := hs11.alloc #[] 200 (n := wG.heap.size) (by simp)
        have HBA_14 := Lib.hid (HBA_12.out.trans (((belowA _ (.cells #[] 200))).mono HBA_12.out.size))
        clear HBA_12
        have hz_wL : wG.heap.size + 1 ≤ ((wG.alloc (.cells #[] 200))).heap.size := by simp
        generalize hgen_wL : (wG.alloc (.cells #[] 200)) = wL at *
        clear hgen_wL
        refine ⟨⟨hs13.cellAt 0 rfl 0 rfl, hs13.cellAt 0 rfl 1 rfl, hs13.cellAt 0 rfl 2 rfl, cellL hs13.bel tc0, cellL hs13.bel tc1, cellL hs13.bel xc0, cellL hs13.bel xc1⟩, ?_⟩
        (repeat (first | (apply t4_skip rfl (by rfl); try simp only [Act.put, sI, sZ, sS]) | (apply t4_float rfl (by rfl); (· (intro w' hS; go_simp <;> with_reducible rfl)); (try simp only [Act.put, sI, sZ, sS]))))
        refine t4_last rfl (by rfl) (fun K hK => ?_)
        have k0_0 := hs13.cellAt 0 rfl 0 rfl
        have k0_1 := hs13.cellAt 0 rfl 1 rfl
        have k0_2 := hs13.cellAt 0 rfl 2 rfl
        have k1_0 := hs13.cellAt 1 rfl 0 rfl
        have k1_1 := hs13.cellAt 1 rfl 1 rfl
        have k1_2 := hs13.cellAt 1 rfl 2 rfl
        have tc0_ := cellL hs13.bel tc0
        have tc1_ := cellL hs13.bel tc1
        have xc0_ := cellL hs13.bel xc0
        have xc1_ := cellL hs13.bel xc1
        have f0 := (hs13.freeAt 1 rfl 0)
        have f1 := (hs13.freeAt 1 rfl 1)
        have f2 := (hs13.freeAt 1 rfl 2)
        have hgG := (hs13.box (wd5.heap.size, #[.int .i64 0, .int .i64 0, .slice none 0 0], 61) (by simp)).2.1
        have hgL := (hs13.box (wG.heap.size, #[], 200) (by simp)).2.1
        have hgH := hs13.hi
        simp only at hgG hgL
        have hq := ((hs13.set (p := [_]) (by simp <;> omega) 0 (.int .i64 size)).set (p := [_]) (by simp <;> omega) 1 (.int .i64 V)).set (p := [_]) (by simp <;> omega) 2 (.slice (some ⟨wG.heap.size, 0, none⟩) 0 0)
        go_wp2_with fail
        refine t4_nil (NoPanic.normal ?_)
        go_wp2_with fail
        go_meet
        case rel =>
          have ho := (((OnlyAt.refl [wd5.heap.size] wL).setCell (p := ⟨wd5.heap.size, 0, none⟩) (by simp) (.int .i64 size)).setCell (p := ⟨wd5.heap.size, 1, none⟩) (by simp) (.int .i64 V)).setCell (p := ⟨wd5.heap.size, 2, none⟩) (by simp) (.slice (some ⟨wG.heap.size, 0, none⟩) 0 0)
          refine ⟨wd5.heap.size, wG.heap.size, rfl, (hq.up hq.hi (Nat.le_refl _)).sub (fun x hx => ?_), accP_empty (row_frame HROW.out (fun k hk => ho.block k (by simp [Value.ownBlock] at hk ⊢; omega))) rfl (by rw [ho.size]; omega), HBA_14.out.trans (ho.below (by simp; omega)), by omega, by omega, by omega, by rw [ho.size]; omega, by rw [ho.size]; omega⟩
          simp only [List.mem_cons, List.not_mem_nil, or_false] at hx
          rcases hx with rfl | rfl <;> simp
    case rest =>
      obtain ⟨g, gL, rfl, hst0, hac0, hx0⟩ := hcut
      obtain ⟨w1, rfl⟩ : ∃ x, x = wc := ⟨_, rfl⟩
      obtain ⟨hbA, hgL0, hgA, hgLA, hg1, hgL1⟩ := hx0.out
      have hzA : w.heap.size + 1 ≤ wA.heap.size := hs1.hi
      clear HBA
      have k0_0 := hst0.out.cellAt 0 rfl 0 rfl
      have k0_1 := hst0.out.cellAt 0 rfl 1 rfl
      have k0_2 := hst0.out.cellAt 0 rfl 2 rfl
      have k1_0 := hst0.out.cellAt 1 rfl 0 rfl
      have k1_1 := hst0.out.cellAt 1 rfl 1 rfl
      have k1_2 := hst0.out.cellAt 1 rfl 2 rfl
      have tc0_ := cellL hst0.out.bel tc0
      have tc1_ := cellL hst0.out.bel tc1
      have xc0_ := cellL hst0.out.bel xc0
      have xc1_ := cellL hst0.out.bel xc1
      clear hbA
      go_wp2_with fail
      go_loopw [7] (fun kv wl => ∃ (k : Nat) (va : Option Addr) (vc : Nat), k ≤ cs.length ∧ kv = .int .i64 k ∧ Hid (St w w1.heap.size wl [(w.heap.size, #[.int .i64 0, .int .i64 0, .slice none 0 0], 61), (g, #[.int .i64 size, .int .i64 V, .slice va (sysTo (size, rs) V cs k).length vc], 61)]) ∧ Hid (AccP (fun z => w.heap.size + 1 ≤ z ∧ z ≠ g ∧ z < wl.heap.size) 200 wl (.slice va (sysTo (size, rs) V cs k).length vc) (sysTo (size, rs) V cs k)) ∧ Hid (∀ (q : Nat) (h : q < cs.length), q < k → affIs size (relAt (size, rs) cs[q]) = true)) (fun kv _ => cs.length - (intOf kv).toNat)
      case atStart => exact ⟨0, some ⟨gL, 0, none⟩, 0, Nat.zero_le _, rfl, hst0.out, hac0.out.wk (fun z hz => by subst hz; omega), fun q _ h => absurd h (Nat.not_lt_zero _)⟩
      case round =>
        clear hst0 hac0
        obtain ⟨k, va, vc, hk, rfl, hst, hac, haff⟩ := hrel
        obtain ⟨wK, rfl⟩ : ∃ x, x = wr := ⟨_, rfl⟩
        have hlo := hst.out.hi
        have k0_0 := hst.out.cellAt 0 rfl 0 rfl
        have k0_1 := hst.out.cellAt 0 rfl 1 rfl
        have k0_2 := hst.out.cellAt 0 rfl 2 rfl
        have k1_0 := hst.out.cellAt 1 rfl 0 rfl
        have k1_1 := hst.out.cellAt 1 rfl 1 rfl
        have k1_2 := hst.out.cellAt 1 rfl 2 rfl
        have tc0_ := cellL hst.out.bel tc0
        have tc1_ := cellL hst.out.bel tc1
        have xc0_ := cellL hst.out.bel xc0
        have xc1_ := cellL hst.out.bel xc1
        by_cases hlt : k < cs.length
        · have hkI : (k : Int) < cs.length := by omega
          obtain ⟨bc, oc, c0, c1, ec, qc0, qc1, hrc⟩ := rd_two_at rfl HCS.out k hlt
          subst ec
          obtain ⟨hrk, hci, hvo⟩ := HRA.out _ (List.getElem_mem hlt)
          have hSU := sysTo_succ (size, rs) V cs k hlt
          generalize hck : cs[k] = CK at *
          obtain ⟨ci, sc⟩ := CK
          simp only at hci hvo
          obtain ⟨n, rfl⟩ : ∃ n : Nat, ci = (n : Int) := ⟨ci.toNat, by omega⟩
          have hn : n < rs.length := by omega
          have hni : (n : Int) < rs.length := by omega
          have hra : relAt (size, rs) ((n : Int), sc) = rs[n] := by unfold relAt; simp only [Int.toNat_natCast]; rw [List.getD, List.getElem?_eq_getElem hn]; rfl
          have hcE : conE (size, rs) V ((n : Int), sc) = (eqsF size rs[n]).2.2.map (spreadE size V sc) := by unfold conE; rw [hra]
          have hafE : (affIs size (relAt (size, rs) ((n : Int), sc)) = affIs size rs[n]) := by rw [hra]
          rw [hra] at hrk hvo
          (try simp only at hrk)
          obtain ⟨br, orr, r0, r1, er, qr0, qr1, hrr⟩ := rd_two_at rfl HRS.out n hn
          subst er
          generalize rs[n] = RL at *
          obtain ⟨ar, tl⟩ := RL
          have zc := rd_cons rfl hrc
          obtain ⟨rfl, _⟩ := rd_i1 zc.1
          obtain ⟨asx, csx, rfl, _⟩ := rd_list zc.2
          have zr := rd_cons rfl hrr
          obtain ⟨rfl, _⟩ := rd_i1 zr.1
          obtain ⟨arx, crx, rfl, _⟩ := rd_list zr.2
          have HSC := Lib.hid zc.2
          have HRL := Lib.hid hrr
          have HRK := Lib.hid hrk
          have HSV := Lib.hid (valsOk_get hvo)
          have HSU := Lib.hid hSU
          have HCE := Lib.hid hcE
          have HAE := Lib.hid hafE
          have HCK := Lib.hid hck
          have hAR := (relOk_get hrk).2.1
          simp only at hAR
          have HTL := Lib.hid zr.2
          have HTU := Lib.hid (rel_tuples hrk)
          clear hrc hrr hrk hvo hSU hcE hra hafE hck zc zr hci
          clear k0_0 k0_1 k0_2 k1_0 k1_1 k1_2 tc0_ tc1_ xc0_ xc1_
          have k0_0 := hst.out.cellAt 0 rfl 0 rfl
          have k0_1 := hst.out.cellAt 0 rfl 1 rfl
          have k0_2 := hst.out.cellAt 0 rfl 2 rfl
          have k1_0 := hst.out.cellAt 1 rfl 0 rfl
          have k1_1 := hst.out.cellAt 1 rfl 1 rfl
          have k1_2 := hst.out.cellAt 1 rfl 2 rfl
          have tc0_ := cellL hst.out.bel tc0
          have tc1_ := cellL hst.out.bel tc1
          have xc0_ := cellL hst.out.bel xc0
          have xc1_ := cellL hst.out.bel xc1
          have qc0_ := cellL hst.out.bel qc0
          clear k0_0 k0_1 k0_2 k1_0 k1_1 k1_2 tc0_ tc1_ xc0_ xc1_ qc0_
          have k0_0 := hst.out.cellAt 0 rfl 0 rfl
          have k0_1 := hst.out.cellAt 0 rfl 1 rfl
          have k0_2 := hst.out.cellAt 0 rfl 2 rfl
          have k1_0 := hst.out.cellAt 1 rfl 0 rfl
          have k1_1 := hst.out.cellAt 1 rfl 1 rfl
          have k1_2 := hst.out.cellAt 1 rfl 2 rfl
          have tc0_ := cellL hst.out.bel tc0
          have tc1_ := cellL hst.out.bel tc1
          have xc0_ := cellL hst.out.bel xc0
          have xc1_ := cellL hst.out.bel xc1
          have qc0_ := cellL hst.out.bel qc0
          have qc1_ := cellL hst.out.bel qc1
          clear k0_0 k0_1 k0_2 k1_0 k1_1 k1_2 tc0_ tc1_ xc0_ xc1_ qc0_ qc1_
          have k0_0 := hst.out.cellAt 0 rfl 0 rfl
          have k0_1 := hst.out.cellAt 0 rfl 1 rfl
          have k0_2 := hst.out.cellAt 0 rfl 2 rfl
          have k1_0 := hst.out.cellAt 1 rfl 0 rfl
          have k1_1 := hst.out.cellAt 1 rfl 1 rfl
          have k1_2 := hst.out.cellAt 1 rfl 2 rfl
          have tc0_ := cellL hst.out.bel tc0
          have tc1_ := cellL hst.out.bel tc1
          have xc0_ := cellL hst.out.bel xc0
          have xc1_ := cellL hst.out.bel xc1
          have qc0_ := cellL hst.out.bel qc0
          have qc1_ := cellL hst.out.bel qc1
          have qr0_ := cellL hst.out.bel qr0
          clear k0_0 k0_1 k0_2 k1_0 k1_1 k1_2 tc0_ tc1_ xc0_ xc1_ qc0_ qc1_ qr0_
          have k0_0 := hst.out.cellAt 0 rfl 0 rfl
          have k0_1 := hst.out.cellAt 0 rfl 1 rfl
          have k0_2 := hst.out.cellAt 0 rfl 2 rfl
          have k1_0 := hst.out.cellAt 1 rfl 0 rfl
          have k1_1 := hst.out.cellAt 1 rfl 1 rfl
          have k1_2 := hst.out.cellAt 1 rfl 2 rfl
          have tc0_ := cellL hst.out.bel tc0
          have tc1_ := cellL hst.out.bel tc1
          have xc0_ := cellL hst.out.bel xc0
          have xc1_ := cellL hst.out.bel xc1
          have qc0_ := cellL hst.out.bel qc0
          have qc1_ := cellL hst.out.bel qc1
          have qr0_ := cellL hst.out.bel qr0
          have qr1_ := cellL hst.out.bel qr1
          have HBK := Lib.hid (Below.refl wK.heap.size wK)
          go_upto_region 7 with fail
          refine wp_region_noPanic (wp_region_tree4 (fun w' => w'.cell? ⟨w.heap.size, 0, none⟩ = some (.int .i64 0) ∧ w'.cell? ⟨w.heap.size, 1, none⟩ = some (.int .i64 0) ∧ w'.cell? ⟨w.heap.size, 2, none⟩ = some (.slice none 0 0) ∧ w'.cell? ⟨g, 0, none⟩ = some (.int .i64 size) ∧ w'.cell? ⟨g, 1, none⟩ = some (.int .i64 V) ∧ w'.cell? ⟨g, 2, none⟩ = some (.slice va (sysTo (size, rs) V cs k).length vc) ∧ w'.cell? ⟨tb, 0, none⟩ = some (.int .i64 size) ∧ w'.cell? ⟨tb, 1, none⟩ = some (.slice (some ⟨br, orr, none⟩) rs.length ct0) ∧ w'.cell? ⟨xb, 0, none⟩ = some (.int .i64 V) ∧ w'.cell? ⟨xb, 1, none⟩ = some (.slice (some ⟨bc, oc, none⟩) cs.length cx) ∧ w'.cell? ⟨bc, oc + k * 2, none⟩ = some (.int .i64 n) ∧ w'.cell? ⟨bc, oc + k * 2 + 1, none⟩ = some (.slice asx sc.length csx) ∧ w'.cell? ⟨br, orr + n * 2, none⟩ = some (.int .i64 ar) ∧ w'.cell? ⟨br, orr + n * 2 + 1, none⟩ = some (.slice arx tl.length crx)) (.float 0 (.float 1 (.float 2 (.float 3 (.float 4 (.float 5 (.float 6 (.float 7 (.float 8 (.float 9 (.float 10 (.float 11 (.float 12 (.float 13 .nil)))))))))))))) (by kernel_rfl) (by kernel_rfl) (by kernel_rfl) rfl ?_ (fun _ _ _ _ _ h => h) ?_)
          · exact ⟨(hst.out.drew).cellAt 0 rfl 0 rfl, (hst.out.drew).cellAt 0 rfl 1 rfl, (hst.out.drew).cellAt 0 rfl 2 rfl, (hst.out.drew).cellAt 1 rfl 0 rfl, (hst.out.drew).cellAt 1 rfl 1 rfl, (hst.out.drew).cellAt 1 rfl 2 rfl, cellL (hst.out.drew).bel tc0, cellL (hst.out.drew).bel tc1, cellL (hst.out.drew).bel xc0, cellL (hst.out.drew).bel xc1, cellL (hst.out.drew).bel qc0, cellL (hst.out.drew).bel qc1, cellL (hst.out.drew).bel qr0, cellL (hst.out.drew).bel qr1⟩
          have hs15 := hst.out.drew
          have HBK_16 := Lib.hid (HBK.out.trans (((belowD _)).mono HBK.out.size))
          clear HBK
          clear k0_0 k0_1 k0_2 k1_0 k1_1 k1_2 tc0_ tc1_ xc0_ xc1_ qc0_ qc1_ qr0_ qr1_
          have hz_wd17 : wK.heap.size ≤ (wK.drew).heap.size := by simp
          generalize hgen_wd17 : wK.drew = wd17 at *
          have HG_wd17 := Lib.hid hgen_wd17
          clear hgen_wd17
          (repeat (first | (apply t4_skip rfl (by rfl); try simp only [Act.put, sI, sZ, sS]) | (apply t4_float rfl (by rfl); (· (intro w' hS; go_simp <;> with_reducible rfl)); (try simp only [Act.put, sI, sZ, sS]))))
          have k0_0 := hs15.cellAt 0 rfl 0 rfl
          have k0_1 := hs15.cellAt 0 rfl 1 rfl
          have k0_2 := hs15.cellAt 0 rfl 2 rfl
          have k1_0 := hs15.cellAt 1 rfl 0 rfl
          have k1_1 := hs15.cellAt 1 rfl 1 rfl
          have k1_2 := hs15.cellAt 1 rfl 2 rfl
          have tc0_ := cellL hs15.bel tc0
          have tc1_ := cellL hs15.bel tc1
          have xc0_ := cellL hs15.bel xc0
          have xc1_ := cellL hs15.bel xc1
          have qc0_ := cellL hs15.bel qc0
          have qc1_ := cellL hs15.bel qc1
          have qr0_ := cellL hs15.bel qr0
          have qr1_ := cellL hs15.bel qr1
          refine t4_nil (NoPanic.normal ?_)
          go_wp2_with fail
          refine (l07Is_c size (ar, tl) br (orr + n * 2) _ _ _ (Rd.mono HRL.out hs15.bel) (cellL hs15.bel qr0) (cellL hs15.bel qr1) HPR.out HRK.out).mono ?_
          rintro e w18 ⟨rfl, hbw18⟩
          have hz_w18 : wd17.heap.size ≤ w18.heap.size := by have h9 := hbw18.size; (try simp at h9); omega
          have hs19 := hs15.step hbw18
          have HBK_20 := Lib.hid (HBK_16.out.trans ((hbw18).mono HBK_16.out.size))
          clear HBK_16
          clear k0_0 k0_1 k0_2 k1_0 k1_1 k1_2 tc0_ tc1_ xc0_ xc1_ qc0_ qc1_ qr0_ qr1_
          have k0_0 := hs19.cellAt 0 rfl 0 rfl
          have k0_1 := hs19.cellAt 0 rfl 1 rfl
          have k0_2 := hs19.cellAt 0 rfl 2 rfl
          have k1_0 := hs19.cellAt 1 rfl 0 rfl
          have k1_1 := hs19.cellAt 1 rfl 1 rfl
          have k1_2 := hs19.cellAt 1 rfl 2 rfl
          have tc0_ := cellL hs19.bel tc0
          have tc1_ := cellL hs19.bel tc1
          have xc0_ := cellL hs19.bel xc0
          have xc1_ := cellL hs19.bel xc1
          have qc0_ := cellL hs19.bel qc0
          have qc1_ := cellL hs19.bel qc1
          have qr0_ := cellL hs19.bel qr0
          have qr1_ := cellL hs19.bel qr1
          cases haf : affIs size (ar, tl) with
          | false =>
            have H1 := Lib.hid (show sysF (size, rs) ((V : Int), cs) = ((0, 0, []), 4) by
              have h3 : affAll (size, rs) ((V : Int), cs) = false := by
                unfold affAll
                rw [List.all_eq_false]
                exact ⟨_, List.getElem_mem hlt, by rw [HCK.out, HAE.out, haf]; decide⟩
              unfold sysF
              simp only
              rw [HPR.out, h3]; rfl)
            clear haf
            have f0_0 := hs19.freeAt 0 rfl 0
            have f0_1 := hs19.freeAt 0 rfl 1
            have f0_2 := hs19.freeAt 0 rfl 2
            go_wp2_with fail
            have hs21 := hs19.set (p := []) (by simp <;> omega) 0 (.int .i64 0)
            have hs22 := hs21.set (p := []) (by simp <;> omega) 1 (.int .i64 0)
            have hs23 := hs22.set (p := []) (by simp <;> omega) 2 (.slice none 0 0)
            have x0 := (hs23.cellAt 0 rfl 0 rfl)
            have x1 := (hs23.cellAt 0 rfl 1 rfl)
            have x2 := (hs23.cellAt 0 rfl 2 rfl)
            refine bodyPost_ret (v := .tuple #[.agg #[.int .i64 0, .int .i64 0, .slice none 0 0], .int .i64 4]) (by simp [results, Tryz.results80, go_sem, x0, x1, x2]) rfl ⟨_, _, _, by rw [H1.out], ?_, hs23.bel⟩
            rw [H1.out]; exact ⟨[], own0_sys, by simp, by simp⟩
          | true =>
            have HAF := Lib.hid (show ∀ (q : Nat) (h : q < cs.length), q < k + 1 → affIs size (relAt (size, rs) cs[q]) = true from fun q h hq => by
              rcases Nat.lt_or_ge q k with h1 | h1
              · exact haff.out q h h1
              · obtain rfl : q = k := by omega
                rw [HCK.out, HAE.out, haf])
            obtain ⟨N, hN, hpN, hEF, hE4, hEO⟩ := eqsF_ok HPR.out HRK.out haf
            have hlp := affIs_get haf
            obtain ⟨A, rfl⟩ : ∃ A : Nat, ar = (A : Int) := ⟨ar.toNat, by omega⟩
            simp only at hEF hEO hpN hE4 hlp
            rw [Int.toNat_natCast] at hEF hEO hpN hE4
            have HOC := Lib.hid (fun W h => l07Of_c size A tl (.slice arx tl.length crx) N W h (isPr_true HPR.out) (by omega) hN hpN hlp HTU.out)
            generalize ofTo size A tl N = E at *
            have HSU := Lib.hid (show sysTo (size, rs) V cs (k + 1) = sysTo (size, rs) V cs k ++ E.map (spreadE size V sc) by rw [HSU.out, HCE.out, hEF])
            have HEO := Lib.hid hEO
            have hIA : I64 (A : Int) := i64_of _ (by omega) (by omega)
            clear haf hEF hEO hpN hlp
            go_upto_region 10 with fail
            go_cut [9] from 60 to 73 (fun x9 wx => ∃ (gO : Nat) (a9 : Option Addr) (c9 : Nat), x9 = .pointer (some ⟨gO, 0, none⟩) ∧ Hid (St w wx.heap.size wx [(w.heap.size, #[.int .i64 0, .int .i64 0, .slice none 0 0], 61), (g, #[.int .i64 size, .int .i64 V, .slice va (sysTo (size, rs) V cs k).length vc], 61), (gO, #[.int .i64 size, .int .i64 A, .slice a9 E.length c9], 61)]) ∧ Hid (Ip (fun z => wK.heap.size ≤ z ∧ z ≠ gO ∧ z < wx.heap.size) wx [.slice a9 E.length c9] E) ∧ Hid (Below wK.heap.size wK wx ∧ wK.heap.size ≤ gO ∧ gO < wx.heap.size))
            case first =>
              refine wp_region_noPanic (wp_region_tree4 (fun w' => w'.cell? ⟨w.heap.size, 0, none⟩ = some (.int .i64 0) ∧ w'.cell? ⟨w.heap.size, 1, none⟩ = some (.int .i64 0) ∧ w'.cell? ⟨w.heap.size, 2, none⟩ = some (.slice none 0 0) ∧ w'.cell? ⟨g, 0, none⟩ = some (.int .i64 size) ∧ w'.cell? ⟨g, 1, none⟩ = some (.int .i64 V) ∧ w'.cell? ⟨g, 2, none⟩ = some (.slice va (sysTo (size, rs) V cs k).length vc) ∧ w'.cell? ⟨tb, 0, none⟩ = some (.int .i64 size) ∧ w'.cell? ⟨tb, 1, none⟩ = some (.slice (some ⟨br, orr, none⟩) rs.length ct0) ∧ w'.cell? ⟨xb, 0, none⟩ = some (.int .i64 V) ∧ w'.cell? ⟨xb, 1, none⟩ = some (.slice (some ⟨bc, oc, none⟩) cs.length cx) ∧ w'.cell? ⟨bc, oc + k * 2, none⟩ = some (.int .i64 n) ∧ w'.cell? ⟨bc, oc + k * 2 + 1, none⟩ = some (.slice asx sc.length csx) ∧ w'.cell? ⟨br, orr + n * 2, none⟩ = some (.int .i64 (A : Int)) ∧ w'.cell? ⟨br, orr + n * 2 + 1, none⟩ = some (.slice arx tl.length crx)) (.float 0 (.float 1 (.float 2 (.float 3 (.float 4 (.float 5 (.float 6 (.float 7 (.float 8 (.float 9 (.float 10 (.float 11 (.fork2 12 (.hard 13 (.last 14 .nil)) 13 (.hard 12 (.last 14 .nil))))))))))))))) (by kernel_rfl) (by kernel_rfl) (by kernel_rfl) rfl ?_ (fun _ _ _ _ _ h => h) ?_)
              · exact ⟨(hs19.drew).cellAt 0 rfl 0 rfl, (hs19.drew).cellAt 0 rfl 1 rfl, (hs19.drew).cellAt 0 rfl 2 rfl, (hs19.drew).cellAt 1 rfl 0 rfl, (hs19.drew).cellAt 1 rfl 1 rfl, (hs19.drew).cellAt 1 rfl 2 rfl, cellL (hs19.drew).bel tc0, cellL (hs19.drew).bel tc1, cellL (hs19.drew).bel xc0, cellL (hs19.drew).bel xc1, cellL (hs19.drew).bel qc0, cellL (hs19.drew).bel qc1, cellL (hs19.drew).bel qr0, cellL (hs19.drew).bel qr1⟩
              have hs24 := hs19.drew
              have HBK_25 := Lib.hid (HBK_20.out.trans (((belowD _)).mono HBK_20.out.size))
              clear HBK_20
              clear k0_0 k0_1 k0_2 k1_0 k1_1 k1_2 tc0_ tc1_ xc0_ xc1_ qc0_ qc1_ qr0_ qr1_
              have hz_wd26 : w18.heap.size ≤ (w18.drew).heap.size := by simp
              generalize hgen_wd26 : w18.drew = wd26 at *
              have HG_wd26 := Lib.hid hgen_wd26
              clear hgen_wd26
              (repeat (first | (apply t4_skip rfl (by rfl); try simp only [Act.put, sI, sZ, sS]) | (apply t4_float rfl (by rfl); (· (intro w' hS; go_simp <;> with_reducible rfl)); (try simp only [Act.put, sI, sZ, sS]))))
              refine t4_fork2 ?_ ?_
              · refine t4_hard rfl (by rfl) (fun K hK => ?_)
                go_wp2_with (go_at_call 141; refine (HOC.out _ (Rd.mono HTL.out hs24.bel)).mono ?_; rintro e w27 ⟨a9, n9, c9, rfl, hA9, rfl, hbw27⟩)
                have hz_w27 : wd26.heap.size ≤ w27.heap.size := by have h9 := hbw27.size; (try simp at h9); omega
                have hs28 := hs24.step hbw27
                have HBK_29 := Lib.hid (HBK_25.out.trans ((hbw27).mono HBK_25.out.size))
                clear HBK_25
                have HEX := Lib.hid hA9.tight.ip
                clear hA9
                refine ⟨⟨hs28.cellAt 0 rfl 0 rfl, hs28.cellAt 0 rfl 1 rfl, hs28.cellAt 0 rfl 2 rfl, hs28.cellAt 1 rfl 0 rfl, hs28.cellAt 1 rfl 1 rfl, hs28.cellAt 1 rfl 2 rfl, cellL hs28.bel tc0, cellL hs28.bel tc1, cellL hs28.bel xc0, cellL hs28.bel xc1, cellL hs28.bel qc0, cellL hs28.bel qc1, cellL hs28.bel qr0, cellL hs28.bel qr1⟩, ?_⟩
                (repeat (first | (apply t4_skip rfl (by rfl); try simp only [Act.put, sI, sZ, sS]) | (apply t4_float rfl (by rfl); (· (intro w' hS; go_simp <;> with_reducible rfl)); (try simp only [Act.put, sI, sZ, sS]))))
                refine t4_hard rfl (by rfl) (fun K hK => ?_)
                go_wp2_with fail
                have hs30 := hs28.alloc #[.int .i64 0, .int .i64 0, .slice none 0 0] 61 (n := w27.heap.size) (by simp)
                have HBK_31 := Lib.hid (HBK_29.out.trans (((belowA _ (.cells #[.int .i64 0, .int .i64 0, .slice none 0 0] 61))).mono HBK_29.out.size))
                clear HBK_29
                have HEX_32 := Lib.hid (Ip.mono HEX.out (belowA _ (.cells #[.int .i64 0, .int .i64 0, .slice none 0 0] 61)))
                clear HEX
                have hz_wO : w27.heap.size + 1 ≤ ((w27.alloc (.cells #[.int .i64 0, .int .i64 0, .slice none 0 0] 61))).heap.size := by simp
                generalize hgen_wO : (w27.alloc (.cells #[.int .i64 0, .int .i64 0, .slice none 0 0] 61)) = wO at *
                clear hgen_wO
                refine ⟨⟨hs30.cellAt 0 rfl 0 rfl, hs30.cellAt 0 rfl 1 rfl, hs30.cellAt 0 rfl 2 rfl, hs30.cellAt 1 rfl 0 rfl, hs30.cellAt 1 rfl 1 rfl, hs30.cellAt 1 rfl 2 rfl, cellL hs30.bel tc0, cellL hs30.bel tc1, cellL hs30.bel xc0, cellL hs30.bel xc1, cellL hs30.bel qc0, cellL hs30.bel qc1, cellL hs30.bel qr0, cellL hs30.bel qr1⟩, ?_⟩
                (repeat (first | (apply t4_skip rfl (by rfl); try simp only [Act.put, sI, sZ, sS]) | (apply t4_float rfl (by rfl); (· (intro w' hS; go_simp <;> with_reducible rfl)); (try simp only [Act.put, sI, sZ, sS]))))
                refine t4_last rfl (by rfl) (fun K hK => ?_)
                have k0_0 := hs30.cellAt 0 rfl 0 rfl
                have k0_1 := hs30.cellAt 0 rfl 1 rfl
                have k0_2 := hs30.cellAt 0 rfl 2 rfl
                have k1_0 := hs30.cellAt 1 rfl 0 rfl
                have k1_1 := hs30.cellAt 1 rfl 1 rfl
                have k1_2 := hs30.cellAt 1 rfl 2 rfl
                have k2_0 := hs30.cellAt 2 rfl 0 rfl
                have k2_1 := hs30.cellAt 2 rfl 1 rfl
                have k2_2 := hs30.cellAt 2 rfl 2 rfl
                have tc0_ := cellL hs30.bel tc0
                have tc1_ := cellL hs30.bel tc1
                have xc0_ := cellL hs30.bel xc0
                have xc1_ := cellL hs30.bel xc1
                have qc0_ := cellL hs30.bel qc0
                have qc1_ := cellL hs30.bel qc1
                have qr0_ := cellL hs30.bel qr0
                have qr1_ := cellL hs30.bel qr1
                have f2_0 := hs30.freeAt 2 rfl 0
                have f2_1 := hs30.freeAt 2 rfl 1
                have f2_2 := hs30.freeAt 2 rfl 2
                have hgO := (hs30.box (w27.heap.size, #[.int .i64 0, .int .i64 0, .slice none 0 0], 61) (by simp)).2.1
                simp only at hgO
                go_wp2_with fail
                refine t4_nil (NoPanic.normal ?_)
                have hs33 := hs30.set (p := [_, _]) (by simp <;> omega) 0 (.int .i64 size)
                have hs34 := hs33.set (p := [_, _]) (by simp <;> omega) 1 (.int .i64 A)
                have hs35 := hs34.set (p := [_, _]) (by simp <;> omega) 2 (.slice a9 E.length c9)
                have HBK_36 := Lib.hid (((HBK_31.out.setCell (p := ⟨w27.heap.size, 0, none⟩) (by (try simp) <;> omega) (.int .i64 size)).setCell (p := ⟨w27.heap.size, 1, none⟩) (by (try simp) <;> omega) (.int .i64 A)).setCell (p := ⟨w27.heap.size, 2, none⟩) (by (try simp) <;> omega) (.slice a9 E.length c9))
                clear HBK_31
                have HEX_37 := Lib.hid (Ip.setCell (b := w27.heap.size) (o := 2) (Ip.setCell (b := w27.heap.size) (o := 1) (Ip.setCell (b := w27.heap.size) (o := 0) HEX_32.out (.int .i64 size) (by intro hA9; (try simp only at hA9); omega)) (.int .i64 A) (by intro hA9; (try simp only at hA9); omega)) (.slice a9 E.length c9) (by intro hA9; (try simp only at hA9); omega))
                clear HEX_32
                clear k0_0 k0_1 k0_2 k1_0 k1_1 k1_2 k2_0 k2_1 k2_2 tc0_ tc1_ xc0_ xc1_ qc0_ qc1_ qr0_ qr1_
                have hz_wP : wO.heap.size ≤ ((((wO.setCell ⟨w27.heap.size, 0, none⟩ (.int .i64 size)).setCell ⟨w27.heap.size, 1, none⟩ (.int .i64 A)).setCell ⟨w27.heap.size, 2, none⟩ (.slice a9 E.length c9))).heap.size := by simp [World.setCell]
                generalize hgen_wP : (((wO.setCell ⟨w27.heap.size, 0, none⟩ (.int .i64 size)).setCell ⟨w27.heap.size, 1, none⟩ (.int .i64 A)).setCell ⟨w27.heap.size, 2, none⟩ (.slice a9 E.length c9)) = wP at *
                clear hgen_wP
                have k0_0 := hs35.cellAt 0 rfl 0 rfl
                have k0_1 := hs35.cellAt 0 rfl 1 rfl
                have k0_2 := hs35.cellAt 0 rfl 2 rfl
                have k1_0 := hs35.cellAt 1 rfl 0 rfl
                have k1_1 := hs35.cellAt 1 rfl 1 rfl
                have k1_2 := hs35.cellAt 1 rfl 2 rfl
                have k2_0 := hs35.cellAt 2 rfl 0 rfl
                have k2_1 := hs35.cellAt 2 rfl 1 rfl
                have k2_2 := hs35.cellAt 2 rfl 2 rfl
                have tc0_ := cellL hs35.bel tc0
                have tc1_ := cellL hs35.bel tc1
                have xc0_ := cellL hs35.bel xc0
                have xc1_ := cellL hs35.bel xc1
                have qc0_ := cellL hs35.bel qc0
                have qc1_ := cellL hs35.bel qc1
                have qr0_ := cellL hs35.bel qr0
                have qr1_ := cellL hs35.bel qr1
                go_wp2_with fail
                go_meet
                case rel =>
                  refine ⟨w27.heap.size, a9, c9, rfl, (hs35.up hs35.hi (Nat.le_refl _)).sub (fun x hx => ?_), (HEX_37.out).wk (fun z hz => ?_), HBK_36.out, by omega, by omega⟩
                  · simp only [List.mem_cons, List.not_mem_nil, or_false] at hx
                    rcases hx with rfl | rfl | rfl <;> simp
                  · (try simp only at hz); omega
              · refine t4_hard rfl (by rfl) (fun K hK => ?_)
                go_wp2_with fail
                have hs38 := hs24.alloc #[.int .i64 0, .int .i64 0, .slice none 0 0] 61 (n := wd26.heap.size) (by simp)
                have HBK_39 := Lib.hid (HBK_25.out.trans (((belowA _ (.cells #[.int .i64 0, .int .i64 0, .slice none 0 0] 61))).mono HBK_25.out.size))
                clear HBK_25
                have hz_wO : wd26.heap.size + 1 ≤ ((wd26.alloc (.cells #[.int .i64 0, .int .i64 0, .slice none 0 0] 61))).heap.size := by simp
                generalize hgen_wO : (wd26.alloc (.cells #[.int .i64 0, .int .i64 0, .slice none 0 0] 61)) = wO at *
                clear hgen_wO
                refine ⟨⟨hs38.cellAt 0 rfl 0 rfl, hs38.cellAt 0 rfl 1 rfl, hs38.cellAt 0 rfl 2 rfl, hs38.cellAt 1 rfl 0 rfl, hs38.cellAt 1 rfl 1 rfl, hs38.cellAt 1 rfl 2 rfl, cellL hs38.bel tc0, cellL hs38.bel tc1, cellL hs38.bel xc0, cellL hs38.bel xc1, cellL hs38.bel qc0, cellL hs38.bel qc1, cellL hs38.bel qr0, cellL hs38.bel qr1⟩, ?_⟩
                (repeat (first | (apply t4_skip rfl (by rfl); try simp only [Act.put, sI, sZ, sS]) | (apply t4_float rfl (by rfl); (· (intro w' hS; go_simp <;> with_reducible rfl)); (try simp only [Act.put, sI, sZ, sS]))))
                refine t4_hard rfl (by rfl) (fun K hK => ?_)
                go_wp2_with (go_at_call 141; refine (HOC.out _ (Rd.mono HTL.out hs38.bel)).mono ?_; rintro e w40 ⟨a9, n9, c9, rfl, hA9, rfl, hbw40⟩)
                have hz_w40 : wO.heap.size ≤ w40.heap.size := by have h9 := hbw40.size; (try simp at h9); omega
                have hs41 := hs38.step hbw40
                have HBK_42 := Lib.hid (HBK_39.out.trans ((hbw40).mono HBK_39.out.size))
                clear HBK_39
                have HEX := Lib.hid hA9.tight.ip
                clear hA9
                refine ⟨⟨hs41.cellAt 0 rfl 0 rfl, hs41.cellAt 0 rfl 1 rfl, hs41.cellAt 0 rfl 2 rfl, hs41.cellAt 1 rfl 0 rfl, hs41.cellAt 1 rfl 1 rfl, hs41.cellAt 1 rfl 2 rfl, cellL hs41.bel tc0, cellL hs41.bel tc1, cellL hs41.bel xc0, cellL hs41.bel xc1, cellL hs41.bel qc0, cellL hs41.bel qc1, cellL hs41.bel qr0, cellL hs41.bel qr1⟩, ?_⟩
                (repeat (first | (apply t4_skip rfl (by rfl); try simp only [Act.put, sI, sZ, sS]) | (apply t4_float rfl (by rfl); (· (intro w' hS; go_simp <;> with_reducible rfl)); (try simp only [Act.put, sI, sZ, sS]))))
                refine t4_last rfl (by rfl) (fun K hK => ?_)
                have k0_0 := hs41.cellAt 0 rfl 0 rfl
                have k0_1 := hs41.cellAt 0 rfl 1 rfl
                have k0_2 := hs41.cellAt 0 rfl 2 rfl
                have k1_0 := hs41.cellAt 1 rfl 0 rfl
                have k1_1 := hs41.cellAt 1 rfl 1 rfl
                have k1_2 := hs41.cellAt 1 rfl 2 rfl
                have k2_0 := hs41.cellAt 2 rfl 0 rfl
                have k2_1 := hs41.cellAt 2 rfl 1 rfl
                have k2_2 := hs41.cellAt 2 rfl 2 rfl
                have tc0_ := cellL hs41.bel tc0
                have tc1_ := cellL hs41.bel tc1
                have xc0_ := cellL hs41.bel xc0
                have xc1_ := cellL hs41.bel xc1
                have qc0_ := cellL hs41.bel qc0
                have qc1_ := cellL hs41.bel qc1
                have qr0_ := cellL hs41.bel qr0
                have qr1_ := cellL hs41.bel qr1
                have f2_0 := hs41.freeAt 2 rfl 0
                have f2_1 := hs41.freeAt 2 rfl 1
                have f2_2 := hs41.freeAt 2 rfl 2
                have hgO := (hs41.box (wd26.heap.size, #[.int .i64 0, .int .i64 0, .slice none 0 0], 61) (by simp)).2.1
                simp only at hgO
                go_wp2_with fail
                refine t4_nil (NoPanic.normal ?_)
                have hs43 := hs41.set (p := [_, _]) (by simp <;> omega) 0 (.int .i64 size)
                have hs44 := hs43.set (p := [_, _]) (by simp <;> omega) 1 (.int .i64 A)
                have hs45 := hs44.set (p := [_, _]) (by simp <;> omega) 2 (.slice a9 E.length c9)
                have HBK_46 := Lib.hid (((HBK_42.out.setCell (p := ⟨wd26.heap.size, 0, none⟩) (by (try simp) <;> omega) (.int .i64 size)).setCell (p := ⟨wd26.heap.size, 1, none⟩) (by (try simp) <;> omega) (.int .i64 A)).setCell (p := ⟨wd26.heap.size, 2, none⟩) (by (try simp) <;> omega) (.slice a9 E.length c9))
                clear HBK_42
                have HEX_47 := Lib.hid (Ip.setCell (b := wd26.heap.size) (o := 2) (Ip.setCell (b := wd26.heap.size) (o := 1) (Ip.setCell (b := wd26.heap.size) (o := 0) HEX.out (.int .i64 size) (by intro hA9; (try simp only at hA9); omega)) (.int .i64 A) (by intro hA9; (try simp only at hA9); omega)) (.slice a9 E.length c9) (by intro hA9; (try simp only at hA9); omega))
                clear HEX
                clear k0_0 k0_1 k0_2 k1_0 k1_1 k1_2 k2_0 k2_1 k2_2 tc0_ tc1_ xc0_ xc1_ qc0_ qc1_ qr0_ qr1_
                have hz_wP : w40.heap.size ≤ ((((w40.setCell ⟨wd26.heap.size, 0, none⟩ (.int .i64 size)).setCell ⟨wd26.heap.size, 1, none⟩ (.int .i64 A)).setCell ⟨wd26.heap.size, 2, none⟩ (.slice a9 E.length c9))).heap.size := by simp [World.setCell]
                generalize hgen_wP : (((w40.setCell ⟨wd26.heap.size, 0, none⟩ (.int .i64 size)).setCell ⟨wd26.heap.size, 1, none⟩ (.int .i64 A)).setCell ⟨wd26.heap.size, 2, none⟩ (.slice a9 E.length c9)) = wP at *
                clear hgen_wP
                have k0_0 := hs45.cellAt 0 rfl 0 rfl
                have k0_1 := hs45.cellAt 0 rfl 1 rfl
                have k0_2 := hs45.cellAt 0 rfl 2 rfl
                have k1_0 := hs45.cellAt 1 rfl 0 rfl
                have k1_1 := hs45.cellAt 1 rfl 1 rfl
                have k1_2 := hs45.cellAt 1 rfl 2 rfl
                have k2_0 := hs45.cellAt 2 rfl 0 rfl
                have k2_1 := hs45.cellAt 2 rfl 1 rfl
                have k2_2 := hs45.cellAt 2 rfl 2 rfl
                have tc0_ := cellL hs45.bel tc0
                have tc1_ := cellL hs45.bel tc1
                have xc0_ := cellL hs45.bel xc0
                have xc1_ := cellL hs45.bel xc1
                have qc0_ := cellL hs45.bel qc0
                have qc1_ := cellL hs45.bel qc1
                have qr0_ := cellL hs45.bel qr0
                have qr1_ := cellL hs45.bel qr1
                go_wp2_with fail
                go_meet
                case rel =>
                  refine ⟨wd26.heap.size, a9, c9, rfl, (hs45.up hs45.hi (Nat.le_refl _)).sub (fun x hx => ?_), (HEX_47.out).wk (fun z hz => ?_), HBK_46.out, by omega, by omega⟩
                  · simp only [List.mem_cons, List.not_mem_nil, or_false] at hx
                    rcases hx with rfl | rfl | rfl <;> simp
                  · (try simp only at hz); omega
            case rest =>
              obtain ⟨gO, a9, c9, rfl, hstB, hEB, hxB⟩ := hcut
              obtain ⟨wB, rfl⟩ : ∃ x, x = wc := ⟨_, rfl⟩
              obtain ⟨hbB, hgO1, hgO2⟩ := hxB.out
              have hzKB := hbB.size
              have HAB := Lib.hid ((hac.out.mono hbB).wk (C := fun z => w.heap.size + 1 ≤ z ∧ z ≠ g ∧ (z < wK.heap.size ∨ wB.heap.size ≤ z) ∧ z < wB.heap.size) (fun z hz => by (try simp only at hz); omega))
              clear HBK_20
              have k0_0 := hstB.out.cellAt 0 rfl 0 rfl
              have k0_1 := hstB.out.cellAt 0 rfl 1 rfl
              have k0_2 := hstB.out.cellAt 0 rfl 2 rfl
              have k1_0 := hstB.out.cellAt 1 rfl 0 rfl
              have k1_1 := hstB.out.cellAt 1 rfl 1 rfl
              have k1_2 := hstB.out.cellAt 1 rfl 2 rfl
              have k2_0 := hstB.out.cellAt 2 rfl 0 rfl
              have k2_1 := hstB.out.cellAt 2 rfl 1 rfl
              have k2_2 := hstB.out.cellAt 2 rfl 2 rfl
              have tc0_ := cellL hstB.out.bel tc0
              have tc1_ := cellL hstB.out.bel tc1
              have xc0_ := cellL hstB.out.bel xc0
              have xc1_ := cellL hstB.out.bel xc1
              have qc0_ := cellL hstB.out.bel qc0
              have qc1_ := cellL hstB.out.bel qc1
              have qr0_ := cellL hstB.out.bel qr0
              have qr1_ := cellL hstB.out.bel qr1
              clear hbB
              go_wp2_with fail
              go_loopw [10] (fun jv wl => ∃ (j : Nat) (va : Option Addr) (vc : Nat), j ≤ E.length ∧ jv = .int .i64 j ∧ Hid (St w wB.heap.size wl [(w.heap.size, #[.int .i64 0, .int .i64 0, .slice none 0 0], 61), (g, #[.int .i64 size, .int .i64 V, .slice va (sysAt (size, rs) V cs k sc E j).length vc], 61), (gO, #[.int .i64 size, .int .i64 A, .slice a9 E.length c9], 61)]) ∧ Hid (AccP (fun z => w.heap.size + 1 ≤ z ∧ z ≠ g ∧ (z < wK.heap.size ∨ wB.heap.size ≤ z) ∧ z < wl.heap.size) 200 wl (.slice va (sysAt (size, rs) V cs k sc E j).length vc) (sysAt (size, rs) V cs k sc E j)) ∧ Hid (Ip (fun z => wK.heap.size ≤ z ∧ z ≠ gO ∧ z < wB.heap.size) wl [.slice a9 E.length c9] E)) (fun jv _ => E.length - (intOf jv).toNat)
              case atStart => exact ⟨0, va, vc, Nat.zero_le _, rfl, by rw [sysAt_zero]; exact hstB.out, by rw [sysAt_zero]; exact HAB.out, hEB.out⟩
              case round =>
                clear HAB hEB hstB
                obtain ⟨j, vb, vd, hj, rfl, hst2, hac2, hE2⟩ := hrel
                obtain ⟨wJ, rfl⟩ : ∃ x, x = wr := ⟨_, rfl⟩
                have hs4 := hst2.out
                have hlo2 := hs4.hi
                have hln2 : (sysAt (size, rs) V cs k sc E j).length ≤ 200 := by
                  have h1 := sysTo_len (t := (size, rs)) (V := V) (cs := cs.take k) HPR.out (fun c hc => by
                    obtain ⟨q, hq, rfl⟩ := List.getElem_of_mem hc
                    rw [List.length_take] at hq
                    rw [List.getElem_take]
                    exact ⟨(HRA.out _ (List.getElem_mem _)).1, HAF.out q (by omega) (by omega)⟩) (cs.take k).length (Nat.le_refl _)
                  have h2 : sysTo (size, rs) V (cs.take k) (cs.take k).length = sysTo (size, rs) V cs k := by unfold sysTo; rw [List.take_length]
                  rw [h2, List.length_take] at h1
                  unfold sysAt
                  rw [List.length_append, List.length_take, List.length_map]
                  omega
                have k0_0 := hs4.cellAt 0 rfl 0 rfl
                have k0_1 := hs4.cellAt 0 rfl 1 rfl
                have k0_2 := hs4.cellAt 0 rfl 2 rfl
                have k1_0 := hs4.cellAt 1 rfl 0 rfl
                have k1_1 := hs4.cellAt 1 rfl 1 rfl
                have k1_2 := hs4.cellAt 1 rfl 2 rfl
                have k2_0 := hs4.cellAt 2 rfl 0 rfl
                have k2_1 := hs4.cellAt 2 rfl 1 rfl
                have k2_2 := hs4.cellAt 2 rfl 2 rfl
                have tc0_ := cellL hs4.bel tc0
                have tc1_ := cellL hs4.bel tc1
                have xc0_ := cellL hs4.bel xc0
                have xc1_ := cellL hs4.bel xc1
                have qc0_ := cellL hs4.bel qc0
                have qc1_ := cellL hs4.bel qc1
                have qr0_ := cellL hs4.bel qr0
                have qr1_ := cellL hs4.bel qr1
                by_cases hlt2 : j < E.length
                · have hjI : (j : Int) < E.length := by omega
                  obtain ⟨be, oe, ee⟩ : ∃ be oe, a9 = some ⟨be, oe, none⟩ := (rd_two_at rfl hE2.out.rd j hlt2).elim (fun be h => h.elim (fun oe h => h.elim (fun _ h => h.elim (fun _ h => ⟨be, oe, h.1⟩))))
                  subst ee
                  obtain ⟨v0, v1, qe0, qe1, hIel⟩ := ip_el2 rfl hE2.out j hlt2
                  have hbe := World.block_lt_of_cell? wJ _ qe0
                  simp only at hbe
                  have hEOj := HEO.out _ (List.getElem_mem hlt2)
                  have hTK := sysAt_succ (t := (size, rs)) (V := V) (cs := cs) (k := k) (sc := sc) hlt2
                  generalize E[j] = EJ at *
                  obtain ⟨L, R⟩ := EJ
                  have ze := rd_cons rfl hIel.rd
                  obtain ⟨rfl, hIR⟩ := rd_i1 ze.2
                  obtain ⟨aL, cL, rfl, _⟩ := rd_list ze.1
                  have HLI := Lib.hid (ip_fst rfl hIel)
                  have HTK := Lib.hid (show sysAt (size, rs) V cs k sc E (j + 1) = sysAt (size, rs) V cs k sc E j ++ [(spreadTo size V sc L sc.length, R)] from hTK)
                  have HGD := Lib.hid (eqn_good (U := A) hEOj)
                  have HAC2 := hac2
                  have HE2 := hE2
                  clear ze hIel hEOj hTK hac2 hE2
                  have HBL := Lib.hid (Below.refl wJ.heap.size wJ)
                  go_upto_region 14 with fail
                  go_cut [11] from 81 to 92 (fun x11 wx => ∃ gE gM : Nat, x11 = .pointer (some ⟨gE, 0, none⟩) ∧ Hid (St w wx.heap.size wx [(w.heap.size, #[.int .i64 0, .int .i64 0, .slice none 0 0], 61), (g, #[.int .i64 size, .int .i64 V, .slice vb (sysAt (size, rs) V cs k sc E j).length vd], 61), (gO, #[.int .i64 size, .int .i64 A, .slice (some ⟨be, oe, none⟩) E.length c9], 61), (gE, #[.slice (some ⟨gM, 0, none⟩) V V, .int .i64 R], 200)]) ∧ Hid (OwnSl [gM] wx (.slice (some ⟨gM, 0, none⟩) V V) (List.replicate V (0 : Int))) ∧ Hid (Below wJ.heap.size wJ wx ∧ gE ≠ gM ∧ wJ.heap.size ≤ gE ∧ wJ.heap.size ≤ gM ∧ gE < wx.heap.size ∧ gM < wx.heap.size))
                  case first =>
                    refine wp_region_noPanic (wp_region_tree4 (fun w' => w'.cell? ⟨w.heap.size, 0, none⟩ = some (.int .i64 0) ∧ w'.cell? ⟨w.heap.size, 1, none⟩ = some (.int .i64 0) ∧ w'.cell? ⟨w.heap.size, 2, none⟩ = some (.slice none 0 0) ∧ w'.cell? ⟨g, 0, none⟩ = some (.int .i64 size) ∧ w'.cell? ⟨g, 1, none⟩ = some (.int .i64 V) ∧ w'.cell? ⟨g, 2, none⟩ = some (.slice vb (sysAt (size, rs) V cs k sc E j).length vd) ∧ w'.cell? ⟨gO, 0, none⟩ = some (.int .i64 size) ∧ w'.cell? ⟨gO, 1, none⟩ = some (.int .i64 A) ∧ w'.cell? ⟨gO, 2, none⟩ = some (.slice (some ⟨be, oe, none⟩) E.length c9) ∧ w'.cell? ⟨tb, 0, none⟩ = some (.int .i64 size) ∧ w'.cell? ⟨tb, 1, none⟩ = some (.slice (some ⟨br, orr, none⟩) rs.length ct0) ∧ w'.cell? ⟨xb, 0, none⟩ = some (.int .i64 V) ∧ w'.cell? ⟨xb, 1, none⟩ = some (.slice (some ⟨bc, oc, none⟩) cs.length cx) ∧ w'.cell? ⟨bc, oc + k * 2, none⟩ = some (.int .i64 n) ∧ w'.cell? ⟨bc, oc + k * 2 + 1, none⟩ = some (.slice asx sc.length csx) ∧ w'.cell? ⟨br, orr + n * 2, none⟩ = some (.int .i64 (A : Int)) ∧ w'.cell? ⟨br, orr + n * 2 + 1, none⟩ = some (.slice arx tl.length crx) ∧ w'.cell? ⟨be, oe + j * 2, none⟩ = some (.slice aL L.length cL) ∧ w'.cell? ⟨be, oe + j * 2 + 1, none⟩ = some (.int .i64 R)) (.float 0 (.float 1 (.float 2 (.float 3 (.float 5 (.float 6 (.float 7 (.float 8 (.float 9 (.float 10 (.fork2 4 (.float 11 (.hard 12 (.last 13 .nil))) 12 (.hard 4 (.float 11 (.last 13 .nil)))))))))))))) (by kernel_rfl) (by kernel_rfl) (by kernel_rfl) rfl ?_ (fun _ _ _ _ _ h => h) ?_)
                    · exact ⟨(hs4.drew).cellAt 0 rfl 0 rfl, (hs4.drew).cellAt 0 rfl 1 rfl, (hs4.drew).cellAt 0 rfl 2 rfl, (hs4.drew).cellAt 1 rfl 0 rfl, (hs4.drew).cellAt 1 rfl 1 rfl, (hs4.drew).cellAt 1 rfl 2 rfl, (hs4.drew).cellAt 2 rfl 0 rfl, (hs4.drew).cellAt 2 rfl 1 rfl, (hs4.drew).cellAt 2 rfl 2 rfl, cellL (hs4.drew).bel tc0, cellL (hs4.drew).bel tc1, cellL (hs4.drew).bel xc0, cellL (hs4.drew).bel xc1, cellL (hs4.drew).bel qc0, cellL (hs4.drew).bel qc1, cellL (hs4.drew).bel qr0, cellL (hs4.drew).bel qr1, cellL (belowD _) qe0, cellL (belowD _) qe1⟩
                    have hs48 := hs4.drew
                    have qe0_49 := cellL (belowD _) qe0
                    clear qe0
                    have qe1_50 := cellL (belowD _) qe1
                    clear qe1
                    have HAC2_51 := Lib.hid (AccP.mono HAC2.out (belowD _))
                    clear HAC2
                    have HE2_52 := Lib.hid (Ip.mono HE2.out (belowD _))
                    clear HE2
                    have HLI_53 := Lib.hid (Ip.mono HLI.out (belowD _))
                    clear HLI
                    have HBL_54 := Lib.hid (HBL.out.trans (((belowD _)).mono HBL.out.size))
                    clear HBL
                    clear k0_0 k0_1 k0_2 k1_0 k1_1 k1_2 k2_0 k2_1 k2_2 tc0_ tc1_ xc0_ xc1_ qc0_ qc1_ qr0_ qr1_
                    have hz_wd55 : wJ.heap.size ≤ (wJ.drew).heap.size := by simp
                    generalize hgen_wd55 : wJ.drew = wd55 at *
                    have HG_wd55 := Lib.hid hgen_wd55
                    clear hgen_wd55
                    (repeat (first | (apply t4_skip rfl (by rfl); try simp only [Act.put, sI, sZ, sS]) | (apply t4_float rfl (by rfl); (· (intro w' hS; go_simp <;> with_reducible rfl)); (try simp only [Act.put, sI, sZ, sS]))))
                    refine t4_fork2 ?_ ?_
                    · refine t4_hard rfl (by rfl) (fun K hK => ?_)
                      refine wp_make_rep _ _ _ 28 rfl E_ints (0 : Int) own0_int V (by omega) rfl rfl ?_
                      intro wM hownM hbM hzM
                      have HOM : Hid (OwnSl [wd55.heap.size] wM (.slice (some ⟨wd55.heap.size, 0, none⟩) V V) (List.replicate V (0 : Int))) := Lib.hid (by simpa using hownM)
                      have hgM : wd55.heap.size < wM.heap.size := by rw [hzM]; simp
                      clear hownM hzM
                      have hz_wM : wd55.heap.size ≤ wM.heap.size := by have h9 := hbM.size; (try simp at h9); omega
                      have hs56 := hs48.step hbM
                      have qe0_57 := cellL hbM qe0_49
                      clear qe0_49
                      have qe1_58 := cellL hbM qe1_50
                      clear qe1_50
                      have HAC2_59 := Lib.hid (AccP.mono HAC2_51.out hbM)
                      clear HAC2_51
                      have HE2_60 := Lib.hid (Ip.mono HE2_52.out hbM)
                      clear HE2_52
                      have HLI_61 := Lib.hid (Ip.mono HLI_53.out hbM)
                      clear HLI_53
                      have HBL_62 := Lib.hid (HBL_54.out.trans ((hbM).mono HBL_54.out.size))
                      clear HBL_54
                      refine hK _ _ ⟨⟨hs56.cellAt 0 rfl 0 rfl, hs56.cellAt 0 rfl 1 rfl, hs56.cellAt 0 rfl 2 rfl, hs56.cellAt 1 rfl 0 rfl, hs56.cellAt 1 rfl 1 rfl, hs56.cellAt 1 rfl 2 rfl, hs56.cellAt 2 rfl 0 rfl, hs56.cellAt 2 rfl 1 rfl, hs56.cellAt 2 rfl 2 rfl, cellL hs56.bel tc0, cellL hs56.bel tc1, cellL hs56.bel xc0, cellL hs56.bel xc1, cellL hs56.bel qc0, cellL hs56.bel qc1, cellL hs56.bel qr0, cellL hs56.bel qr1, qe0_57, qe1_58⟩, ?_⟩
                      (repeat (first | (apply t4_skip rfl (by rfl); try simp only [Act.put, sI, sZ, sS]) | (apply t4_float rfl (by rfl); (· (intro w' hS; go_simp <;> with_reducible rfl)); (try simp only [Act.put, sI, sZ, sS]))))
                      refine t4_hard rfl (by rfl) (fun K hK => ?_)
                      go_wp2_with fail
                      have hs63 := hs56.alloc #[.slice none 0 0, .int .i64 0] 200 (n := wM.heap.size) (by simp)
                      have qe0_64 := cellL (belowA _ (.cells #[.slice none 0 0, .int .i64 0] 200)) qe0_57
                      clear qe0_57
                      have qe1_65 := cellL (belowA _ (.cells #[.slice none 0 0, .int .i64 0] 200)) qe1_58
                      clear qe1_58
                      have HAC2_66 := Lib.hid (AccP.mono HAC2_59.out (belowA _ (.cells #[.slice none 0 0, .int .i64 0] 200)))
                      clear HAC2_59
                      have HE2_67 := Lib.hid (Ip.mono HE2_60.out (belowA _ (.cells #[.slice none 0 0, .int .i64 0] 200)))
                      clear HE2_60
                      have HLI_68 := Lib.hid (Ip.mono HLI_61.out (belowA _ (.cells #[.slice none 0 0, .int .i64 0] 200)))
                      clear HLI_61
                      have HBL_69 := Lib.hid (HBL_62.out.trans (((belowA _ (.cells #[.slice none 0 0, .int .i64 0] 200))).mono HBL_62.out.size))
                      clear HBL_62
                      have HOM_70 := Lib.hid (ownSl_mono HOM.out (belowA _ (.cells #[.slice none 0 0, .int .i64 0] 200)))
                      clear HOM
                      have hz_wG : wM.heap.size + 1 ≤ ((wM.alloc (.cells #[.slice none 0 0, .int .i64 0] 200))).heap.size := by simp
                      generalize hgen_wG : (wM.alloc (.cells #[.slice none 0 0, .int .i64 0] 200)) = wG at *
                      clear hgen_wG
                      refine ⟨⟨hs63.cellAt 0 rfl 0 rfl, hs63.cellAt 0 rfl 1 rfl, hs63.cellAt 0 rfl 2 rfl, hs63.cellAt 1 rfl 0 rfl, hs63.cellAt 1 rfl 1 rfl, hs63.cellAt 1 rfl 2 rfl, hs63.cellAt 2 rfl 0 rfl, hs63.cellAt 2 rfl 1 rfl, hs63.cellAt 2 rfl 2 rfl, cellL hs63.bel tc0, cellL hs63.bel tc1, cellL hs63.bel xc0, cellL hs63.bel xc1, cellL hs63.bel qc0, cellL hs63.bel qc1, cellL hs63.bel qr0, cellL hs63.bel qr1, qe0_64, qe1_65⟩, ?_⟩
                      (repeat (first | (apply t4_skip rfl (by rfl); try simp only [Act.put, sI, sZ, sS]) | (apply t4_float rfl (by rfl); (· (intro w' hS; go_simp <;> with_reducible rfl)); (try simp only [Act.put, sI, sZ, sS]))))
                      refine t4_last rfl (by rfl) (fun K hK => ?_)
                      have k0_0 := hs63.cellAt 0 rfl 0 rfl
                      have k0_1 := hs63.cellAt 0 rfl 1 rfl
                      have k0_2 := hs63.cellAt 0 rfl 2 rfl
                      have k1_0 := hs63.cellAt 1 rfl 0 rfl
                      have k1_1 := hs63.cellAt 1 rfl 1 rfl
                      have k1_2 := hs63.cellAt 1 rfl 2 rfl
                      have k2_0 := hs63.cellAt 2 rfl 0 rfl
                      have k2_1 := hs63.cellAt 2 rfl 1 rfl
                      have k2_2 := hs63.cellAt 2 rfl 2 rfl
                      have k3_0 := hs63.cellAt 3 rfl 0 rfl
                      have k3_1 := hs63.cellAt 3 rfl 1 rfl
                      have tc0_ := cellL hs63.bel tc0
                      have tc1_ := cellL hs63.bel tc1
                      have xc0_ := cellL hs63.bel xc0
                      have xc1_ := cellL hs63.bel xc1
                      have qc0_ := cellL hs63.bel qc0
                      have qc1_ := cellL hs63.bel qc1
                      have qr0_ := cellL hs63.bel qr0
                      have qr1_ := cellL hs63.bel qr1
                      have f0 := (hs63.freeAt 3 rfl 0)
                      have f1 := (hs63.freeAt 3 rfl 1)
                      have hgG := (hs63.box (wM.heap.size, #[.slice none 0 0, .int .i64 0], 200) (by simp)).2.1
                      simp only at hgG
                      have hq := (hs63.set (p := [_, _, _]) (by simp <;> omega) 0 (.slice (some ⟨wd55.heap.size, 0, none⟩) V V)).set (p := [_, _, _]) (by simp <;> omega) 1 (.int .i64 R)
                      go_wp2_with fail
                      refine t4_nil (NoPanic.normal ?_)
                      go_wp2_with fail
                      go_meet
                      case rel =>
                        have ho := ((OnlyAt.refl [wM.heap.size] wG).setCell (p := ⟨wM.heap.size, 0, none⟩) (by simp) (.slice (some ⟨wd55.heap.size, 0, none⟩) V V)).setCell (p := ⟨wM.heap.size, 1, none⟩) (by simp) (.int .i64 R)
                        refine ⟨wM.heap.size, wd55.heap.size, rfl, (hq.up hq.hi (Nat.le_refl _)).sub (fun x hx => ?_), ownSl_only HOM_70.out ho (fun k h1 h2 => by simp at h1 h2; omega), HBL_69.out.trans (ho.below (by simp; omega)), by omega, by omega, by omega, by rw [ho.size]; omega, by rw [ho.size]; omega⟩
                        simp only [List.mem_cons, List.not_mem_nil, or_false] at hx
                        rcases hx with rfl | rfl | rfl | rfl <;> simp
                    · refine t4_hard rfl (by rfl) (fun K hK => ?_)
                      go_wp2_with fail
                      have hs71 := hs48.alloc #[.slice none 0 0, .int .i64 0] 200 (n := wd55.heap.size) (by simp)
                      have qe0_72 := cellL (belowA _ (.cells #[.slice none 0 0, .int .i64 0] 200)) qe0_49
                      clear qe0_49
                      have qe1_73 := cellL (belowA _ (.cells #[.slice none 0 0, .int .i64 0] 200)) qe1_50
                      clear qe1_50
                      have HAC2_74 := Lib.hid (AccP.mono HAC2_51.out (belowA _ (.cells #[.slice none 0 0, .int .i64 0] 200)))
                      clear HAC2_51
                      have HE2_75 := Lib.hid (Ip.mono HE2_52.out (belowA _ (.cells #[.slice none 0 0, .int .i64 0] 200)))
                      clear HE2_52
                      have HLI_76 := Lib.hid (Ip.mono HLI_53.out (belowA _ (.cells #[.slice none 0 0, .int .i64 0] 200)))
                      clear HLI_53
                      have HBL_77 := Lib.hid (HBL_54.out.trans (((belowA _ (.cells #[.slice none 0 0, .int .i64 0] 200))).mono HBL_54.out.size))
                      clear HBL_54
                      have hz_wG : wd55.heap.size + 1 ≤ ((wd55.alloc (.cells #[.slice none 0 0, .int .i64 0] 200))).heap.size := by simp
                      generalize hgen_wG : (wd55.alloc (.cells #[.slice none 0 0, .int .i64 0] 200)) = wG at *
                      clear hgen_wG
                      refine ⟨⟨hs71.cellAt 0 rfl 0 rfl, hs71.cellAt 0 rfl 1 rfl, hs71.cellAt 0 rfl 2 rfl, hs71.cellAt 1 rfl 0 rfl, hs71.cellAt 1 rfl 1 rfl, hs71.cellAt 1 rfl 2 rfl, hs71.cellAt 2 rfl 0 rfl, hs71.cellAt 2 rfl 1 rfl, hs71.cellAt 2 rfl 2 rfl, cellL hs71.bel tc0, cellL hs71.bel tc1, cellL hs71.bel xc0, cellL hs71.bel xc1, cellL hs71.bel qc0, cellL hs71.bel qc1, cellL hs71.bel qr0, cellL hs71.bel qr1, qe0_72, qe1_73⟩, ?_⟩
                      (repeat (first | (apply t4_skip rfl (by rfl); try simp only [Act.put, sI, sZ, sS]) | (apply t4_float rfl (by rfl); (· (intro w' hS; go_simp <;> with_reducible rfl)); (try simp only [Act.put, sI, sZ, sS]))))
                      refine t4_hard rfl (by rfl) (fun K hK => ?_)
                      refine wp_make_rep _ _ _ 28 rfl E_ints (0 : Int) own0_int V (by omega) rfl rfl ?_
                      intro wM hownM hbM hzM
                      have HOM : Hid (OwnSl [wG.heap.size] wM (.slice (some ⟨wG.heap.size, 0, none⟩) V V) (List.replicate V (0 : Int))) := Lib.hid (by simpa using hownM)
                      have hgM : wG.heap.size < wM.heap.size := by rw [hzM]; simp
                      clear hownM hzM
                      have hz_wM : wG.heap.size ≤ wM.heap.size := by have h9 := hbM.size; (try simp at h9); omega
                      have hs78 := hs71.step hbM
                      have qe0_79 := cellL hbM qe0_72
                      clear qe0_72
                      have qe1_80 := cellL hbM qe1_73
                      clear qe1_73
                      have HAC2_81 := Lib.hid (AccP.mono HAC2_74.out hbM)
                      clear HAC2_74
                      have HE2_82 := Lib.hid (Ip.mono HE2_75.out hbM)
                      clear HE2_75
                      have HLI_83 := Lib.hid (Ip.mono HLI_76.out hbM)
                      clear HLI_76
                      have HBL_84 := Lib.hid (HBL_77.out.trans ((hbM).mono HBL_77.out.size))
                      clear HBL_77
                      refine hK _ _ ⟨⟨hs78.cellAt 0 rfl 0 rfl, hs78.cellAt 0 rfl 1 rfl, hs78.cellAt 0 rfl 2 rfl, hs78.cellAt 1 rfl 0 rfl, hs78.cellAt 1 rfl 1 rfl, hs78.cellAt 1 rfl 2 rfl, hs78.cellAt 2 rfl 0 rfl, hs78.cellAt 2 rfl 1 rfl, hs78.cellAt 2 rfl 2 rfl, cellL hs78.bel tc0, cellL hs78.bel tc1, cellL hs78.bel xc0, cellL hs78.bel xc1, cellL hs78.bel qc0, cellL hs78.bel qc1, cellL hs78.bel qr0, cellL hs78.bel qr1, qe0_79, qe1_80⟩, ?_⟩
                      (repeat (first | (apply t4_skip rfl (by rfl); try simp only [Act.put, sI, sZ, sS]) | (apply t4_float rfl (by rfl); (· (intro w' hS; go_simp <;> with_reducible rfl)); (try simp only [Act.put, sI, sZ, sS]))))
                      refine t4_last rfl (by rfl) (fun K hK => ?_)
                      have k0_0 := hs78.cellAt 0 rfl 0 rfl
                      have k0_1 := hs78.cellAt 0 rfl 1 rfl
                      have k0_2 := hs78.cellAt 0 rfl 2 rfl
                      have k1_0 := hs78.cellAt 1 rfl 0 rfl
                      have k1_1 := hs78.cellAt 1 rfl 1 rfl
                      have k1_2 := hs78.cellAt 1 rfl 2 rfl
                      have k2_0 := hs78.cellAt 2 rfl 0 rfl
                      have k2_1 := hs78.cellAt 2 rfl 1 rfl
                      have k2_2 := hs78.cellAt 2 rfl 2 rfl
                      have k3_0 := hs78.cellAt 3 rfl 0 rfl
                      have k3_1 := hs78.cellAt 3 rfl 1 rfl
                      have tc0_ := cellL hs78.bel tc0
                      have tc1_ := cellL hs78.bel tc1
                      have xc0_ := cellL hs78.bel xc0
                      have xc1_ := cellL hs78.bel xc1
                      have qc0_ := cellL hs78.bel qc0
                      have qc1_ := cellL hs78.bel qc1
                      have qr0_ := cellL hs78.bel qr0
                      have qr1_ := cellL hs78.bel qr1
                      have f0 := (hs78.freeAt 3 rfl 0)
                      have f1 := (hs78.freeAt 3 rfl 1)
                      have hgG := (hs78.box (wd55.heap.size, #[.slice none 0 0, .int .i64 0], 200) (by simp)).2.1
                      simp only at hgG
                      have hq := (hs78.set (p := [_, _, _]) (by simp <;> omega) 0 (.slice (some ⟨wG.heap.size, 0, none⟩) V V)).set (p := [_, _, _]) (by simp <;> omega) 1 (.int .i64 R)
                      go_wp2_with fail
                      refine t4_nil (NoPanic.normal ?_)
                      go_wp2_with fail
                      go_meet
                      case rel =>
                        have ho := ((OnlyAt.refl [wd55.heap.size] wM).setCell (p := ⟨wd55.heap.size, 0, none⟩) (by simp) (.slice (some ⟨wG.heap.size, 0, none⟩) V V)).setCell (p := ⟨wd55.heap.size, 1, none⟩) (by simp) (.int .i64 R)
                        refine ⟨wd55.heap.size, wG.heap.size, rfl, (hq.up hq.hi (Nat.le_refl _)).sub (fun x hx => ?_), ownSl_only HOM.out ho (fun k h1 h2 => by simp at h1 h2; omega), HBL_84.out.trans (ho.below (by simp; omega)), by omega, by omega, by omega, by rw [ho.size]; omega, by rw [ho.size]; omega⟩
                        simp only [List.mem_cons, List.not_mem_nil, or_false] at hx
                        rcases hx with rfl | rfl | rfl | rfl <;> simp
                  case rest =>
                    obtain ⟨gE, gM, rfl, hstC, howC, hxC⟩ := hcut
                    obtain ⟨hbC, hgne, hg5, hg6, hg7, hg8⟩ := hxC.out
                    have hzC := hbC.size
                    have HA3 := Lib.hid ((HAC2.out).mono hbC)
                    have HE3 := Lib.hid ((HE2.out).mono hbC)
                    have HL3 := Lib.hid ((HLI.out).mono hbC)
                    have HQE := Lib.hid (cellL hbC (qe0))
                    have HLS := Lib.hid (show L.length = sc.length by have h1 : L.length = A := HGD.out.1; have h2 : (sc.length : Int) = (A : Int) := HSV.out.1; omega)
                    clear HAC2
                    clear HE2
                    clear HLI
                    clear HBL
                    clear k0_0 k0_1 k0_2 k1_0 k1_1 k1_2 k2_0 k2_1 k2_2 tc0_ tc1_ xc0_ xc1_ qc0_ qc1_ qr0_ qr1_
                    clear qe0
                    clear qe1
                    have k0_0 := hstC.out.cellAt 0 rfl 0 rfl
                    have k0_1 := hstC.out.cellAt 0 rfl 1 rfl
                    have k0_2 := hstC.out.cellAt 0 rfl 2 rfl
                    have k1_0 := hstC.out.cellAt 1 rfl 0 rfl
                    have k1_1 := hstC.out.cellAt 1 rfl 1 rfl
                    have k1_2 := hstC.out.cellAt 1 rfl 2 rfl
                    have k2_0 := hstC.out.cellAt 2 rfl 0 rfl
                    have k2_1 := hstC.out.cellAt 2 rfl 1 rfl
                    have k2_2 := hstC.out.cellAt 2 rfl 2 rfl
                    have k3_0 := hstC.out.cellAt 3 rfl 0 rfl
                    have k3_1 := hstC.out.cellAt 3 rfl 1 rfl
                    have tc0_ := cellL hstC.out.bel tc0
                    have tc1_ := cellL hstC.out.bel tc1
                    have xc0_ := cellL hstC.out.bel xc0
                    have xc1_ := cellL hstC.out.bel xc1
                    have qc0_ := cellL hstC.out.bel qc0
                    have qc1_ := cellL hstC.out.bel qc1
                    have qr0_ := cellL hstC.out.bel qr0
                    have qr1_ := cellL hstC.out.bel qr1
                    have HS3 := Lib.hid (show OwnSl [gM] wc (.slice (some ⟨gM, 0, none⟩) V V) (spreadTo size V sc L 0) from howC.out)
                    clear hbC
                    go_wp2_with fail
                    go_loopw [12] (fun iv wl => ∃ i : Nat, i ≤ L.length ∧ iv = .int .i64 i ∧ Hid (But [gM] wc wl) ∧ Hid (OwnSl [gM] wl (.slice (some ⟨gM, 0, none⟩) V V) (spreadTo size V sc L i))) (fun iv _ => L.length - (intOf iv).toNat)
                    case atStart => exact ⟨0, Nat.zero_le _, rfl, But.refl _ _, HS3.out⟩
                    case round =>
                      clear HS3 howC
                      obtain ⟨i, hi, rfl, hbut, how⟩ := hrel
                      have hzT := hbut.out.size
                      have hs6 := hstC.out.butIv hbut.out (fun k hk => by simp at hk; omega) (fun x hx => by simp only [List.mem_cons, List.not_mem_nil, or_false] at hx ⊢; rcases hx with rfl | rfl | rfl | rfl <;> (try simp only) <;> omega)
                      have hbP := hbut.out.butP (A := fun z => z = gM) (fun k hk => by simpa using hk)
                      have qe2 := cellB hbP HQE.out (fun h => by omega)
                      have k0_0 := hs6.cellAt 0 rfl 0 rfl
                      have k0_1 := hs6.cellAt 0 rfl 1 rfl
                      have k0_2 := hs6.cellAt 0 rfl 2 rfl
                      have k1_0 := hs6.cellAt 1 rfl 0 rfl
                      have k1_1 := hs6.cellAt 1 rfl 1 rfl
                      have k1_2 := hs6.cellAt 1 rfl 2 rfl
                      have k2_0 := hs6.cellAt 2 rfl 0 rfl
                      have k2_1 := hs6.cellAt 2 rfl 1 rfl
                      have k2_2 := hs6.cellAt 2 rfl 2 rfl
                      have k3_0 := hs6.cellAt 3 rfl 0 rfl
                      have k3_1 := hs6.cellAt 3 rfl 1 rfl
                      have tc0_ := cellL hs6.bel tc0
                      have tc1_ := cellL hs6.bel tc1
                      have xc0_ := cellL hs6.bel xc0
                      have xc1_ := cellL hs6.bel xc1
                      have qc0_ := cellL hs6.bel qc0
                      have qc1_ := cellL hs6.bel qc1
                      have qr0_ := cellL hs6.bel qr0
                      have qr1_ := cellL hs6.bel qr1
                      by_cases hlt3 : i < L.length
                      · have hiI : (i : Int) < L.length := by omega
                        have hscl := HSV.out.1
                        have hiS : i < sc.length := by rw [← HLS.out]; exact hlt3
                        have hiSI : (i : Int) < sc.length := by omega
                        have hsb : L.length ≤ 4 := by have := HLS.out; omega
                        clear hscl
                        have hLR := Lib.hid (HL3.out.butP hbP (fun k h1 h2 => by (try simp only at h1 h2); omega)).rd
                        obtain ⟨bS, oS, eS, qS, _⟩ := rd_int_at ((Rd.mono HSC.out hs6.bel)) i hiS
                        subst eS
                        obtain ⟨bL, oL, eL, qL, _⟩ := rd_int_at hLR.out i hlt3
                        subst eL
                        have hv := HSV.out.2 i hiS
                        have hA := HGD.out.2.1.get i hlt3
                        have hSD : sc.getD i 0 = sc[i] := by rw [List.getD, List.getElem?_eq_getElem hiS]; rfl
                        have hLD : L.getD i 0 = L[i] := by rw [List.getD, List.getElem?_eq_getElem hlt3]; rfl
                        have hss : spreadTo size V sc L (i + 1) = (spreadTo size V sc L i).set (sc.getD i 0).toNat (((spreadTo size V sc L i).getD (sc.getD i 0).toNat 0 + L.getD i 0) % size) := rfl
                        rw [hSD, hLD] at hss
                        obtain ⟨vn, hvn⟩ : ∃ vn : Nat, sc[i] = (vn : Int) := ⟨sc[i].toNat, by omega⟩
                        rw [hvn] at hss qS hv
                        rw [Int.toNat_natCast] at hss
                        generalize L[i] = AV at *
                        have hvV : vn < (spreadTo size V sc L i).length := by rw [spreadTo_len]; omega
                        have hvI : (vn : Int) < V := by omega
                        obtain ⟨g', o', c', hv', hps, hcd, hf0, _⟩ := ownSl_int how.out vn hvV
                        simp only [Value.slice.injEq, Option.some.injEq, Addr.mk.injEq] at hv'
                        obtain ⟨⟨rfl, rfl, -⟩, -, rfl⟩ := hv'
                        have hO := (spreadTo_res (show 0 < size by omega) V sc L i).get vn hvV
                        have hOD : (spreadTo size V sc L i).getD vn 0 = (spreadTo size V sc L i)[vn] := by rw [List.getD, List.getElem?_eq_getElem hvV]; rfl
                        rw [hOD] at hss hcd
                        have HSS := Lib.hid hss
                        generalize (spreadTo size V sc L i)[vn] = OLD at *
                        rw [Nat.zero_add] at hcd hf0
                        have hw1 : IntKind.i64.wrap (OLD + AV) = OLD + AV := i64_in _ (by omega)
                        have hT : (OLD + AV).tmod size = (OLD + AV) % size := Int.tmod_eq_emod_of_nonneg (by omega)
                        have hm0 := Int.emod_nonneg (OLD + AV) (show size ≠ 0 by omega)
                        have hm1 := Int.emod_lt_of_pos (OLD + AV) (show 0 < size by omega)
                        have hp1 : size ≠ 0 := by omega
                        have hw2 : IntKind.i64.wrap ((OLD + AV) % size) = (OLD + AV) % size := i64_in _ (by omega)
                        have HNI := Lib.hid (show I64 ((OLD + AV) % size) from i64_of _ (by omega) (by omega))
                        have HOW := how
                        clear hss hSD hLD hOD hO hps how
                        go_upto_region 19 with fail
                        refine wp_region_noPanic (wp_region_tree4 (fun w' => w'.cell? ⟨w.heap.size, 0, none⟩ = some (.int .i64 0) ∧ w'.cell? ⟨w.heap.size, 1, none⟩ = some (.int .i64 0) ∧ w'.cell? ⟨w.heap.size, 2, none⟩ = some (.slice none 0 0) ∧ w'.cell? ⟨g, 0, none⟩ = some (.int .i64 size) ∧ w'.cell? ⟨g, 1, none⟩ = some (.int .i64 V) ∧ w'.cell? ⟨g, 2, none⟩ = some (.slice vb (sysAt (size, rs) V cs k sc E j).length vd) ∧ w'.cell? ⟨gO, 0, none⟩ = some (.int .i64 size) ∧ w'.cell? ⟨gO, 1, none⟩ = some (.int .i64 A) ∧ w'.cell? ⟨gO, 2, none⟩ = some (.slice (some ⟨be, oe, none⟩) E.length c9) ∧ w'.cell? ⟨gE, 0, none⟩ = some (.slice (some ⟨gM, 0, none⟩) V V) ∧ w'.cell? ⟨gE, 1, none⟩ = some (.int .i64 R) ∧ w'.cell? ⟨tb, 0, none⟩ = some (.int .i64 size) ∧ w'.cell? ⟨tb, 1, none⟩ = some (.slice (some ⟨br, orr, none⟩) rs.length ct0) ∧ w'.cell? ⟨xb, 0, none⟩ = some (.int .i64 V) ∧ w'.cell? ⟨xb, 1, none⟩ = some (.slice (some ⟨bc, oc, none⟩) cs.length cx) ∧ w'.cell? ⟨bc, oc + k * 2, none⟩ = some (.int .i64 n) ∧ w'.cell? ⟨bc, oc + k * 2 + 1, none⟩ = some (.slice (some ⟨bS, oS, none⟩) sc.length csx) ∧ w'.cell? ⟨br, orr + n * 2, none⟩ = some (.int .i64 (A : Int)) ∧ w'.cell? ⟨br, orr + n * 2 + 1, none⟩ = some (.slice arx tl.length crx) ∧ w'.cell? ⟨be, oe + j * 2, none⟩ = some (.slice (some ⟨bL, oL, none⟩) L.length cL) ∧ w'.cell? ⟨bS, oS + i, none⟩ = some (.int .i64 vn) ∧ w'.cell? ⟨bL, oL + i, none⟩ = some (.int .i64 AV) ∧ w'.cell? ⟨gM, vn, none⟩ = some (.int .i64 OLD)) (.float 0 (.float 1 (.float 2 (.float 3 (.float 4 (.float 5 (.float 6 (.float 7 (.float 8 (.float 9 (.float 10 (.float 11 (.float 12 (.float 13 (.float 14 (.float 15 (.float 16 (.float 17 (.float 18 (.float 19 (.float 20 (.float 21 (.float 22 (.float 23 (.last 24 .nil))))))))))))))))))))))))) (by kernel_rfl) (by kernel_rfl) (by kernel_rfl) rfl ?_ (fun _ _ _ _ _ h => h) ?_)
                        · exact ⟨(hs6.drew).cellAt 0 rfl 0 rfl, (hs6.drew).cellAt 0 rfl 1 rfl, (hs6.drew).cellAt 0 rfl 2 rfl, (hs6.drew).cellAt 1 rfl 0 rfl, (hs6.drew).cellAt 1 rfl 1 rfl, (hs6.drew).cellAt 1 rfl 2 rfl, (hs6.drew).cellAt 2 rfl 0 rfl, (hs6.drew).cellAt 2 rfl 1 rfl, (hs6.drew).cellAt 2 rfl 2 rfl, (hs6.drew).cellAt 3 rfl 0 rfl, (hs6.drew).cellAt 3 rfl 1 rfl, cellL (hs6.drew).bel tc0, cellL (hs6.drew).bel tc1, cellL (hs6.drew).bel xc0, cellL (hs6.drew).bel xc1, cellL (hs6.drew).bel qc0, cellL (hs6.drew).bel qc1, cellL (hs6.drew).bel qr0, cellL (hs6.drew).bel qr1, cellL (belowD _) qe2, cellL (belowD _) qS, cellL (belowD _) qL, cellL (belowD _) hcd⟩
                        have hs85 := hs6.drew
                        have qe2_86 := cellL (belowD _) qe2
                        clear qe2
                        have qS_87 := cellL (belowD _) qS
                        clear qS
                        have qL_88 := cellL (belowD _) qL
                        clear qL
                        have hcd_89 := cellL (belowD _) hcd
                        clear hcd
                        have HOW_90 := Lib.hid (ownSl_mono HOW.out (belowD _))
                        clear HOW
                        clear k0_0 k0_1 k0_2 k1_0 k1_1 k1_2 k2_0 k2_1 k2_2 k3_0 k3_1 tc0_ tc1_ xc0_ xc1_ qc0_ qc1_ qr0_ qr1_
                        have hz_wd91 : wr.heap.size ≤ (wr.drew).heap.size := by simp
                        generalize hgen_wd91 : wr.drew = wd91 at *
                        have HG_wd91 := Lib.hid hgen_wd91
                        clear hgen_wd91
                        (repeat (first | (apply t4_skip rfl (by rfl); try simp only [Act.put, sI, sZ, sS]) | (apply t4_float rfl (by rfl); (· (intro w' hS; go_simp <;> with_reducible rfl)); (try simp only [Act.put, sI, sZ, sS]))))
                        refine t4_last rfl (by rfl) (fun K hK => ?_)
                        have k0_0 := hs85.cellAt 0 rfl 0 rfl
                        have k0_1 := hs85.cellAt 0 rfl 1 rfl
                        have k0_2 := hs85.cellAt 0 rfl 2 rfl
                        have k1_0 := hs85.cellAt 1 rfl 0 rfl
                        have k1_1 := hs85.cellAt 1 rfl 1 rfl
                        have k1_2 := hs85.cellAt 1 rfl 2 rfl
                        have k2_0 := hs85.cellAt 2 rfl 0 rfl
                        have k2_1 := hs85.cellAt 2 rfl 1 rfl
                        have k2_2 := hs85.cellAt 2 rfl 2 rfl
                        have k3_0 := hs85.cellAt 3 rfl 0 rfl
                        have k3_1 := hs85.cellAt 3 rfl 1 rfl
                        have tc0_ := cellL hs85.bel tc0
                        have tc1_ := cellL hs85.bel tc1
                        have xc0_ := cellL hs85.bel xc0
                        have xc1_ := cellL hs85.bel xc1
                        have qc0_ := cellL hs85.bel qc0
                        have qc1_ := cellL hs85.bel qc1
                        have qr0_ := cellL hs85.bel qr0
                        have qr1_ := cellL hs85.bel qr1
                        clear k0_0 k0_1 k0_2 k1_0 k1_1 k1_2 k2_0 k2_1 k2_2 k3_0 k3_1 tc0_ tc1_ xc0_ xc1_ qc0_ qc1_ qr0_ qr1_
                        have k0_0 := hs85.cellAt 0 rfl 0 rfl
                        have k0_1 := hs85.cellAt 0 rfl 1 rfl
                        have k0_2 := hs85.cellAt 0 rfl 2 rfl
                        have k1_0 := hs85.cellAt 1 rfl 0 rfl
                        have k1_1 := hs85.cellAt 1 rfl 1 rfl
                        have k1_2 := hs85.cellAt 1 rfl 2 rfl
                        have k2_0 := hs85.cellAt 2 rfl 0 rfl
                        have k2_1 := hs85.cellAt 2 rfl 1 rfl
                        have k2_2 := hs85.cellAt 2 rfl 2 rfl
                        have k3_0 := hs85.cellAt 3 rfl 0 rfl
                        have k3_1 := hs85.cellAt 3 rfl 1 rfl
                        have tc0_ := cellL hs85.bel tc0
                        have tc1_ := cellL hs85.bel tc1
                        have xc0_ := cellL hs85.bel xc0
                        have xc1_ := cellL hs85.bel xc1
                        have qc0_ := cellL hs85.bel qc0
                        have qc1_ := cellL hs85.bel qc1
                        have qr0_ := cellL hs85.bel qr0
                        have qr1_ := cellL hs85.bel qr1
                        obtain ⟨g', o', c', hv', hps, hcd2, hf2, hset⟩ := ownSl_int (HOW_90.out) vn hvV
                        simp only [Value.slice.injEq, Option.some.injEq, Addr.mk.injEq] at hv'
                        obtain ⟨⟨rfl, rfl, -⟩, -, rfl⟩ := hv'
                        have h9 := hset ((OLD + AV) % size) HNI.out
                        rw [Nat.zero_add] at h9 hf2
                        rw [← HSS.out] at h9
                        have H9 := Lib.hid h9
                        have HBD := Lib.hid (show But [gM] wc wd91 from by rw [← HG_wd91.out]; exact hbut.out.trans (but_of (belowD _)))
                        clear h9 hset hcd2 hps hf0
                        go_wp2_with fail
                        refine t4_nil (NoPanic.normal ?_)
                        go_wp2_with fail
                        go_roundw
                        case rel => exact ⟨i + 1, hlt3, by go_num, HBD.out.trans ((OnlyAt.refl [gM] wd91).setCell (p := ⟨gM, vn, none⟩) (by simp) _).but, H9.out⟩
                        case measure => simp [intOf]; omega
                      · have hil : i = L.length := by omega
                        have hnl : ¬ ((i : Int) < L.length) := by omega
                        have how2 : OwnSl [gM] wr (.slice (some ⟨gM, 0, none⟩) V V) (spreadTo size V sc L sc.length) := by rw [← HLS.out, ← hil]; exact how.out
                        clear hil
                        have HA4 := Lib.hid (HA3.out.butP hbP (fun k h1 h2 => by (try simp only at h1 h2); omega))
                        have HE4 := Lib.hid (HE3.out.butP hbP (fun k h1 h2 => by (try simp only at h1 h2); omega))
                        have HKE := Lib.hid (show Ip (fun z => z = gM) wr [.slice (some ⟨gM, 0, none⟩) V V, .int .i64 R] ((spreadTo size V sc L sc.length, R) : Eqn) from ip_cons (A := fun z => z = gM) (B := fun _ => False) ⟨[gM], ⟨_, rfl, how2⟩, by simp, fun k hk => by simpa using hk⟩ ⟨[], ⟨rfl, rfl, hIR⟩, by simp, by simp⟩ (fun k _ h => h) (fun k h => h) (fun k h => h.elim))
                        have q9 := (hs6.cellAt 3 rfl 0 rfl)
                        have q10 := (hs6.cellAt 3 rfl 1 rfl)
                        have q11 := (hs6.cellAt 1 rfl 2 rfl)
                        have q12 := (hs6.cellAt 2 rfl 2 rfl)
                        have q13 := qe2
                        clear k0_0 k0_1 k0_2 k1_0 k1_1 k1_2 k2_0 k2_1 k2_2 k3_0 k3_1 tc0_ tc1_ xc0_ xc1_ qc0_ qc1_ qr0_ qr1_
                        clear qe2
                        have hs92 := hs6.low (B' := wB.heap.size) (bx' := [(w.heap.size, #[.int .i64 0, .int .i64 0, .slice none 0 0], 61), (g, #[.int .i64 size, .int .i64 V, .slice vb (sysAt (size, rs) V cs k sc E j).length vd], 61), (gO, #[.int .i64 size, .int .i64 A, .slice (some ⟨be, oe, none⟩) E.length c9], 61)]) (by omega) (by (try simp) <;> omega) (fun x hx => by simp only [List.mem_cons, List.not_mem_nil, or_false] at hx; rcases hx with rfl | rfl | rfl <;> (refine ⟨?_, ?_⟩ <;> (try simp) <;> (try omega)))
                        have hb9 := belowA wr (.cells #[.slice (some ⟨gM, 0, none⟩) V V, .int .i64 R] 200)
                        have HS9 := Lib.hid (hs92.step hb9)
                        have HTK2 := HTK
                        clear hbP how2 how
                        go_wp2_with (at_builtin; refine wpList_append_accP _ rfl _ _ _ rfl E_eqns rfl (AccP.mono HA4.out (belowA _ _)) (Ip.mono HKE.out (belowA _ _)) (fun z h1 h2 => by (try simp only at h1 h2); omega) ⟨wr.heap.size, 0, none⟩ 1 rfl (news2 (cell_at_block (heap_alloc_new _ _)) (cell_at_block (heap_alloc_new _ _))) (by omega) ?_; intro a7 c7 w7 hA7 hB7; have hs8 := HS9.out.butP hB7 (fun z hz => by have := hz.1; omega) (fun x hx hA => by have h1 := hA.1; have h2 := hA.2.1; have h3 := hA.2.2; simp only [List.mem_cons, List.not_mem_nil, or_false] at hx; rcases hx with rfl | rfl | rfl <;> (try simp only at h1 h2 h3) <;> omega); have q2 := hs8.cellAt 1 rfl 2 rfl; have f2 := hs8.freeAt 1 rfl 2)
                        have hz7 := hB7.size
                        have hz9 : wr.heap.size < w7.heap.size := by (try simp at hz7); omega
                        have HA8 := Lib.hid ((AccP.setCell (b := g) (o := 2) hA7.tight (.slice a7 ((sysAt (size, rs) V cs k sc E j).length + 1) c7) (by intro hA9; (try simp at hA9); omega)).wk (C := fun z => w.heap.size + 1 ≤ z ∧ z ≠ g ∧ (z < wK.heap.size ∨ wB.heap.size ≤ z) ∧ z < w7.heap.size) (fun z hz => by
                          have h2 := hz.2
                          rcases hz.1 with h | h | h
                          · (try simp only at h); omega
                          · (try simp only at h); omega
                          · simp at h; omega))
                        have HE8 := Lib.hid (Ip.setCell (b := g) (o := 2) ((HE4.out.mono hb9).butP hB7 (fun k h1 h2 => by (try simp only at h1 h2); omega)) (.slice a7 ((sysAt (size, rs) V cs k sc E j).length + 1) c7) (by intro hA9; (try simp only at hA9); omega))
                        have HQ8 := Lib.hid (hs8.set (p := [_]) (by simp <;> omega) 2 (.slice a7 ((sysAt (size, rs) V cs k sc E j).length + 1) c7))
                        have HSZ := Lib.hid (show (w7.setCell ⟨g, 2, none⟩ (.slice a7 ((sysAt (size, rs) V cs k sc E j).length + 1) c7)).heap.size = w7.heap.size by simp [World.setCell])
                        go_wp2_with fail
                        go_roundw
                        case measure => simp [intOf]; omega
                        refine ⟨j + 1, a7, c7, hlt2, by go_num, ?_, ?_, HE8.out⟩
                        · rw [HTK2.out, List.length_append]; exact HQ8.out
                        · rw [HTK2.out, List.length_append]; exact HA8.out.wk (fun z hz => by rw [HSZ.out]; exact hz)
                · have hje : j = E.length := by omega
                  have hnj : ¬ ((j : Int) < E.length) := by omega
                  have HAL := Lib.hid (show sysAt (size, rs) V cs k sc E j = sysTo (size, rs) V cs (k + 1) by rw [hje, HSU.out, sysAt_all])
                  clear hje
                  have hac3 := hac2
                  have hs93 := hs4.low (B' := w1.heap.size) (bx' := [(w.heap.size, #[.int .i64 0, .int .i64 0, .slice none 0 0], 61), (g, #[.int .i64 size, .int .i64 V, .slice vb (sysAt (size, rs) V cs k sc E j).length vd], 61)]) (by omega) (by (try simp) <;> omega) (fun x hx => by simp only [List.mem_cons, List.not_mem_nil, or_false] at hx; rcases hx with rfl | rfl <;> (refine ⟨?_, ?_⟩ <;> (try simp) <;> (try omega)))
                  go_wp2_with fail
                  go_roundw
                  case rel =>
                    refine ⟨k + 1, vb, vd, hlt, by go_num, ?_, ?_, HAF.out⟩
                    · rw [← HAL.out]; exact hs93
                    · rw [← HAL.out]; exact hac3.out.wk (fun z hz => ⟨hz.1, hz.2.1, hz.2.2.2⟩)
                  case measure => simp [intOf]; omega
        · have hke : k = cs.length := by omega
          have hnk : ¬ ((k : Int) < cs.length) := by omega
          have H1 := Lib.hid (show sysF (size, rs) ((V : Int), cs) = (if 24 < (sysTo (size, rs) V cs k).length then ((0, 0, []), 3) else ((size, (V : Int), sysTo (size, rs) V cs k), 0)) by
            have h3 : affAll (size, rs) ((V : Int), cs) = true := by
              unfold affAll
              rw [List.all_eq_true]
              intro c hc
              obtain ⟨q, hq, rfl⟩ := List.getElem_of_mem hc
              exact haff.out q hq (by simp only at hq; omega)
            rw [hke]
            unfold sysF
            simp only
            rw [HPR.out, h3]; rfl)
          clear hke
          by_cases h24 : 24 < (sysTo (size, rs) V cs k).length
          · have h24I : (24 : Int) < (sysTo (size, rs) V cs k).length := by omega
            have H2 := Lib.hid (show sysF (size, rs) ((V : Int), cs) = ((0, 0, []), 3) by rw [H1.out, if_pos h24])
            clear h24
            have f0_0 := hst.out.freeAt 0 rfl 0
            have f0_1 := hst.out.freeAt 0 rfl 1
            have f0_2 := hst.out.freeAt 0 rfl 2
            go_wp2_with fail
            have hs94 := hst.out.set (p := []) (by simp <;> omega) 0 (.int .i64 0)
            have hs95 := hs94.set (p := []) (by simp <;> omega) 1 (.int .i64 0)
            have hs96 := hs95.set (p := []) (by simp <;> omega) 2 (.slice none 0 0)
            have x0 := (hs96.cellAt 0 rfl 0 rfl)
            have x1 := (hs96.cellAt 0 rfl 1 rfl)
            have x2 := (hs96.cellAt 0 rfl 2 rfl)
            refine bodyPost_ret (v := .tuple #[.agg #[.int .i64 0, .int .i64 0, .slice none 0 0], .int .i64 3]) (by simp [results, Tryz.results80, go_sem, x0, x1, x2]) rfl ⟨_, _, _, by rw [H2.out], ?_, hs96.bel⟩
            rw [H2.out]; exact ⟨[], own0_sys, by simp, by simp⟩
          · have h24I : ¬ ((24 : Int) < (sysTo (size, rs) V cs k).length) := by omega
            have H2 := Lib.hid (show sysF (size, rs) ((V : Int), cs) = ((size, (V : Int), sysTo (size, rs) V cs k), 0) by rw [H1.out, if_neg h24])
            have HFR := Lib.hid (fresh_sys (lo := w.heap.size + 1) hIs hIV (hac.out.wk (fun z hz => hz.1)))
            clear h24
            have f0_0 := hst.out.freeAt 0 rfl 0
            have f0_1 := hst.out.freeAt 0 rfl 1
            have f0_2 := hst.out.freeAt 0 rfl 2
            go_wp2_with fail
            have hs97 := hst.out.set (p := []) (by simp <;> omega) 0 (.int .i64 size)
            have hs98 := hs97.set (p := []) (by simp <;> omega) 1 (.int .i64 V)
            have hs99 := hs98.set (p := []) (by simp <;> omega) 2 (.slice va (sysTo (size, rs) V cs k).length vc)
            have x0 := (hs99.cellAt 0 rfl 0 rfl)
            have x1 := (hs99.cellAt 0 rfl 1 rfl)
            have x2 := (hs99.cellAt 0 rfl 2 rfl)
            refine bodyPost_ret (v := .tuple #[.agg #[.int .i64 size, .int .i64 V, .slice va (sysTo (size, rs) V cs k).length vc], .int .i64 0]) (by simp [results, Tryz.results80, go_sem, x0, x1, x2]) rfl ⟨_, _, _, by rw [H2.out], ?_, hs99.bel⟩
            rw [H2.out]
            exact (((HFR.out.setCell (a := ⟨w.heap.size, 0, none⟩) (by (try simp) <;> omega) _).setCell (a := ⟨w.heap.size, 1, none⟩) (by (try simp) <;> omega) _).setCell (a := ⟨w.heap.size, 2, none⟩) (by (try simp) <;> omega) _).lower (by omega)
end Go.Proofs.YtoblfnoaepbhfaaGreat

