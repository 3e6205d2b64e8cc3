/-
  CONTRACT: l07Rows of the reference. (Printed by wip/genrows.py.)
-/
import Derived.Test.YthceklaoikeokaaGreatDoorRowB
import Derived.Test.YthceklaoikeokaaGreatDoorSysB
import Derived.Test.YthceklaoikeokaaGreatDoorRowsB
import Derived.Test.YthceklaoikeokaaGreatDoorBase
import Derived.Deep.DeepCutAuto
namespace Go.Proofs.YthceklaoikeokaaGreatDoor
open Go.RowKit Go.Shelf Go.IntWalk
open Rep (Rd Own sz)
set_option linter.unusedSimpArgs false
set_option linter.unusedVariables false

theorem Acc.form' {α : Type} [Rep α] {B H : Nat} {e : TypeId} {w : World} {v : Value} {l : List α} (h : Acc B H e w v l) (hl : 0 < l.length) : ∃ g c, v = .slice (some ⟨g, 0, none⟩) l.length c ∧ B ≤ g ∧ g < H := by
  obtain ⟨xs, pss, h1, h2, h3, h4, h5⟩ := h
  rcases h1.2 with ⟨rfl, h0⟩ | ⟨g, cap, cur, rfl, hg, hh, hc, hm, hs, ht⟩
  · omega
  · exact ⟨g, cap, rfl, h4 g (by simp [Value.ownBlock])⟩
theorem below_blk {w w' : World} {g : Nat} {o : Obj} (hb : Below w.heap.size w w') (h : w.heap[g]? = some o) : w'.heap[g]? = some o := by
  rw [hb.block g (Array.getElem?_eq_some_iff.1 h).1]; exact h
theorem wp_make_rep {P : Program} (w : World) {o : Oper} {a : Act} {K : Act → World → Prop} {Q : Exit → Act → World → Prop} (l c : Operand) (t : TypeId) (hop : o.op = Op.makeSlice t l c)
    {e : TypeId} {α : Type} [Rep α] {z : Value} {bytes : Nat} (E : ElemT P t e α z bytes) (x0 : α) (h0 : ∀ w : World, Own [] w z.cells.toList x0) (n : Nat) (hn : n ≤ 1073741824)
    (hl : a.eval l = .int .i64 (n : Int)) (hc : a.eval c = .int .i64 (n : Int))
    (h : ∀ w', OwnSl [w.heap.size] w' (.slice (some ⟨w.heap.size, 0, none⟩) n n) (List.replicate n x0) → Below w.heap.size w w' → w'.heap.size = w.heap.size + 1 → K (a.put o.dst (.slice (some ⟨w.heap.size, 0, none⟩) n n)) w') :
    o.wp P a w K Q := by
  obtain ⟨w', hrun, r1, r2, r3⟩ := run_make_rep (P := P) w t e E x0 h0 n hn
  unfold Oper.wp
  simp [execOp, hop, hl, hc, hrun, Result.andThen]
  exact h w' r1 r2 r3
theorem rowsS_step (n : Nat) (l : List Eqn) (j : Nat) (h : j < l.length) : rowsS n 0 (l.take (j + 1)) = rowsS n 0 (l.take j) ++ [(l[j].1, l[j].2, (List.replicate n 0).set j 1)] := by
  rw [List.take_succ_eq_append_getElem h, rowsS_snoc]
  simp only [List.length_take, Nat.zero_add, Nat.min_eq_left (Nat.le_of_lt h)]

set_option maxRecDepth 100000 in
set_option maxHeartbeats 8000000 in
theorem l07Rows_c (p u : Int) (l : List Eqn) (sb : Nat) (v2 : Value) (w : World) (hx : Rd w [v2] l) (c2 : w.cell? ⟨sb, 2, none⟩ = some v2) (hl : l.length ≤ 24) (he : ∀ e, e ∈ l → e.1.length ≤ 12) :
    Calls Tryz.prog 68 #[.pointer (some ⟨sb, 0, none⟩)] w fun e w' => ∃ g c, e = .returned (.slice (some ⟨g, 0, none⟩) l.length c) ∧ Fresh w.heap.size w' [.slice (some ⟨g, 0, none⟩) l.length c] (rowsS l.length 0 l) ∧ Below w.heap.size w w' := by
  obtain ⟨a, c, rfl, _⟩ := rd_list hx
  have RL := Lib.hid hx
  have HE := Lib.hid he
  clear hx he
  go_enter Tryz.func68, Tryz.ntmps68
  go_wp2_with fail
  go_loopw [3, 4] (fun r3 i wr => ∃ (j g4 c4 : Nat), j ≤ l.length ∧ i = .int .i64 j ∧ r3 = .slice (some ⟨g4, 0, none⟩) j c4 ∧ Hid (Below w.heap.size w wr) ∧ Hid (Acc w.heap.size wr.heap.size 66 wr r3 (rowsS l.length 0 (l.take j)))) (fun _ i _ => l.length - (intOf i).toNat)
  case atStart =>
    have hac := (acc_made (α := SRow) w 66)
    refine ⟨0, _, _, Nat.zero_le _, rfl, rfl, belowA w _, ?_⟩
    simpa [Hid, rowsS] using hac
  case round =>
    obtain ⟨j, g4, c4, hj, rfl, rfl, hbl, hac⟩ := hrel
    have c2b := cellL hbl.out c2
    have hlj : (rowsS l.length 0 (l.take j)).length = j := by rw [rowsS_length]; simp; omega
    have hsw : w.heap.size ≤ wr.heap.size := hbl.out.size
    by_cases hlt : j < l.length
    · obtain ⟨bl, ol, y0, y1, rfl, f00, f01, hx⟩ := rd_two_at rfl RL.out j hlt
      have hlj1 : (rowsS l.length 0 (l.take (j + 1))).length = j + 1 := by rw [rowsS_length]; simp; omega
      have f0 := cellL hbl.out f00
      have f1 := cellL hbl.out f01
      have hU := HE.out l[j] (List.getElem_mem hlt)
      have hstep := Lib.hid (rowsS_step l.length l j hlt)
      have HXE := Lib.hid hx
      clear hx f00 f01
      generalize l[j] = E at *
      obtain ⟨El, Er⟩ := E
      have ze := rd_cons rfl HXE.out
      have RE := Lib.hid (Rd.mono ze.1 hbl.out)
      obtain ⟨ae, ce, rfl, _⟩ := rd_list ze.1
      obtain ⟨rfl, hIr⟩ := rd_i1 ze.2
      simp only at hU
      clear ze HXE
      have hjl : (j : Int) < l.length := by omega
      have hq0 := (St.start wr).drew
      go_upto_region 5 with fail
      go_cut [5] from 7 to 47 (fun x5 wx => ∃ g gm mC nC, x5 = .pointer (some ⟨g, 0, none⟩) ∧ Hid (Below wr.heap.size wr wx) ∧ Hid (wx.heap[g]? = some (.cells #[.slice mC El.length nC, .int .i64 Er, .slice (some ⟨gm, 0, none⟩) l.length l.length] 66 (0, 0))) ∧ Hid (Ip (fun z => wr.heap.size ≤ z ∧ z < wx.heap.size ∧ z ≠ g ∧ z ≠ gm) wx [.slice mC El.length nC] El) ∧ Hid (OwnSl [gm] wx (.slice (some ⟨gm, 0, none⟩) l.length l.length) (List.replicate l.length (0 : Int))) ∧ Hid (wr.heap.size ≤ g ∧ g < wx.heap.size ∧ wr.heap.size ≤ gm ∧ gm < wx.heap.size ∧ g ≠ gm))
      case first =>
        refine wp_region_noPanic (wp_region_tree (fun w' => w'.cell? ⟨sb, 2, none⟩ = some (.slice (some ⟨bl, ol, none⟩) l.length c) ∧ w'.cell? ⟨bl, ol + j * 2, none⟩ = some (.slice ae El.length ce) ∧ w'.cell? ⟨bl, ol + j * 2 + 1, none⟩ = some (.int .i64 Er)) (.float 0 (.float 1 (.float 2 (.float 3 (.float 4 (.float 5 (.float 6 (.float 7 (.float 9 (.float 10 (.float 11 (.float 12 (.float 13 (.float 14 (.float 15 (.float 16 (.float 17 (.float 18 (.float 19 (.float 20 (.float 21 (.fork3 8 (.fork2 22 (.float 23 (.hard 24 (.last 25 .nil))) 24 (.hard 22 (.float 23 (.last 25 .nil)))) 22 (.fork2 8 (.float 23 (.hard 24 (.last 25 .nil))) 24 (.hard 8 (.float 23 (.last 25 .nil)))) 24 (.fork2 8 (.hard 22 (.float 23 (.last 25 .nil))) 22 (.hard 8 (.float 23 (.last 25 .nil)))))))))))))))))))))))))) (by kernel_rfl) (by kernel_rfl) (by kernel_rfl) rfl ?_ (fun _ _ _ _ _ h => h) ?_)
        · exact ⟨c2b, f0, f1⟩
        (repeat (first | (apply tr_skip rfl (by rfl); try simp only [Act.put, List.setIfInBounds_toArray, List.set_cons_zero, List.set_cons_succ]) | (apply tr_float rfl (by rfl); (· (intro w' hS; go_simp <;> with_reducible rfl)); (try simp only [Act.put, List.setIfInBounds_toArray, List.set_cons_zero, List.set_cons_succ]))))
        refine tr_fork3 ?_ ?_ ?_
        · refine tr_hard rfl (by rfl) (fun K hK => ?_)
          go_wp2_with (go_at_call 85; refine (l00Own_c El _ _ (Rd.mono RE.out hq0.bel) (by omega)).mono ?_; rintro e wC ⟨bC, rfl, hAC, hbC⟩)
          have zC : wr.heap.size ≤ wC.heap.size := by have := hbC.size; simpa using this
          have hq1 := hq0.step hbC
          obtain ⟨mC, nC, rfl, _⟩ := Acc.len hAC
          obtain ⟨psC, hoC, hnC, hkC⟩ := hAC.ownSl
          have IC : Hid (Ip (fun z => wr.heap.size ≤ z ∧ z < wC.heap.size) wC [.slice mC El.length nC] El) := ⟨psC, ⟨_, rfl, hoC⟩, hnC, by simpa using hkC⟩
          clear hoC hnC hkC hAC
          refine ⟨⟨cellL hq1.bel c2b, cellL hq1.bel f0, cellL hq1.bel f1⟩, ?_⟩
          (repeat (first | (apply tr_skip rfl (by rfl); try simp only [Act.put, List.setIfInBounds_toArray, List.set_cons_zero, List.set_cons_succ]) | (apply tr_float rfl (by rfl); (· (intro w' hS; go_simp <;> with_reducible rfl)); (try simp only [Act.put, List.setIfInBounds_toArray, List.set_cons_zero, List.set_cons_succ]))))
          refine tr_fork2 ?_ ?_
          · refine tr_hard rfl (by rfl) (fun K hK => ?_)
            refine wp_make_rep _ _ _ 28 rfl E_ints (0 : Int) own0_int l.length (by omega) rfl rfl ?_
            intro wM hownM hbM hzM
            have ZM : Hid (wM.heap.size = wC.heap.size + 1) := Lib.hid (by simpa using hzM)
            clear hzM
            have hq2 := hq1.step hbM
            have IC := Lib.hid (IC.out.mono hbM)
            have OM : Hid (OwnSl [wC.heap.size] wM (.slice (some ⟨wC.heap.size, 0, none⟩) l.length l.length) (List.replicate l.length (0 : Int))) := by simpa [Hid] using hownM
            clear hownM
            refine hK _ _ ⟨⟨cellL hq2.bel c2b, cellL hq2.bel f0, cellL hq2.bel f1⟩, ?_⟩
            (repeat (first | (apply tr_skip rfl (by rfl); try simp only [Act.put, List.setIfInBounds_toArray, List.set_cons_zero, List.set_cons_succ]) | (apply tr_float rfl (by rfl); (· (intro w' hS; go_simp <;> with_reducible rfl)); (try simp only [Act.put, List.setIfInBounds_toArray, List.set_cons_zero, List.set_cons_succ]))))
            have IC0 := IC
            have OM0 := OM
            refine tr_hard rfl (by rfl) (fun K hK => ?_)
            go_wp2_with fail
            have hq3 := hq2.step (belowA wM (.cells #[.slice none 0 0, .int .i64 0, .slice none 0 0] 66))
            have IC := Lib.hid (IC.out.mono (belowA wM (.cells #[.slice none 0 0, .int .i64 0, .slice none 0 0] 66)))
            have OM := Lib.hid (ownSl_mono OM.out (belowA wM (.cells #[.slice none 0 0, .int .i64 0, .slice none 0 0] 66)))
            have HA : Hid ((wM.alloc (.cells #[.slice none 0 0, .int .i64 0, .slice none 0 0] 66)).heap[wM.heap.size]? = some (.cells #[.slice none 0 0, .int .i64 0, .slice none 0 0] 66 (0, 0))) := heap_alloc_new wM _
            refine ⟨⟨cellL hq3.bel c2b, cellL hq3.bel f0, cellL hq3.bel f1⟩, ?_⟩
            (repeat (first | (apply tr_skip rfl (by rfl); try simp only [Act.put, List.setIfInBounds_toArray, List.set_cons_zero, List.set_cons_succ]) | (apply tr_float rfl (by rfl); (· (intro w' hS; go_simp <;> with_reducible rfl)); (try simp only [Act.put, List.setIfInBounds_toArray, List.set_cons_zero, List.set_cons_succ]))))
            refine tr_last rfl (by rfl) (fun K hK => ?_)
            go_wp2_with fail
            refine tr_nil (NoPanic.normal ?_)
            go_wp2_with fail
            go_meet
            case rel =>
              have zM := ZM.out
              exact ⟨wM.heap.size, wC.heap.size, mC, nC, rfl, (hq2.step (belowA wM (.cells #[.slice mC El.length nC, .int .i64 Er, .slice (some ⟨wC.heap.size, 0, none⟩) l.length l.length] 66))).bel, heap_alloc_new wM _, (IC0.out.mono (belowA _ _)).wk (fun z h => by simp; omega), ownSl_mono OM0.out (belowA _ _), by refine ⟨?_, ?_, ?_, ?_, ?_⟩ <;> first | omega | (simp; done) | (simp; omega)⟩
          · refine tr_hard rfl (by rfl) (fun K hK => ?_)
            go_wp2_with fail
            have hq2 := hq1.step (belowA wC (.cells #[.slice none 0 0, .int .i64 0, .slice none 0 0] 66))
            have IC := Lib.hid (IC.out.mono (belowA wC (.cells #[.slice none 0 0, .int .i64 0, .slice none 0 0] 66)))
            have HA : Hid ((wC.alloc (.cells #[.slice none 0 0, .int .i64 0, .slice none 0 0] 66)).heap[wC.heap.size]? = some (.cells #[.slice none 0 0, .int .i64 0, .slice none 0 0] 66 (0, 0))) := heap_alloc_new wC _
            refine ⟨⟨cellL hq2.bel c2b, cellL hq2.bel f0, cellL hq2.bel f1⟩, ?_⟩
            (repeat (first | (apply tr_skip rfl (by rfl); try simp only [Act.put, List.setIfInBounds_toArray, List.set_cons_zero, List.set_cons_succ]) | (apply tr_float rfl (by rfl); (· (intro w' hS; go_simp <;> with_reducible rfl)); (try simp only [Act.put, List.setIfInBounds_toArray, List.set_cons_zero, List.set_cons_succ]))))
            refine tr_hard rfl (by rfl) (fun K hK => ?_)
            refine wp_make_rep _ _ _ 28 rfl E_ints (0 : Int) own0_int l.length (by omega) rfl rfl ?_
            intro wM hownM hbM hzM
            have ZM : Hid (wM.heap.size = wC.heap.size + 1 + 1) := Lib.hid (by simpa using hzM)
            clear hzM
            have hq3 := hq2.step hbM
            have IC := Lib.hid (IC.out.mono hbM)
            have HA := Lib.hid (below_blk hbM HA.out)
            have OM : Hid (OwnSl [wC.heap.size + 1] wM (.slice (some ⟨wC.heap.size + 1, 0, none⟩) l.length l.length) (List.replicate l.length (0 : Int))) := by simpa [Hid] using hownM
            clear hownM
            refine hK _ _ ⟨⟨cellL hq3.bel c2b, cellL hq3.bel f0, cellL hq3.bel f1⟩, ?_⟩
            (repeat (first | (apply tr_skip rfl (by rfl); try simp only [Act.put, List.setIfInBounds_toArray, List.set_cons_zero, List.set_cons_succ]) | (apply tr_float rfl (by rfl); (· (intro w' hS; go_simp <;> with_reducible rfl)); (try simp only [Act.put, List.setIfInBounds_toArray, List.set_cons_zero, List.set_cons_succ]))))
            have k0 : wM.cell? ⟨wC.heap.size, 0, none⟩ = some (.slice none 0 0) := cell_at_block HA.out
            have k1 : wM.cell? ⟨wC.heap.size, 1, none⟩ = some (.int .i64 0) := cell_at_block HA.out
            have k2 : wM.cell? ⟨wC.heap.size, 2, none⟩ = some (.slice none 0 0) := cell_at_block HA.out
            have y0 : wM.frozen? ⟨wC.heap.size, 0, none⟩ = false := free_at_block HA.out
            have y1 : wM.frozen? ⟨wC.heap.size, 1, none⟩ = false := free_at_block HA.out
            have y2 : wM.frozen? ⟨wC.heap.size, 2, none⟩ = false := free_at_block HA.out
            refine tr_last rfl (by rfl) (fun K hK => ?_)
            go_wp2_with fail
            refine tr_nil (NoPanic.normal ?_)
            go_wp2_with fail
            go_meet
            case rel =>
              have zM := ZM.out
              have ho := (((OnlyAt.refl [wC.heap.size] wM).setCell (p := ⟨wC.heap.size, 0, none⟩) (by simp) (.slice mC El.length nC)).setCell (p := ⟨wC.heap.size, 1, none⟩) (by simp) (.int .i64 Er)).setCell (p := ⟨wC.heap.size, 2, none⟩) (by simp) (.slice (some ⟨wC.heap.size + 1, 0, none⟩) l.length l.length)
              have hz := ho.size
              exact ⟨wC.heap.size, wC.heap.size + 1, mC, nC, rfl, hq3.bel.trans (ho.below (by simp <;> omega)), heap_setCell_at _ _ _ _ _ _ _ (heap_setCell_at _ _ _ _ _ _ _ (heap_setCell_at _ _ _ _ _ _ _ HA.out)), (IC.out.frame (fun z h1 h2 => ho.block z (by simp <;> omega))).wk (fun z h => by rw [hz]; omega), ownSl_only OM.out ho (by simp <;> omega), by refine ⟨?_, ?_, ?_, ?_, ?_⟩ <;> first | omega | (rw [hz]; omega)⟩
        · refine tr_hard rfl (by rfl) (fun K hK => ?_)
          refine wp_make_rep _ _ _ 28 rfl E_ints (0 : Int) own0_int l.length (by omega) rfl rfl ?_
          intro wM hownM hbM hzM
          have ZM : Hid (wM.heap.size = wr.heap.size + 1) := Lib.hid (by simpa using hzM)
          clear hzM
          have hq1 := hq0.step hbM
          have OM : Hid (OwnSl [wr.heap.size] wM (.slice (some ⟨wr.heap.size, 0, none⟩) l.length l.length) (List.replicate l.length (0 : Int))) := by simpa [Hid] using hownM
          clear hownM
          refine hK _ _ ⟨⟨cellL hq1.bel c2b, cellL hq1.bel f0, cellL hq1.bel f1⟩, ?_⟩
          (repeat (first | (apply tr_skip rfl (by rfl); try simp only [Act.put, List.setIfInBounds_toArray, List.set_cons_zero, List.set_cons_succ]) | (apply tr_float rfl (by rfl); (· (intro w' hS; go_simp <;> with_reducible rfl)); (try simp only [Act.put, List.setIfInBounds_toArray, List.set_cons_zero, List.set_cons_succ]))))
          refine tr_fork2 ?_ ?_
          · refine tr_hard rfl (by rfl) (fun K hK => ?_)
            go_wp2_with (go_at_call 85; refine (l00Own_c El _ _ (Rd.mono RE.out hq1.bel) (by omega)).mono ?_; rintro e wC ⟨bC, rfl, hAC, hbC⟩)
            have zC : wM.heap.size ≤ wC.heap.size := by have := hbC.size; simpa using this
            have hq2 := hq1.step hbC
            have OM := Lib.hid (ownSl_mono OM.out hbC)
            obtain ⟨mC, nC, rfl, _⟩ := Acc.len hAC
            obtain ⟨psC, hoC, hnC, hkC⟩ := hAC.ownSl
            have IC : Hid (Ip (fun z => wM.heap.size ≤ z ∧ z < wC.heap.size) wC [.slice mC El.length nC] El) := ⟨psC, ⟨_, rfl, hoC⟩, hnC, by simpa using hkC⟩
            clear hoC hnC hkC hAC
            refine ⟨⟨cellL hq2.bel c2b, cellL hq2.bel f0, cellL hq2.bel f1⟩, ?_⟩
            (repeat (first | (apply tr_skip rfl (by rfl); try simp only [Act.put, List.setIfInBounds_toArray, List.set_cons_zero, List.set_cons_succ]) | (apply tr_float rfl (by rfl); (· (intro w' hS; go_simp <;> with_reducible rfl)); (try simp only [Act.put, List.setIfInBounds_toArray, List.set_cons_zero, List.set_cons_succ]))))
            have IC0 := IC
            have OM0 := OM
            refine tr_hard rfl (by rfl) (fun K hK => ?_)
            go_wp2_with fail
            have hq3 := hq2.step (belowA wC (.cells #[.slice none 0 0, .int .i64 0, .slice none 0 0] 66))
            have IC := Lib.hid (IC.out.mono (belowA wC (.cells #[.slice none 0 0, .int .i64 0, .slice none 0 0] 66)))
            have OM := Lib.hid (ownSl_mono OM.out (belowA wC (.cells #[.slice none 0 0, .int .i64 0, .slice none 0 0] 66)))
            have HA : Hid ((wC.alloc (.cells #[.slice none 0 0, .int .i64 0, .slice none 0 0] 66)).heap[wC.heap.size]? = some (.cells #[.slice none 0 0, .int .i64 0, .slice none 0 0] 66 (0, 0))) := heap_alloc_new wC _
            refine ⟨⟨cellL hq3.bel c2b, cellL hq3.bel f0, cellL hq3.bel f1⟩, ?_⟩
            (repeat (first | (apply tr_skip rfl (by rfl); try simp only [Act.put, List.setIfInBounds_toArray, List.set_cons_zero, List.set_cons_succ]) | (apply tr_float rfl (by rfl); (· (intro w' hS; go_simp <;> with_reducible rfl)); (try simp only [Act.put, List.setIfInBounds_toArray, List.set_cons_zero, List.set_cons_succ]))))
            refine tr_last rfl (by rfl) (fun K hK => ?_)
            go_wp2_with fail
            refine tr_nil (NoPanic.normal ?_)
            go_wp2_with fail
            go_meet
            case rel =>
              have zM := ZM.out
              exact ⟨wC.heap.size, wr.heap.size, mC, nC, rfl, (hq2.step (belowA wC (.cells #[.slice mC El.length nC, .int .i64 Er, .slice (some ⟨wr.heap.size, 0, none⟩) l.length l.length] 66))).bel, heap_alloc_new wC _, (IC0.out.mono (belowA _ _)).wk (fun z h => by simp; omega), ownSl_mono OM0.out (belowA _ _), by refine ⟨?_, ?_, ?_, ?_, ?_⟩ <;> first | omega | (simp; done) | (simp; omega)⟩
          · refine tr_hard rfl (by rfl) (fun K hK => ?_)
            go_wp2_with fail
            have hq2 := hq1.step (belowA wM (.cells #[.slice none 0 0, .int .i64 0, .slice none 0 0] 66))
            have OM := Lib.hid (ownSl_mono OM.out (belowA wM (.cells #[.slice none 0 0, .int .i64 0, .slice none 0 0] 66)))
            have HA : Hid ((wM.alloc (.cells #[.slice none 0 0, .int .i64 0, .slice none 0 0] 66)).heap[wM.heap.size]? = some (.cells #[.slice none 0 0, .int .i64 0, .slice none 0 0] 66 (0, 0))) := heap_alloc_new wM _
            refine ⟨⟨cellL hq2.bel c2b, cellL hq2.bel f0, cellL hq2.bel f1⟩, ?_⟩
            (repeat (first | (apply tr_skip rfl (by rfl); try simp only [Act.put, List.setIfInBounds_toArray, List.set_cons_zero, List.set_cons_succ]) | (apply tr_float rfl (by rfl); (· (intro w' hS; go_simp <;> with_reducible rfl)); (try simp only [Act.put, List.setIfInBounds_toArray, List.set_cons_zero, List.set_cons_succ]))))
            refine tr_hard rfl (by rfl) (fun K hK => ?_)
            go_wp2_with (go_at_call 85; refine (l00Own_c El _ _ (Rd.mono RE.out hq2.bel) (by omega)).mono ?_; rintro e wC ⟨bC, rfl, hAC, hbC⟩)
            have zC : wM.heap.size + 1 ≤ wC.heap.size := by have := hbC.size; simpa using this
            have hq3 := hq2.step hbC
            have OM := Lib.hid (ownSl_mono OM.out hbC)
            have HA := Lib.hid (below_blk hbC HA.out)
            obtain ⟨mC, nC, rfl, _⟩ := Acc.len hAC
            obtain ⟨psC, hoC, hnC, hkC⟩ := hAC.ownSl
            have IC : Hid (Ip (fun z => wM.heap.size + 1 ≤ z ∧ z < wC.heap.size) wC [.slice mC El.length nC] El) := ⟨psC, ⟨_, rfl, hoC⟩, hnC, by simpa using hkC⟩
            clear hoC hnC hkC hAC
            refine ⟨⟨cellL hq3.bel c2b, cellL hq3.bel f0, cellL hq3.bel f1⟩, ?_⟩
            (repeat (first | (apply tr_skip rfl (by rfl); try simp only [Act.put, List.setIfInBounds_toArray, List.set_cons_zero, List.set_cons_succ]) | (apply tr_float rfl (by rfl); (· (intro w' hS; go_simp <;> with_reducible rfl)); (try simp only [Act.put, List.setIfInBounds_toArray, List.set_cons_zero, List.set_cons_succ]))))
            have k0 : wC.cell? ⟨wM.heap.size, 0, none⟩ = some (.slice none 0 0) := cell_at_block HA.out
            have k1 : wC.cell? ⟨wM.heap.size, 1, none⟩ = some (.int .i64 0) := cell_at_block HA.out
            have k2 : wC.cell? ⟨wM.heap.size, 2, none⟩ = some (.slice none 0 0) := cell_at_block HA.out
            have y0 : wC.frozen? ⟨wM.heap.size, 0, none⟩ = false := free_at_block HA.out
            have y1 : wC.frozen? ⟨wM.heap.size, 1, none⟩ = false := free_at_block HA.out
            have y2 : wC.frozen? ⟨wM.heap.size, 2, none⟩ = false := free_at_block HA.out
            refine tr_last rfl (by rfl) (fun K hK => ?_)
            go_wp2_with fail
            refine tr_nil (NoPanic.normal ?_)
            go_wp2_with fail
            go_meet
            case rel =>
              have zM := ZM.out
              have ho := (((OnlyAt.refl [wM.heap.size] wC).setCell (p := ⟨wM.heap.size, 0, none⟩) (by simp) (.slice mC El.length nC)).setCell (p := ⟨wM.heap.size, 1, none⟩) (by simp) (.int .i64 Er)).setCell (p := ⟨wM.heap.size, 2, none⟩) (by simp) (.slice (some ⟨wr.heap.size, 0, none⟩) l.length l.length)
              have hz := ho.size
              exact ⟨wM.heap.size, wr.heap.size, mC, nC, rfl, hq3.bel.trans (ho.below (by simp <;> omega)), heap_setCell_at _ _ _ _ _ _ _ (heap_setCell_at _ _ _ _ _ _ _ (heap_setCell_at _ _ _ _ _ _ _ HA.out)), (IC.out.frame (fun z h1 h2 => ho.block z (by simp <;> omega))).wk (fun z h => by rw [hz]; omega), ownSl_only OM.out ho (by simp <;> omega), by refine ⟨?_, ?_, ?_, ?_, ?_⟩ <;> first | omega | (rw [hz]; omega)⟩
        · refine tr_hard rfl (by rfl) (fun K hK => ?_)
          go_wp2_with fail
          have hq1 := hq0.step (belowA wr.drew (.cells #[.slice none 0 0, .int .i64 0, .slice none 0 0] 66))
          have HA : Hid ((wr.drew.alloc (.cells #[.slice none 0 0, .int .i64 0, .slice none 0 0] 66)).heap[wr.heap.size]? = some (.cells #[.slice none 0 0, .int .i64 0, .slice none 0 0] 66 (0, 0))) := heap_alloc_new wr.drew _
          have hqa := (St.start wr).step (belowA wr (.cells #[.slice none 0 0, .int .i64 0, .slice none 0 0] 66))
          refine ⟨⟨cellL hqa.bel c2b, cellL hqa.bel f0, cellL hqa.bel f1⟩, ?_⟩
          (repeat (first | (apply tr_skip rfl (by rfl); try simp only [Act.put, List.setIfInBounds_toArray, List.set_cons_zero, List.set_cons_succ]) | (apply tr_float rfl (by rfl); (· (intro w' hS; go_simp <;> with_reducible rfl)); (try simp only [Act.put, List.setIfInBounds_toArray, List.set_cons_zero, List.set_cons_succ]))))
          refine tr_fork2 ?_ ?_
          · refine tr_hard rfl (by rfl) (fun K hK => ?_)
            go_wp2_with (go_at_call 85; refine (l00Own_c El _ _ (Rd.mono RE.out hq1.bel) (by omega)).mono ?_; rintro e wC ⟨bC, rfl, hAC, hbC⟩)
            have zC : wr.heap.size + 1 ≤ wC.heap.size := by have := hbC.size; simpa using this
            have hq2 := hq1.step hbC
            have HA := Lib.hid (below_blk hbC HA.out)
            obtain ⟨mC, nC, rfl, _⟩ := Acc.len hAC
            obtain ⟨psC, hoC, hnC, hkC⟩ := hAC.ownSl
            have IC : Hid (Ip (fun z => wr.heap.size + 1 ≤ z ∧ z < wC.heap.size) wC [.slice mC El.length nC] El) := ⟨psC, ⟨_, rfl, hoC⟩, hnC, by simpa using hkC⟩
            clear hoC hnC hkC hAC
            refine ⟨⟨cellL hq2.bel c2b, cellL hq2.bel f0, cellL hq2.bel f1⟩, ?_⟩
            (repeat (first | (apply tr_skip rfl (by rfl); try simp only [Act.put, List.setIfInBounds_toArray, List.set_cons_zero, List.set_cons_succ]) | (apply tr_float rfl (by rfl); (· (intro w' hS; go_simp <;> with_reducible rfl)); (try simp only [Act.put, List.setIfInBounds_toArray, List.set_cons_zero, List.set_cons_succ]))))
            refine tr_hard rfl (by rfl) (fun K hK => ?_)
            refine wp_make_rep _ _ _ 28 rfl E_ints (0 : Int) own0_int l.length (by omega) rfl rfl ?_
            intro wM hownM hbM hzM
            have ZM : Hid (wM.heap.size = wC.heap.size + 1) := Lib.hid (by simpa using hzM)
            clear hzM
            have hq3 := hq2.step hbM
            have IC := Lib.hid (IC.out.mono hbM)
            have HA := Lib.hid (below_blk hbM HA.out)
            have OM : Hid (OwnSl [wC.heap.size] wM (.slice (some ⟨wC.heap.size, 0, none⟩) l.length l.length) (List.replicate l.length (0 : Int))) := by simpa [Hid] using hownM
            clear hownM
            refine hK _ _ ⟨⟨cellL hq3.bel c2b, cellL hq3.bel f0, cellL hq3.bel f1⟩, ?_⟩
            (repeat (first | (apply tr_skip rfl (by rfl); try simp only [Act.put, List.setIfInBounds_toArray, List.set_cons_zero, List.set_cons_succ]) | (apply tr_float rfl (by rfl); (· (intro w' hS; go_simp <;> with_reducible rfl)); (try simp only [Act.put, List.setIfInBounds_toArray, List.set_cons_zero, List.set_cons_succ]))))
            have k0 : wM.cell? ⟨wr.heap.size, 0, none⟩ = some (.slice none 0 0) := cell_at_block HA.out
            have k1 : wM.cell? ⟨wr.heap.size, 1, none⟩ = some (.int .i64 0) := cell_at_block HA.out
            have k2 : wM.cell? ⟨wr.heap.size, 2, none⟩ = some (.slice none 0 0) := cell_at_block HA.out
            have y0 : wM.frozen? ⟨wr.heap.size, 0, none⟩ = false := free_at_block HA.out
            have y1 : wM.frozen? ⟨wr.heap.size, 1, none⟩ = false := free_at_block HA.out
            have y2 : wM.frozen? ⟨wr.heap.size, 2, none⟩ = false := free_at_block HA.out
            refine tr_last rfl (by rfl) (fun K hK => ?_)
            go_wp2_with fail
            refine tr_nil (NoPanic.normal ?_)
            go_wp2_with fail
            go_meet
            case rel =>
              have zM := ZM.out
              have ho := (((OnlyAt.refl [wr.heap.size] wM).setCell (p := ⟨wr.heap.size, 0, none⟩) (by simp) (.slice mC El.length nC)).setCell (p := ⟨wr.heap.size, 1, none⟩) (by simp) (.int .i64 Er)).setCell (p := ⟨wr.heap.size, 2, none⟩) (by simp) (.slice (some ⟨wC.heap.size, 0, none⟩) l.length l.length)
              have hz := ho.size
              exact ⟨wr.heap.size, wC.heap.size, mC, nC, rfl, hq3.bel.trans (ho.below (by simp <;> omega)), heap_setCell_at _ _ _ _ _ _ _ (heap_setCell_at _ _ _ _ _ _ _ (heap_setCell_at _ _ _ _ _ _ _ HA.out)), (IC.out.frame (fun z h1 h2 => ho.block z (by simp <;> omega))).wk (fun z h => by rw [hz]; omega), ownSl_only OM.out ho (by simp <;> omega), by refine ⟨?_, ?_, ?_, ?_, ?_⟩ <;> first | omega | (rw [hz]; omega)⟩
          · refine tr_hard rfl (by rfl) (fun K hK => ?_)
            refine wp_make_rep _ _ _ 28 rfl E_ints (0 : Int) own0_int l.length (by omega) rfl rfl ?_
            intro wM hownM hbM hzM
            have ZM : Hid (wM.heap.size = wr.heap.size + 1 + 1) := Lib.hid (by simpa using hzM)
            clear hzM
            have hq2 := hq1.step hbM
            have HA := Lib.hid (below_blk hbM HA.out)
            have OM : Hid (OwnSl [wr.heap.size + 1] wM (.slice (some ⟨wr.heap.size + 1, 0, none⟩) l.length l.length) (List.replicate l.length (0 : Int))) := by simpa [Hid] using hownM
            clear hownM
            refine hK _ _ ⟨⟨cellL hq2.bel c2b, cellL hq2.bel f0, cellL hq2.bel f1⟩, ?_⟩
            (repeat (first | (apply tr_skip rfl (by rfl); try simp only [Act.put, List.setIfInBounds_toArray, List.set_cons_zero, List.set_cons_succ]) | (apply tr_float rfl (by rfl); (· (intro w' hS; go_simp <;> with_reducible rfl)); (try simp only [Act.put, List.setIfInBounds_toArray, List.set_cons_zero, List.set_cons_succ]))))
            refine tr_hard rfl (by rfl) (fun K hK => ?_)
            go_wp2_with (go_at_call 85; refine (l00Own_c El _ _ (Rd.mono RE.out hq2.bel) (by omega)).mono ?_; rintro e wC ⟨bC, rfl, hAC, hbC⟩)
            have zC : wM.heap.size ≤ wC.heap.size := by have := hbC.size; simpa using this
            have hq3 := hq2.step hbC
            have OM := Lib.hid (ownSl_mono OM.out hbC)
            have HA := Lib.hid (below_blk hbC HA.out)
            obtain ⟨mC, nC, rfl, _⟩ := Acc.len hAC
            obtain ⟨psC, hoC, hnC, hkC⟩ := hAC.ownSl
            have IC : Hid (Ip (fun z => wM.heap.size ≤ z ∧ z < wC.heap.size) wC [.slice mC El.length nC] El) := ⟨psC, ⟨_, rfl, hoC⟩, hnC, by simpa using hkC⟩
            clear hoC hnC hkC hAC
            refine ⟨⟨cellL hq3.bel c2b, cellL hq3.bel f0, cellL hq3.bel f1⟩, ?_⟩
            (repeat (first | (apply tr_skip rfl (by rfl); try simp only [Act.put, List.setIfInBounds_toArray, List.set_cons_zero, List.set_cons_succ]) | (apply tr_float rfl (by rfl); (· (intro w' hS; go_simp <;> with_reducible rfl)); (try simp only [Act.put, List.setIfInBounds_toArray, List.set_cons_zero, List.set_cons_succ]))))
            have k0 : wC.cell? ⟨wr.heap.size, 0, none⟩ = some (.slice none 0 0) := cell_at_block HA.out
            have k1 : wC.cell? ⟨wr.heap.size, 1, none⟩ = some (.int .i64 0) := cell_at_block HA.out
            have k2 : wC.cell? ⟨wr.heap.size, 2, none⟩ = some (.slice none 0 0) := cell_at_block HA.out
            have y0 : wC.frozen? ⟨wr.heap.size, 0, none⟩ = false := free_at_block HA.out
            have y1 : wC.frozen? ⟨wr.heap.size, 1, none⟩ = false := free_at_block HA.out
            have y2 : wC.frozen? ⟨wr.heap.size, 2, none⟩ = false := free_at_block HA.out
            refine tr_last rfl (by rfl) (fun K hK => ?_)
            go_wp2_with fail
            refine tr_nil (NoPanic.normal ?_)
            go_wp2_with fail
            go_meet
            case rel =>
              have zM := ZM.out
              have ho := (((OnlyAt.refl [wr.heap.size] wC).setCell (p := ⟨wr.heap.size, 0, none⟩) (by simp) (.slice mC El.length nC)).setCell (p := ⟨wr.heap.size, 1, none⟩) (by simp) (.int .i64 Er)).setCell (p := ⟨wr.heap.size, 2, none⟩) (by simp) (.slice (some ⟨wr.heap.size + 1, 0, none⟩) l.length l.length)
              have hz := ho.size
              exact ⟨wr.heap.size, wr.heap.size + 1, mC, nC, rfl, hq3.bel.trans (ho.below (by simp <;> omega)), heap_setCell_at _ _ _ _ _ _ _ (heap_setCell_at _ _ _ _ _ _ _ (heap_setCell_at _ _ _ _ _ _ _ HA.out)), (IC.out.frame (fun z h1 h2 => ho.block z (by simp <;> omega))).wk (fun z h => by rw [hz]; omega), ownSl_only OM.out ho (by simp <;> omega), by refine ⟨?_, ?_, ?_, ?_, ?_⟩ <;> first | omega | (rw [hz]; omega)⟩
      case rest =>
        obtain ⟨g, gm, mC, nC, rfl, hbx, hcg, hic, hom, hbd⟩ := hcut
        have hbd2 := hbd.out
        have q2 : wc.cell? ⟨g, 2, none⟩ = some (.slice (some ⟨gm, 0, none⟩) l.length l.length) := cell_at_block hcg.out
        obtain ⟨g', o', c', hv, -, hc, hf, -, hset⟩ := own_int_set hom.out j (by simpa using hlt)
        simp only [Value.slice.injEq, Option.some.injEq, Addr.mk.injEq, and_true] at hv
        obtain ⟨⟨rfl, rfl⟩, -, rfl⟩ := hv
        rw [Nat.zero_add] at hc hf hset
        have HBY := Lib.hid (hset 1 ⟨by decide, by decide⟩)
        clear hset
        have hcg1 : Hid ((wc.setCell ⟨gm, j, none⟩ (.int .i64 1)).heap[g]? = some (.cells #[.slice mC El.length nC, .int .i64 Er, .slice (some ⟨gm, 0, none⟩) l.length l.length] 66 (0, 0))) := (Below.heap_setCell _ _ _ _ (by simp; omega)).trans hcg.out
        have hic1 : Hid (Ip (fun z => wr.heap.size ≤ z ∧ z < wc.heap.size ∧ z ≠ g ∧ z ≠ gm) (wc.setCell ⟨gm, j, none⟩ (.int .i64 1)) [.slice mC El.length nC] El) := hic.out.frame (fun z h1 h2 => Below.heap_setCell _ _ _ _ (by simp; omega))
        have hbx1 := Lib.hid (hbx.out.setCell (show wr.heap.size ≤ (⟨gm, j, none⟩ : Addr).block by simp only; omega) (.int .i64 1))
        have hz1 : (wc.setCell ⟨gm, j, none⟩ (.int .i64 1)).heap.size = wc.heap.size := by simp [World.setCell]
        have HZ1 := Lib.hid hz1
        clear hz1
        have k0 : (wc.setCell ⟨gm, j, none⟩ (.int .i64 1)).cell? ⟨g, 0, none⟩ = some (.slice mC El.length nC) := cell_at_block hcg1.out
        have k1 : (wc.setCell ⟨gm, j, none⟩ (.int .i64 1)).cell? ⟨g, 1, none⟩ = some (.int .i64 Er) := cell_at_block hcg1.out
        have k2 : (wc.setCell ⟨gm, j, none⟩ (.int .i64 1)).cell? ⟨g, 2, none⟩ = some (.slice (some ⟨gm, 0, none⟩) l.length l.length) := cell_at_block hcg1.out
        have hwc : wr.heap.size ≤ wc.heap.size := hbx.out.size
        go_upto_region 7 with fail
        generalize hW1 : wc.setCell ⟨gm, j, none⟩ (.int .i64 1) = W1 at *
        clear hW1
        have hbA := belowA W1 (.cells #[.slice mC El.length nC, .int .i64 Er, .slice (some ⟨gm, 0, none⟩) l.length l.length] 66)
        have IY2 : Ip (fun k => k = gm) (W1.alloc (.cells #[.slice mC El.length nC, .int .i64 Er, .slice (some ⟨gm, 0, none⟩) l.length l.length] 66)) [.int .i64 Er, .slice (some ⟨gm, 0, none⟩) l.length l.length] ((Er, (List.replicate l.length (0 : Int)).set j 1) : Int × List Int) :=
          ⟨[] ++ [gm], mk_own ⟨rfl, rfl, hIr⟩ ⟨_, rfl, ownSl_mono HBY.out hbA⟩, by simp, by simp⟩
        have IY := Lib.hid (ip_cons (C := fun k => wr.heap.size ≤ k) (hic1.out.mono hbA) IY2 (fun k h1 h2 => by omega) (fun k h => by omega) (fun k h => by omega))
        have hacA := Lib.hid (hac.out.mono (hbx1.out.trans (hbA.mono (by rw [HZ1.out]; exact hwc))))
        clear IY2
        have HBL := Lib.hid (heap_alloc_new W1 (.cells #[.slice mC El.length nC, .int .i64 Er, .slice (some ⟨gm, 0, none⟩) l.length l.length] 66))
        go_wp2_with (refine wpList_append_acc _ rfl _ _ _ rfl E_srows rfl hacA.out IY.out hsw (by simp [HZ1.out]; omega) ⟨W1.heap.size, 0, none⟩ 1 rfl (fun z u hz => by
          match z with
          | 0 => simp at hz; subst hz; exact cell_at_block HBL.out
          | 1 => simp at hz; subst hz; exact cell_at_block HBL.out
          | 2 => simp at hz; subst hz; exact cell_at_block HBL.out
          | z + 3 => simp at hz) (by rw [hlj]; omega) ?_; intro a8 c8 w8 hA8 hB8 hK8)
        try rw [hlj] at hA8
        rw [← hstep.out] at hA8
        obtain ⟨g8, c9, e8, _⟩ := hA8.form' (by rw [hlj1]; omega)
        simp only [Value.slice.injEq] at e8
        obtain ⟨rfl, -, rfl⟩ := e8
        go_roundw
        case rel =>
          exact ⟨j + 1, g8, c8, hlt, by go_num, rfl, (hbl.out.trans ((hbx1.out.trans (hbA.mono (by rw [HZ1.out]; exact hwc))).mono hsw)).trans hB8, hA8⟩
        case measure => simp [intOf]; omega
    · obtain rfl : j = l.length := by omega
      go_wp2_with fail
      go_ret
      have h := hac.out
      rw [List.take_length] at h
      exact ⟨_, _, rfl, h.fresh, hbl.out⟩

end Go.Proofs.YthceklaoikeokaaGreatDoor
