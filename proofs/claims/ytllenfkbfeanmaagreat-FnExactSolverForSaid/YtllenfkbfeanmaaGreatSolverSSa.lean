/-
  CONTRACT: the way for a template, the reference's side.
-/
import Derived.Test.YtllenfkbfeanmaaGreatSolverFSa
import Derived.Test.YtllenfkbfeanmaaGreatThirdSa
import Derived.Test.YtllenfkbfeanmaaGreatMarkOSa
namespace Go.Proofs.YtllenfkbfeanmaaGreat
open Go.RowKit Go.Shelf Go.IntWalk
open Rep (Rd Own sz)
set_option linter.unusedSimpArgs false
set_option linter.unusedVariables false

theorem broken_neg {t : Tmpl} {f : OpT} : (brokenF t f == -1) = decide (brokenF t f < 0) := by
  have h := firstI_lo (fun r => !keepsP t.1 f r) t.2
  unfold brokenF
  by_cases h2 : firstI (fun r => !keepsP t.1 f r) t.2 < 0
  · have : firstI (fun r => !keepsP t.1 f r) t.2 = -1 := by omega
    simp [this]
  · have : firstI (fun r => !keepsP t.1 f r) t.2 ≠ -1 := by omega
    simp [this, h2]
theorem waysT_some {t : Tmpl} {k : Nat} (h1 : t.2.all (fun r => decide (0 < r.2.length)) = true) (h2 : constW t = some k) : waysT t = (constOp t.1 (k : Int), 1, 0) := by
  unfold waysT fullT
  rw [if_pos h1, h2]
theorem waysT_none {t : Tmpl} (h1 : t.2.all (fun r => decide (0 < r.2.length)) = true) (h2 : constW t = none) : waysT t = waysF t := by
  unfold waysT fullT
  rw [if_pos h1, h2]
def nzR (r : RelT) : Bool := decide (0 < r.2.length)
theorem nz_take {rs : List RelT} {j : Nat} (h : j < rs.length) : (rs.take (j + 1)).all nzR = ((rs.take j).all nzR && decide ((0 : Int) < ((rs.getD j (0, [])).2.length : Int))) := by
  rw [List.take_succ_eq_append_getElem h, List.all_append]
  simp [nzR, List.getD, h]
set_option maxRecDepth 100000 in
set_option maxHeartbeats 16000000 in
theorem l06Solver_c (t : Tmpl) (tp : Nat) (t0 t1 : Value) (w : World) (ht : Rd w [t0, t1] t) (e0 : w.cell? ⟨tp, 0, none⟩ = some t0) (e1 : w.cell? ⟨tp, 1, none⟩ = some t1) (hok : tmplOk t = true) :
    Calls Tryz.prog 57 #[.pointer (some ⟨tp, 0, none⟩)] w fun e w' => ∃ v0 v1, e = .returned (.tuple #[.int .i64 (waysT t).2.1, .agg #[v0, v1], .int .i64 (waysT t).2.2]) ∧ Fresh w.heap.size w' [v0, v1] (waysT t).1 ∧ Below w.heap.size w w' := by
  have HT := Lib.hid ht
  obtain ⟨FF, hFF⟩ : ∃ FF, FF = waysT t := ⟨_, rfl⟩
  rw [← hFF]
  have HF2 := Lib.hid hFF
  clear hFF
  have HOK := Lib.hid hok
  obtain ⟨size, rs⟩ := t
  have hs : 1 ≤ size ∧ size ≤ 4 := (tmplOk_get hok).1
  have hrl : rs.length ≤ 6 := (tmplOk_get hok).2.1
  have HRS := Lib.hid (show ∀ r, r ∈ rs → relOk size r = true from (tmplOk_get hok).2.2)
  have zt := rd_cons rfl ht
  obtain ⟨rfl, hI⟩ := rd_i1 zt.1
  obtain ⟨at0, ct0, rfl, _⟩ := rd_list zt.2
  have htpl := World.block_lt_of_cell? w _ e0
  simp only at htpl
  obtain ⟨SZ, rfl⟩ : ∃ SZ : Nat, size = (SZ : Int) := ⟨size.toNat, by omega⟩
  clear ht zt hok
  have e0_ := cellL (St.start w).bel e0
  clear e0_
  have e0_ := cellL (St.start w).bel e0
  have e1_ := cellL (St.start w).bel e1
  have hs1 := (St.start w).alloc #[.int .i64 0, .slice none 0 0] 34 (n := w.heap.size) (by simp)
  clear e0_ e1_
  have k0_0 := hs1.cellAt 0 rfl 0 rfl
  have k0_1 := hs1.cellAt 0 rfl 1 rfl
  have e0_ := cellL hs1.bel e0
  have e1_ := cellL hs1.bel e1
  go_enter Tryz.func57, Tryz.ntmps57
  go_upto_region 3 with fail
  have hz_wS : w.heap.size + 1 ≤ ((w.alloc (.cells #[.int .i64 0, .slice none 0 0] 34))).heap.size := by simp
  generalize hgen_wS : (w.alloc (.cells #[.int .i64 0, .slice none 0 0] 34)) = wS at *
  clear hgen_wS
  go_wp2_with fail
  go_loop [5, 6] (fun f i => ∃ j : Nat, j ≤ rs.length ∧ i = .int .i64 j ∧ f = .bool ((rs.take j).all nzR)) (fun _ i => rs.length - (intOf i).toNat)
  case atStart => exact ⟨0, Nat.zero_le _, rfl, rfl⟩
  case round =>
    obtain ⟨j, hj, rfl, rfl⟩ := hrel
    by_cases hlt : j < rs.length
    · have hltI : (j : Int) < rs.length := by omega
      obtain ⟨b1, o1, aS, cS, rfl, q0, q1, hTS⟩ := tmpl_at (Rd.mono HT.out hs1.bel) hlt
      have HZ := Lib.hid (nz_take hlt)
      clear hTS q0
      cases hz : (rs.take j).all nzR with
      | true =>
        rw [hz, Bool.true_and] at HZ
        clear hz
        generalize (rs.getD j (0, [])).2.length = LJ at *
        by_cases hL : (0 : Int) < LJ
        · have HZ2 := Lib.hid (HZ.out.trans (decide_eq_true hL))
          clear HZ
          go_wp2_with fail
          go_round
          case rel => exact ⟨j + 1, hlt, by go_num, by rw [HZ2.out]; congr 1; simp; omega⟩
          case measure => simp [intOf]; omega
        · have HZ2 := Lib.hid (HZ.out.trans (decide_eq_false hL))
          clear HZ
          go_wp2_with fail
          go_round
          case rel => exact ⟨j + 1, hlt, by go_num, by rw [HZ2.out]; congr 1; simp; omega⟩
          case measure => simp [intOf]; omega
      | false =>
        rw [hz, Bool.false_and] at HZ
        clear hz q1
        go_wp2_with fail
        go_round
        case rel => exact ⟨j + 1, hlt, by go_num, by rw [HZ.out]⟩
        case measure => simp [intOf]; omega
    · obtain rfl : j = rs.length := by omega
      have hnl : ¬ ((rs.length : Int) < rs.length) := by omega
      rw [List.take_length]
      cases hfull : rs.all nzR with
      | false =>
        have HW := Lib.hid (show FF = waysF ((SZ : Int), rs) from HF2.out.trans (by unfold waysT; rw [if_neg (by unfold fullT; rw [show (fun (r : RelT) => decide (0 < r.2.length)) = nzR from rfl, hfull]; decide)]))
        clear HF2 hfull
        go_wp2_with fail
        go_loop [7] (fun i => i = .int .i64 0) (fun _ => 0)
        case atStart => rfl
        case round =>
          subst hrel
          have hs0 : (0 : Int) < SZ := by omega
          go_wp2_with fail
          refine (sFirst_c ((SZ : Int), rs) 2 6 (semiB (SZ : Int)) _ _ _ (Rd.mono HT.out hs1.bel) (by omega) (by omega) (fun f pb v0 v1 w h c0 c1 ok => l02KindS_c (SZ : Int) f pb 0 v0 v1 w h c0 c1 ok)).mono ?_
          rintro e wF ⟨u0, u1, rfl, frF, hbF⟩
          have hz_wF : wS.heap.size ≤ wF.heap.size := by have h9 := hbF.size; (try simp at h9); omega
          have hs2 := hs1.step hbF
          clear k0_0 k0_1 e0_ e1_
          have k0_0 := hs2.cellAt 0 rfl 0 rfl
          have k0_1 := hs2.cellAt 0 rfl 1 rfl
          have e0_ := cellL hs2.bel e0
          have e1_ := cellL hs2.bel e1
          have HW2 := Lib.hid (show FF = if (firstF ((SZ : Int), rs) 2 (semiB (SZ : Int))).1 = 0 then ((firstF ((SZ : Int), rs) 2 (semiB (SZ : Int))).2, 2, 0) else waysM ((SZ : Int), rs) from HW.out)
          clear HW
          generalize firstF ((SZ : Int), rs) 2 (semiB (SZ : Int)) = F2 at *
          obtain ⟨c2, a2, l2⟩ := F2
          simp only at frF HW2
          have zf := rd_cons rfl frF.rd
          obtain ⟨rfl, _⟩ := rd_i1 zf.1
          obtain ⟨af, cf, rfl, _⟩ := rd_list zf.2
          have HFR := Lib.hid (show Ip (fun z => w.heap.size + 1 ≤ z) _ [.int .i64 a2, .slice af l2.length cf] ((a2, l2) : OpT) from frF.lower (lo' := w.heap.size + 1) (by (try simp); omega))
          clear frF zf
          by_cases hc2 : c2 = 0
          · obtain rfl : c2 = 0 := hc2
            obtain rfl : FF = ((a2, l2), 2, 0) := HW2.out.trans (if_pos rfl)
            clear HW2
            go_upto_region 13 with fail
            have hs3 := hs2.alloc #[.int .i64 a2, .slice af l2.length cf] 34 (n := wF.heap.size) (by simp)
            have HFR_4 := Lib.hid (Ip.mono HFR.out (belowA _ (.cells #[.int .i64 a2, .slice af l2.length cf] 34)))
            clear HFR
            clear k0_0 k0_1 e0_ e1_
            have k0_0 := hs3.cellAt 0 rfl 0 rfl
            have k0_1 := hs3.cellAt 0 rfl 1 rfl
            have k1_0 := hs3.cellAt 1 rfl 0 rfl
            have k1_1 := hs3.cellAt 1 rfl 1 rfl
            have e0_ := cellL hs3.bel e0
            have e1_ := cellL hs3.bel e1
            clear HT
            go_upto_region 14 with fail
            refine wp_region_noPanic (wp_region_tree4 (fun w' => w'.cell? ⟨wF.heap.size, 0, none⟩ = some (.int .i64 a2) ∧ w'.cell? ⟨wF.heap.size, 1, none⟩ = some (.slice af l2.length cf) ∧ w'.cell? ⟨tp, 0, none⟩ = some (.int .i64 SZ) ∧ w'.cell? ⟨tp, 1, none⟩ = some (.slice at0 rs.length ct0)) (.float 0 (.float 1 (.hard 2 (.float 3 .nil)))) (by kernel_rfl) (by kernel_rfl) (by kernel_rfl) rfl ?_ (fun _ _ _ _ _ h => h) ?_)
            · exact ⟨(hs3.drew).cellAt 1 rfl 0 rfl, (hs3.drew).cellAt 1 rfl 1 rfl, cellL (hs3.drew).bel e0, cellL (hs3.drew).bel e1⟩
            have hs5 := hs3.drew
            have HFR_6 := Lib.hid (Ip.mono HFR_4.out (belowD _))
            clear HFR_4
            clear k0_0 k0_1 k1_0 k1_1 e0_ e1_
            have hz_wd7 : wF.heap.size + 1 ≤ ((wF.alloc (.cells #[.int .i64 a2, .slice af l2.length cf] 34)).drew).heap.size := by simp
            generalize hgen_wd7 : (wF.alloc (.cells #[.int .i64 a2, .slice af l2.length cf] 34)).drew = wd7 at *
            have HG_wd7 := Lib.hid hgen_wd7
            clear hgen_wd7
            (repeat (first | (apply t4_skip rfl (by rfl); try simp only [Act.put, List.setIfInBounds_toArray, List.set_cons_zero, List.set_cons_succ]) | (apply t4_float rfl (by rfl); (· (intro w' hS; go_simp <;> with_reducible rfl)); (try simp only [Act.put, List.setIfInBounds_toArray, List.set_cons_zero, List.set_cons_succ]))))
            refine t4_hard rfl (by rfl) (fun K hK => ?_)
            have k0_0 := hs5.cellAt 0 rfl 0 rfl
            have k0_1 := hs5.cellAt 0 rfl 1 rfl
            have k1_0 := hs5.cellAt 1 rfl 0 rfl
            have k1_1 := hs5.cellAt 1 rfl 1 rfl
            have e0_ := cellL hs5.bel e0
            have e1_ := cellL hs5.bel e1
            have f0_0 := hs5.freeAt 0 rfl 0
            have f0_1 := hs5.freeAt 0 rfl 1
            go_wp2_with fail
            have hs8 := hs5.set (p := []) (by simp <;> omega) 0 (.int .i64 a2)
            have hs9 := hs8.set (p := []) (by simp <;> omega) 1 (.slice af l2.length cf)
            have HFR_10 := Lib.hid (Ip.setCell (b := w.heap.size) (o := 1) (Ip.setCell (b := w.heap.size) (o := 0) HFR_6.out (.int .i64 a2) (by intro hA9; (try simp only at hA9); omega)) (.slice af l2.length cf) (by intro hA9; (try simp only at hA9); omega))
            clear HFR_6
            clear k0_0 k0_1 k1_0 k1_1 e0_ e1_
            have hz_wP : wd7.heap.size ≤ (((wd7.setCell ⟨w.heap.size, 0, none⟩ (.int .i64 a2)).setCell ⟨w.heap.size, 1, none⟩ (.slice af l2.length cf))).heap.size := by simp [World.setCell]
            generalize hgen_wP : ((wd7.setCell ⟨w.heap.size, 0, none⟩ (.int .i64 a2)).setCell ⟨w.heap.size, 1, none⟩ (.slice af l2.length cf)) = wP at *
            clear hgen_wP
            have k0_0 := hs9.cellAt 0 rfl 0 rfl
            have k0_1 := hs9.cellAt 0 rfl 1 rfl
            have k1_0 := hs9.cellAt 1 rfl 0 rfl
            have k1_1 := hs9.cellAt 1 rfl 1 rfl
            have e0_ := cellL hs9.bel e0
            have e1_ := cellL hs9.bel e1
            refine ⟨⟨hs9.cellAt 1 rfl 0 rfl, hs9.cellAt 1 rfl 1 rfl, cellL hs9.bel e0, cellL hs9.bel e1⟩, ?_⟩
            (repeat (first | (apply t4_skip rfl (by rfl); try simp only [Act.put, List.setIfInBounds_toArray, List.set_cons_zero, List.set_cons_succ]) | (apply t4_float rfl (by rfl); (· (intro w' hS; go_simp <;> with_reducible rfl)); (try simp only [Act.put, List.setIfInBounds_toArray, List.set_cons_zero, List.set_cons_succ]))))
            clear k0_0 k0_1 k1_0 k1_1 e0_ e1_
            have k0_0 := hs9.cellAt 0 rfl 0 rfl
            have k0_1 := hs9.cellAt 0 rfl 1 rfl
            have k1_0 := hs9.cellAt 1 rfl 0 rfl
            have k1_1 := hs9.cellAt 1 rfl 1 rfl
            have e0_ := cellL hs9.bel e0
            have e1_ := cellL hs9.bel e1
            clear k0_0 k0_1 k1_0 k1_1 e0_ e1_
            have k0_0 := hs9.cellAt 0 rfl 0 rfl
            have k0_1 := hs9.cellAt 0 rfl 1 rfl
            have k1_0 := hs9.cellAt 1 rfl 0 rfl
            have k1_1 := hs9.cellAt 1 rfl 1 rfl
            have e0_ := cellL hs9.bel e0
            have e1_ := cellL hs9.bel e1
            refine t4_nil (NoPanic.normal ?_)
            have x0 := (hs9.cellAt 0 rfl 0 rfl)
            have x1 := (hs9.cellAt 0 rfl 1 rfl)
            go_wp2_with fail
            exact bodyPost_ret (v := .tuple #[.int .i64 2, .agg #[.int .i64 a2, .slice af l2.length cf], .int .i64 0]) (by simp [results, Tryz.results57, go_sem, x0, x1]) rfl ⟨_, _, rfl, HFR_10.out.fresh (fun z hz => by (try simp only at hz); omega), hs9.bel⟩
          · have hcq : (c2 == 0) = false := by simpa using hc2
            have HW3 := Lib.hid (show FF = waysM ((SZ : Int), rs) from HW2.out.trans (if_neg hc2))
            clear HW2 hc2 HFR
            go_upto_region 13 with fail
            have hs11 := hs2.alloc #[.int .i64 a2, .slice af l2.length cf] 34 (n := wF.heap.size) (by simp)
            clear k0_0 k0_1 e0_ e1_
            have k0_0 := hs11.cellAt 0 rfl 0 rfl
            have k0_1 := hs11.cellAt 0 rfl 1 rfl
            have k1_0 := hs11.cellAt 1 rfl 0 rfl
            have k1_1 := hs11.cellAt 1 rfl 1 rfl
            have e0_ := cellL hs11.bel e0
            have e1_ := cellL hs11.bel e1
            go_wp2_with fail
            refine (sFirst_c ((SZ : Int), rs) 3 7 (majB (SZ : Int)) _ _ _ (Rd.mono HT.out hs11.bel) (by omega) (by omega) (fun f pb v0 v1 w h c0 c1 ok => l02KindM_c (SZ : Int) f pb 0 v0 v1 w h c0 c1 ok)).mono ?_
            rintro e wG ⟨u0, u1, rfl, frG, hbG⟩
            have hz_wG : wF.heap.size + 1 ≤ wG.heap.size := by have h9 := hbG.size; (try simp at h9); omega
            have hs12 := hs11.step hbG
            clear k0_0 k0_1 k1_0 k1_1 e0_ e1_
            have k0_0 := hs12.cellAt 0 rfl 0 rfl
            have k0_1 := hs12.cellAt 0 rfl 1 rfl
            have k1_0 := hs12.cellAt 1 rfl 0 rfl
            have k1_1 := hs12.cellAt 1 rfl 1 rfl
            have e0_ := cellL hs12.bel e0
            have e1_ := cellL hs12.bel e1
            have HW4 := Lib.hid (show FF = if (firstF ((SZ : Int), rs) 3 (majB (SZ : Int))).1 = 0 then ((firstF ((SZ : Int), rs) 3 (majB (SZ : Int))).2, 3, 0) else waysE ((SZ : Int), rs) from HW3.out)
            clear HW3
            generalize firstF ((SZ : Int), rs) 3 (majB (SZ : Int)) = F3 at *
            obtain ⟨c3, a3, l3⟩ := F3
            simp only at frG HW4
            have zg := rd_cons rfl frG.rd
            obtain ⟨rfl, _⟩ := rd_i1 zg.1
            obtain ⟨ag, cg, rfl, _⟩ := rd_list zg.2
            have HFR := Lib.hid (show Ip (fun z => w.heap.size + 1 ≤ z) _ [.int .i64 a3, .slice ag l3.length cg] ((a3, l3) : OpT) from frG.lower (lo' := w.heap.size + 1) (by (try simp); omega))
            clear frG zg
            by_cases hc3 : c3 = 0
            · obtain rfl : c3 = 0 := hc3
              obtain rfl : FF = ((a3, l3), 3, 0) := HW4.out.trans (if_pos rfl)
              clear HW4
              go_upto_region 16 with fail
              have hs13 := hs12.alloc #[.int .i64 a3, .slice ag l3.length cg] 34 (n := wG.heap.size) (by simp)
              have HFR_14 := Lib.hid (Ip.mono HFR.out (belowA _ (.cells #[.int .i64 a3, .slice ag l3.length cg] 34)))
              clear HFR
              clear k0_0 k0_1 k1_0 k1_1 e0_ e1_
              have k0_0 := hs13.cellAt 0 rfl 0 rfl
              have k0_1 := hs13.cellAt 0 rfl 1 rfl
              have k1_0 := hs13.cellAt 1 rfl 0 rfl
              have k1_1 := hs13.cellAt 1 rfl 1 rfl
              have k2_0 := hs13.cellAt 2 rfl 0 rfl
              have k2_1 := hs13.cellAt 2 rfl 1 rfl
              have e0_ := cellL hs13.bel e0
              have e1_ := cellL hs13.bel e1
              clear HT
              go_upto_region 17 with fail
              refine wp_region_noPanic (wp_region_tree4 (fun w' => w'.cell? ⟨wF.heap.size, 0, none⟩ = some (.int .i64 a2) ∧ w'.cell? ⟨wF.heap.size, 1, none⟩ = some (.slice af l2.length cf) ∧ w'.cell? ⟨wG.heap.size, 0, none⟩ = some (.int .i64 a3) ∧ w'.cell? ⟨wG.heap.size, 1, none⟩ = some (.slice ag l3.length cg) ∧ w'.cell? ⟨tp, 0, none⟩ = some (.int .i64 SZ) ∧ w'.cell? ⟨tp, 1, none⟩ = some (.slice at0 rs.length ct0)) (.float 0 (.float 1 (.hard 2 (.float 3 .nil)))) (by kernel_rfl) (by kernel_rfl) (by kernel_rfl) rfl ?_ (fun _ _ _ _ _ h => h) ?_)
              · exact ⟨(hs13.drew).cellAt 1 rfl 0 rfl, (hs13.drew).cellAt 1 rfl 1 rfl, (hs13.drew).cellAt 2 rfl 0 rfl, (hs13.drew).cellAt 2 rfl 1 rfl, cellL (hs13.drew).bel e0, cellL (hs13.drew).bel e1⟩
              have hs15 := hs13.drew
              have HFR_16 := Lib.hid (Ip.mono HFR_14.out (belowD _))
              clear HFR_14
              clear k0_0 k0_1 k1_0 k1_1 k2_0 k2_1 e0_ e1_
              have hz_wd17 : wG.heap.size + 1 ≤ ((wG.alloc (.cells #[.int .i64 a3, .slice ag l3.length cg] 34)).drew).heap.size := by simp
              generalize hgen_wd17 : (wG.alloc (.cells #[.int .i64 a3, .slice ag l3.length cg] 34)).drew = wd17 at *
              have HG_wd17 := Lib.hid hgen_wd17
              clear hgen_wd17
              (repeat (first | (apply t4_skip rfl (by rfl); try simp only [Act.put, List.setIfInBounds_toArray, List.set_cons_zero, List.set_cons_succ]) | (apply t4_float rfl (by rfl); (· (intro w' hS; go_simp <;> with_reducible rfl)); (try simp only [Act.put, List.setIfInBounds_toArray, List.set_cons_zero, List.set_cons_succ]))))
              refine t4_hard rfl (by rfl) (fun K hK => ?_)
              have k0_0 := hs15.cellAt 0 rfl 0 rfl
              have k0_1 := hs15.cellAt 0 rfl 1 rfl
              have k1_0 := hs15.cellAt 1 rfl 0 rfl
              have k1_1 := hs15.cellAt 1 rfl 1 rfl
              have k2_0 := hs15.cellAt 2 rfl 0 rfl
              have k2_1 := hs15.cellAt 2 rfl 1 rfl
              have e0_ := cellL hs15.bel e0
              have e1_ := cellL hs15.bel e1
              have f0_0 := hs15.freeAt 0 rfl 0
              have f0_1 := hs15.freeAt 0 rfl 1
              go_wp2_with fail
              have hs18 := hs15.set (p := []) (by simp <;> omega) 0 (.int .i64 a3)
              have hs19 := hs18.set (p := []) (by simp <;> omega) 1 (.slice ag l3.length cg)
              have HFR_20 := Lib.hid (Ip.setCell (b := w.heap.size) (o := 1) (Ip.setCell (b := w.heap.size) (o := 0) HFR_16.out (.int .i64 a3) (by intro hA9; (try simp only at hA9); omega)) (.slice ag l3.length cg) (by intro hA9; (try simp only at hA9); omega))
              clear HFR_16
              clear k0_0 k0_1 k1_0 k1_1 k2_0 k2_1 e0_ e1_
              have hz_wP : wd17.heap.size ≤ (((wd17.setCell ⟨w.heap.size, 0, none⟩ (.int .i64 a3)).setCell ⟨w.heap.size, 1, none⟩ (.slice ag l3.length cg))).heap.size := by simp [World.setCell]
              generalize hgen_wP : ((wd17.setCell ⟨w.heap.size, 0, none⟩ (.int .i64 a3)).setCell ⟨w.heap.size, 1, none⟩ (.slice ag l3.length cg)) = wP at *
              clear hgen_wP
              have k0_0 := hs19.cellAt 0 rfl 0 rfl
              have k0_1 := hs19.cellAt 0 rfl 1 rfl
              have k1_0 := hs19.cellAt 1 rfl 0 rfl
              have k1_1 := hs19.cellAt 1 rfl 1 rfl
              have k2_0 := hs19.cellAt 2 rfl 0 rfl
              have k2_1 := hs19.cellAt 2 rfl 1 rfl
              have e0_ := cellL hs19.bel e0
              have e1_ := cellL hs19.bel e1
              refine ⟨⟨hs19.cellAt 1 rfl 0 rfl, hs19.cellAt 1 rfl 1 rfl, hs19.cellAt 2 rfl 0 rfl, hs19.cellAt 2 rfl 1 rfl, cellL hs19.bel e0, cellL hs19.bel e1⟩, ?_⟩
              (repeat (first | (apply t4_skip rfl (by rfl); try simp only [Act.put, List.setIfInBounds_toArray, List.set_cons_zero, List.set_cons_succ]) | (apply t4_float rfl (by rfl); (· (intro w' hS; go_simp <;> with_reducible rfl)); (try simp only [Act.put, List.setIfInBounds_toArray, List.set_cons_zero, List.set_cons_succ]))))
              clear k0_0 k0_1 k1_0 k1_1 k2_0 k2_1 e0_ e1_
              have k0_0 := hs19.cellAt 0 rfl 0 rfl
              have k0_1 := hs19.cellAt 0 rfl 1 rfl
              have k1_0 := hs19.cellAt 1 rfl 0 rfl
              have k1_1 := hs19.cellAt 1 rfl 1 rfl
              have k2_0 := hs19.cellAt 2 rfl 0 rfl
              have k2_1 := hs19.cellAt 2 rfl 1 rfl
              have e0_ := cellL hs19.bel e0
              have e1_ := cellL hs19.bel e1
              clear k0_0 k0_1 k1_0 k1_1 k2_0 k2_1 e0_ e1_
              have k0_0 := hs19.cellAt 0 rfl 0 rfl
              have k0_1 := hs19.cellAt 0 rfl 1 rfl
              have k1_0 := hs19.cellAt 1 rfl 0 rfl
              have k1_1 := hs19.cellAt 1 rfl 1 rfl
              have k2_0 := hs19.cellAt 2 rfl 0 rfl
              have k2_1 := hs19.cellAt 2 rfl 1 rfl
              have e0_ := cellL hs19.bel e0
              have e1_ := cellL hs19.bel e1
              refine t4_nil (NoPanic.normal ?_)
              have x0 := (hs19.cellAt 0 rfl 0 rfl)
              have x1 := (hs19.cellAt 0 rfl 1 rfl)
              go_wp2_with fail
              exact bodyPost_ret (v := .tuple #[.int .i64 3, .agg #[.int .i64 a3, .slice ag l3.length cg], .int .i64 0]) (by simp [results, Tryz.results57, go_sem, x0, x1]) rfl ⟨_, _, rfl, HFR_20.out.fresh (fun z hz => by (try simp only at hz); omega), hs19.bel⟩
            · have hcq3 : (c3 == 0) = false := by simpa using hc3
              have HW5 := Lib.hid (show FF = waysE ((SZ : Int), rs) from HW4.out.trans (if_neg hc3))
              clear HW4 hc3 HFR
              go_upto_region 16 with fail
              have hs21 := hs12.alloc #[.int .i64 a3, .slice ag l3.length cg] 34 (n := wG.heap.size) (by simp)
              clear k0_0 k0_1 k1_0 k1_1 e0_ e1_
              have k0_0 := hs21.cellAt 0 rfl 0 rfl
              have k0_1 := hs21.cellAt 0 rfl 1 rfl
              have k1_0 := hs21.cellAt 1 rfl 0 rfl
              have k1_1 := hs21.cellAt 1 rfl 1 rfl
              have k2_0 := hs21.cellAt 2 rfl 0 rfl
              have k2_1 := hs21.cellAt 2 rfl 1 rfl
              have e0_ := cellL hs21.bel e0
              have e1_ := cellL hs21.bel e1
              go_wp2_with fail
              refine (l07Prime_c (SZ : Int) _).mono ?_
              rintro e w22 ⟨rfl, rfl⟩
              cases hpr : isPr (SZ : Int) with
              | false =>
                obtain rfl : FF = ((0, []), 0, 6) := HW5.out.trans (by unfold waysE; rw [if_neg (by simp only; rw [hpr]; simp)])
                clear HW5 hpr
                have f0_0 := hs21.freeAt 0 rfl 0
                have f0_1 := hs21.freeAt 0 rfl 1
                go_wp2_with fail
                have hs23 := hs21.set (p := []) (by simp <;> omega) 0 (.int .i64 0)
                have hs24 := hs23.set (p := []) (by simp <;> omega) 1 (.slice none 0 0)
                have x0 := (hs24.cellAt 0 rfl 0 rfl)
                have x1 := (hs24.cellAt 0 rfl 1 rfl)
                exact bodyPost_ret (v := .tuple #[.int .i64 0, .agg #[.int .i64 0, .slice none 0 0], .int .i64 6]) (by simp [results, Tryz.results57, go_sem, x0, x1]) rfl ⟨_, _, rfl, fresh_intO2 ⟨by decide, by decide⟩ fresh_nil_list, hs24.bel⟩
              | true =>
                have HPR := Lib.hid hpr
                clear hpr
                have hz_wL : wG.heap.size + 1 ≤ ((wG.alloc (.cells #[.int .i64 a3, .slice ag l3.length cg] 34))).heap.size := by simp
                generalize hgen_wL : (wG.alloc (.cells #[.int .i64 a3, .slice ag l3.length cg] 34)) = wL at *
                clear hgen_wL
                go_wp2_with fail
                have HSTL := Lib.hid hs21
                have HTL := Lib.hid (Rd.mono HT.out hs21.bel)
                have hzL := hs21.hi
                go_loopw [14] (fun i wl => ∃ j : Nat, j ≤ rs.length ∧ i = .int .i64 j ∧ Hid (Below wL.heap.size wL wl) ∧ Hid ((rs.take j).all (affIs (SZ : Int)) = true)) (fun i _ => rs.length - (intOf i).toNat)
                case atStart => exact ⟨0, Nat.zero_le _, rfl, Below.refl _ _, rfl⟩
                case round =>
                  obtain ⟨j, hj, rfl, hbl, hal⟩ := hrel
                  have hsr := HSTL.out.step hbl.out
                  have hszr := hsr.hi
                  have HT := Lib.hid (Rd.mono HTL.out hbl.out)
                  have HBQ := hbl
                  clear hbl
                  have k0_0 := hsr.cellAt 0 rfl 0 rfl
                  have k0_1 := hsr.cellAt 0 rfl 1 rfl
                  have e0_ := cellL hsr.bel e0
                  have e1_ := cellL hsr.bel e1
                  by_cases hlj : j < rs.length
                  · have hljI : (j : Int) < rs.length := by omega
                    obtain ⟨b1, o1, aS, cS, rfl, q0, q1, hTS⟩ := tmpl_at HT.out hlj
                    have HRK := Lib.hid (HRS.out (rs.getD j (0, [])) (by simp [List.getD, hlj]))
                    have HRR := Lib.hid (show Rd _ [.int .i64 (rs.getD j (0, [])).1, .slice aS (rs.getD j (0, [])).2.length cS] (rs.getD j (0, [])) from ⟨[_], [_], rfl, ⟨rfl, i64_of _ (by have := (relOk_get HRK.out).2.1; omega) (by have := (relOk_get HRK.out).2.1; omega)⟩, hTS⟩)
                    have HTK := Lib.hid (show (rs.take (j + 1)).all (affIs (SZ : Int)) = affIs (SZ : Int) (rs.getD j (0, [])) by
                      rw [List.take_succ_eq_append_getElem hlj, List.all_append, hal.out]
                      simp [List.getD, hlj])
                    have HNO := Lib.hid (show affIs (SZ : Int) (rs.getD j (0, [])) = false → rs.all (affIs (SZ : Int)) = false from fun h => by
                      rw [List.all_eq_false]
                      exact ⟨rs.getD j (0, []), by simp [List.getD, hlj], by rw [h]; decide⟩)
                    clear hTS
                    generalize rs.getD j (0, []) = RJ at *
                    obtain ⟨aj, tj⟩ := RJ
                    simp only at q0 q1
                    go_upto_region 23 with fail
                    refine wp_region_noPanic (wp_region_tree4 (fun w' => w'.cell? ⟨w.heap.size, 0, none⟩ = some (.int .i64 0) ∧ w'.cell? ⟨w.heap.size, 1, none⟩ = some (.slice none 0 0) ∧ w'.cell? ⟨tp, 0, none⟩ = some (.int .i64 SZ) ∧ w'.cell? ⟨tp, 1, none⟩ = some (.slice (some ⟨b1, o1, none⟩) rs.length ct0) ∧ w'.cell? ⟨b1, o1 + j * 2, none⟩ = some (.int .i64 aj) ∧ w'.cell? ⟨b1, o1 + j * 2 + 1, none⟩ = some (.slice aS tj.length cS)) (.float 0 (.float 1 (.float 2 (.float 3 (.float 4 (.float 5 (.float 6 (.float 7 (.float 8 (.float 9 (.hard 10 (.float 11 .nil)))))))))))) (by kernel_rfl) (by kernel_rfl) (by kernel_rfl) rfl ?_ (fun _ _ _ _ _ h => h) ?_)
                    · exact ⟨(hsr.drew).cellAt 0 rfl 0 rfl, (hsr.drew).cellAt 0 rfl 1 rfl, cellL (hsr.drew).bel e0, cellL (hsr.drew).bel e1, cellL (belowD _) q0, cellL (belowD _) q1⟩
                    have hs25 := hsr.drew
                    have q0_26 := cellL (belowD _) q0
                    clear q0
                    have q1_27 := cellL (belowD _) q1
                    clear q1
                    have HT_28 := Lib.hid (Rd.mono HT.out (belowD _))
                    clear HT
                    have HBQ_29 := Lib.hid (HBQ.out.trans (((belowD _)).mono HBQ.out.size))
                    clear HBQ
                    have HRR_30 := Lib.hid (Rd.mono HRR.out (belowD _))
                    clear HRR
                    clear k0_0 k0_1 e0_ e1_
                    have hz_wd31 : wr.heap.size ≤ (wr.drew).heap.size := by simp
                    generalize hgen_wd31 : wr.drew = wd31 at *
                    have HG_wd31 := Lib.hid hgen_wd31
                    clear hgen_wd31
                    (repeat (first | (apply t4_skip rfl (by rfl); try simp only [Act.put, List.setIfInBounds_toArray, List.set_cons_zero, List.set_cons_succ]) | (apply t4_float rfl (by rfl); (· (intro w' hS; go_simp <;> with_reducible rfl)); (try simp only [Act.put, List.setIfInBounds_toArray, List.set_cons_zero, List.set_cons_succ]))))
                    refine t4_hard rfl (by rfl) (fun K hK => ?_)
                    go_wp2_with (go_at_call 120; refine (l07Is_c (SZ : Int) (aj, tj) b1 (o1 + j * 2) _ _ _ HRR_30.out q0_26 q1_27 HPR.out HRK.out).mono ?_; rintro e w32 ⟨rfl, hbw32⟩)
                    have hz_w32 : wd31.heap.size ≤ w32.heap.size := by have h9 := hbw32.size; (try simp at h9); omega
                    have hs33 := hs25.step hbw32
                    have q0_34 := cellL hbw32 q0_26
                    clear q0_26
                    have q1_35 := cellL hbw32 q1_27
                    clear q1_27
                    have HT_36 := Lib.hid (Rd.mono HT_28.out hbw32)
                    clear HT_28
                    have HBQ_37 := Lib.hid (HBQ_29.out.trans ((hbw32).mono HBQ_29.out.size))
                    clear HBQ_29
                    have HRR_38 := Lib.hid (Rd.mono HRR_30.out hbw32)
                    clear HRR_30
                    refine ⟨⟨hs33.cellAt 0 rfl 0 rfl, hs33.cellAt 0 rfl 1 rfl, cellL hs33.bel e0, cellL hs33.bel e1, q0_34, q1_35⟩, ?_⟩
                    (repeat (first | (apply t4_skip rfl (by rfl); try simp only [Act.put, List.setIfInBounds_toArray, List.set_cons_zero, List.set_cons_succ]) | (apply t4_float rfl (by rfl); (· (intro w' hS; go_simp <;> with_reducible rfl)); (try simp only [Act.put, List.setIfInBounds_toArray, List.set_cons_zero, List.set_cons_succ]))))
                    have k0_0 := hs33.cellAt 0 rfl 0 rfl
                    have k0_1 := hs33.cellAt 0 rfl 1 rfl
                    have e0_ := cellL hs33.bel e0
                    have e1_ := cellL hs33.bel e1
                    refine t4_nil (NoPanic.normal ?_)
                    cases haf : affIs (SZ : Int) (aj, tj) with
                    | true =>
                      rw [haf] at HTK
                      have HBR := Lib.hid HBQ_37.out
                      clear haf
                      go_wp2_with fail
                      go_roundw
                      case rel => exact ⟨j + 1, hlj, by go_num, HBR.out, HTK.out⟩
                      case measure => simp [intOf]; omega
                    | false =>
                      obtain rfl : FF = ((0, []), 0, 6) := HW5.out.trans (by unfold waysE; rw [if_neg (by simp only; rw [HNO.out haf]; simp)])
                      clear HW5 haf
                      clear k0_0 k0_1 e0_ e1_
                      clear q0_34
                      clear q1_35
                      clear HRR_38
                      clear HBQ_37
                      clear HT_36
                      have k0_0 := hs33.cellAt 0 rfl 0 rfl
                      have k0_1 := hs33.cellAt 0 rfl 1 rfl
                      have e0_ := cellL hs33.bel e0
                      have e1_ := cellL hs33.bel e1
                      have f0_0 := hs33.freeAt 0 rfl 0
                      have f0_1 := hs33.freeAt 0 rfl 1
                      go_wp2_with fail
                      have hs39 := hs33.set (p := []) (by simp <;> omega) 0 (.int .i64 0)
                      have hs40 := hs39.set (p := []) (by simp <;> omega) 1 (.slice none 0 0)
                      have x0 := (hs40.cellAt 0 rfl 0 rfl)
                      have x1 := (hs40.cellAt 0 rfl 1 rfl)
                      exact bodyPost_ret (v := .tuple #[.int .i64 0, .agg #[.int .i64 0, .slice none 0 0], .int .i64 6]) (by simp [results, Tryz.results57, go_sem, x0, x1]) rfl ⟨_, _, rfl, fresh_intO2 ⟨by decide, by decide⟩ fresh_nil_list, hs40.bel⟩
                  · obtain rfl : j = rs.length := by omega
                    have hnj : ¬ ((rs.length : Int) < rs.length) := by omega
                    have hall : rs.all (affIs (SZ : Int)) = true := by have := hal.out; rwa [List.take_length] at this
                    obtain rfl : FF = (affOp (SZ : Int), 4, 0) := HW5.out.trans (by unfold waysE; rw [if_pos ⟨HPR.out, hall⟩])
                    clear HW5 hall hal
                    have hp23 := isPr_true HPR.out
                    go_wp2_with fail
                    refine (l07Affine_c (SZ : Int) _ (by omega) (by omega)).mono ?_
                    rintro e w41 ⟨v9, rfl, fr9, hbw41⟩
                    have hz_w41 : wr.heap.size ≤ w41.heap.size := by have h9 := hbw41.size; (try simp at h9); omega
                    have hs42 := hsr.step hbw41
                    have HT_43 := Lib.hid (Rd.mono HT.out hbw41)
                    clear HT
                    have HBQ_44 := Lib.hid (HBQ.out.trans ((hbw41).mono HBQ.out.size))
                    clear HBQ
                    clear k0_0 k0_1 e0_ e1_
                    have k0_0 := hs42.cellAt 0 rfl 0 rfl
                    have k0_1 := hs42.cellAt 0 rfl 1 rfl
                    have e0_ := cellL hs42.bel e0
                    have e1_ := cellL hs42.bel e1
                    obtain ⟨a9, c9, rfl, _⟩ := rd_list fr9.rd
                    have HFR := Lib.hid (show Fresh (w.heap.size + 1) _ [.int .i64 3, .slice a9 (tableTo (affF (SZ : Int)) (SZ : Int) 3 ((SZ : Int) ^ 3).toNat).length c9] (affOp (SZ : Int)) from fresh_intO2 ⟨by decide, by decide⟩ (fr9.lower (by omega)))
                    clear fr9
                    generalize hTT : tableTo (affF (SZ : Int)) (SZ : Int) 3 ((SZ : Int) ^ 3).toNat = TT at *
                    clear hTT
                    have f0_0 := hs42.freeAt 0 rfl 0
                    have f0_1 := hs42.freeAt 0 rfl 1
                    go_wp2_with fail
                    have HFX := Lib.hid (((HFR.out.setCell (a := ⟨w.heap.size, 0, none⟩) (by (try simp only); omega) (.int .i64 3)).setCell (a := ⟨w.heap.size, 1, none⟩) (by (try simp only); omega) (.slice a9 TT.length c9)).lower (lo' := w.heap.size) (by omega))
                    have hs45 := hs42.set (p := []) (by simp <;> omega) 0 (.int .i64 3)
                    have hs46 := hs45.set (p := []) (by simp <;> omega) 1 (.slice a9 TT.length c9)
                    have x0 := (hs46.cellAt 0 rfl 0 rfl)
                    have x1 := (hs46.cellAt 0 rfl 1 rfl)
                    exact bodyPost_ret (v := .tuple #[.int .i64 4, .agg #[.int .i64 3, .slice a9 TT.length c9], .int .i64 0]) (by simp [results, Tryz.results57, go_sem, x0, x1]) rfl ⟨_, _, rfl, HFX.out, hs46.bel⟩
      | true =>
        have HFL := Lib.hid (show rs.all (fun r => decide (0 < r.2.length)) = true from hfull)
        clear hfull
        go_wp2_with fail
        have HST := Lib.hid hs1
        have HTQ := Lib.hid (Rd.mono HT.out hs1.bel)
        have hzq := hs1.hi
        go_loopw [7] (fun i wl => ∃ k : Nat, k ≤ SZ ∧ i = .int .i64 k ∧ Hid (Below wS.heap.size wS wl) ∧ Hid (∀ j : Nat, j < k → 0 ≤ brokenF ((SZ : Int), rs) (constOp (SZ : Int) (j : Int)))) (fun i _ => SZ - (intOf i).toNat)
        case atStart => exact ⟨0, Nat.zero_le _, rfl, Below.refl _ _, fun j hj => absurd hj (Nat.not_lt_zero _)⟩
        case round =>
          obtain ⟨k, hk, rfl, hbl, hno⟩ := hrel
          have hsr := HST.out.step hbl.out
          have hszr := hsr.hi
          have HT := Lib.hid (Rd.mono HTQ.out hbl.out)
          have HBQ := hbl
          clear hbl
          have k0_0 := hsr.cellAt 0 rfl 0 rfl
          have k0_1 := hsr.cellAt 0 rfl 1 rfl
          have e0_ := cellL hsr.bel e0
          have e1_ := cellL hsr.bel e1
          by_cases hlt : k < SZ
          · have hltI : (k : Int) < SZ := by omega
            have HCO := Lib.hid (const_ok hs (a := (k : Int)) (by omega))
            go_wp2_with fail
            refine (constantOp_c (SZ : Int) (k : Int) _ hs (by omega)).mono ?_
            rintro e wF ⟨u9, rfl, frF, hbF⟩
            have hz_wF : wr.heap.size ≤ wF.heap.size := by have h9 := hbF.size; (try simp at h9); omega
            have hs47 := hsr.step hbF
            have HT_48 := Lib.hid (Rd.mono HT.out hbF)
            clear HT
            have HBQ_49 := Lib.hid (HBQ.out.trans ((hbF).mono HBQ.out.size))
            clear HBQ
            clear k0_0 k0_1 e0_ e1_
            have k0_0 := hs47.cellAt 0 rfl 0 rfl
            have k0_1 := hs47.cellAt 0 rfl 1 rfl
            have e0_ := cellL hs47.bel e0
            have e1_ := cellL hs47.bel e1
            obtain ⟨af, cf, rfl, _⟩ := rd_list frF.rd
            have HCV := Lib.hid (show constOp (SZ : Int) (k : Int) = (1, (constOp (SZ : Int) (k : Int)).2) from rfl)
            obtain ⟨l2, hl2⟩ : ∃ l2, l2 = (constOp (SZ : Int) (k : Int)).2 := ⟨_, rfl⟩
            rw [← hl2] at frF HCV ⊢
            clear hl2
            have HFR := Lib.hid (show Ip (fun z => w.heap.size + 1 ≤ z) _ [.int .i64 1, .slice af l2.length cf] (((1 : Int), l2) : OpT) from fresh_intO2 ⟨by decide, by decide⟩ (frF.lower (lo' := w.heap.size + 1) (by omega)))
            clear frF
            go_upto_region 10 with fail
            have hs50 := hs47.alloc #[.int .i64 1, .slice af l2.length cf] 34 (n := wF.heap.size) (by simp)
            have HT_51 := Lib.hid (Rd.mono HT_48.out (belowA _ (.cells #[.int .i64 1, .slice af l2.length cf] 34)))
            clear HT_48
            have HBQ_52 := Lib.hid (HBQ_49.out.trans (((belowA _ (.cells #[.int .i64 1, .slice af l2.length cf] 34))).mono HBQ_49.out.size))
            clear HBQ_49
            have HFR_53 := Lib.hid (Ip.mono HFR.out (belowA _ (.cells #[.int .i64 1, .slice af l2.length cf] 34)))
            clear HFR
            clear k0_0 k0_1 e0_ e1_
            have k0_0 := hs50.cellAt 0 rfl 0 rfl
            have k0_1 := hs50.cellAt 0 rfl 1 rfl
            have k1_0 := hs50.cellAt 1 rfl 0 rfl
            have k1_1 := hs50.cellAt 1 rfl 1 rfl
            have e0_ := cellL hs50.bel e0
            have e1_ := cellL hs50.bel e1
            go_wp2_with fail
            refine (l02First_c ((SZ : Int), rs) ((1 : Int), l2) tp (wF.heap.size) _ _ _ _ _ HT_51.out (HFR_53.out).rd (by rw [← HCV.out]; exact HCO.out) HRS.out (cellL hs50.bel e0) (cellL hs50.bel e1) (hs50.cellAt 1 rfl 0 rfl) (hs50.cellAt 1 rfl 1 rfl)).mono ?_
            rintro e w5 ⟨rfl, hb5⟩
            have hz_w5 : wF.heap.size + 1 ≤ w5.heap.size := by have h9 := hb5.size; (try simp at h9); omega
            have hs54 := hs50.step hb5
            have HT_55 := Lib.hid (Rd.mono HT_51.out hb5)
            clear HT_51
            have HBQ_56 := Lib.hid (HBQ_52.out.trans ((hb5).mono HBQ_52.out.size))
            clear HBQ_52
            have HFR_57 := Lib.hid (Ip.mono HFR_53.out hb5)
            clear HFR_53
            clear k0_0 k0_1 k1_0 k1_1 e0_ e1_
            have k0_0 := hs54.cellAt 0 rfl 0 rfl
            have k0_1 := hs54.cellAt 0 rfl 1 rfl
            have k1_0 := hs54.cellAt 1 rfl 0 rfl
            have k1_1 := hs54.cellAt 1 rfl 1 rfl
            have e0_ := cellL hs54.bel e0
            have e1_ := cellL hs54.bel e1
            by_cases hbr : brokenF ((SZ : Int), rs) ((1 : Int), l2) < 0
            · obtain rfl : FF = (((1 : Int), l2), 1, 0) := by
                rw [HF2.out, waysT_some (t := ((SZ : Int), rs)) HFL.out (constW_some (t := ((SZ : Int), rs)) (k := k) hltI hno.out (by rw [HCV.out]; exact hbr))]
                simp only
                rw [HCV.out]
              have hbe : (brokenF ((SZ : Int), rs) ((1 : Int), l2) == -1) = true := by rw [broken_neg]; exact decide_eq_true hbr
              clear HF2 HFL hno hbr
              generalize brokenF ((SZ : Int), rs) ((1 : Int), l2) = BV at *
              clear HBQ_56
              clear HT_55
              go_upto_region 11 with fail
              refine wp_region_noPanic (wp_region_tree4 (fun w' => w'.cell? ⟨wF.heap.size, 0, none⟩ = some (.int .i64 1) ∧ w'.cell? ⟨wF.heap.size, 1, none⟩ = some (.slice af l2.length cf) ∧ w'.cell? ⟨tp, 0, none⟩ = some (.int .i64 SZ) ∧ w'.cell? ⟨tp, 1, none⟩ = some (.slice at0 rs.length ct0)) (.float 0 (.float 1 (.hard 2 (.float 3 .nil)))) (by kernel_rfl) (by kernel_rfl) (by kernel_rfl) rfl ?_ (fun _ _ _ _ _ h => h) ?_)
              · exact ⟨(hs54.drew).cellAt 1 rfl 0 rfl, (hs54.drew).cellAt 1 rfl 1 rfl, cellL (hs54.drew).bel e0, cellL (hs54.drew).bel e1⟩
              have hs58 := hs54.drew
              have HFR_59 := Lib.hid (Ip.mono HFR_57.out (belowD _))
              clear HFR_57
              clear k0_0 k0_1 k1_0 k1_1 e0_ e1_
              have hz_wd60 : w5.heap.size ≤ (w5.drew).heap.size := by simp
              generalize hgen_wd60 : w5.drew = wd60 at *
              have HG_wd60 := Lib.hid hgen_wd60
              clear hgen_wd60
              (repeat (first | (apply t4_skip rfl (by rfl); try simp only [Act.put, List.setIfInBounds_toArray, List.set_cons_zero, List.set_cons_succ]) | (apply t4_float rfl (by rfl); (· (intro w' hS; go_simp <;> with_reducible rfl)); (try simp only [Act.put, List.setIfInBounds_toArray, List.set_cons_zero, List.set_cons_succ]))))
              refine t4_hard rfl (by rfl) (fun K hK => ?_)
              have k0_0 := hs58.cellAt 0 rfl 0 rfl
              have k0_1 := hs58.cellAt 0 rfl 1 rfl
              have k1_0 := hs58.cellAt 1 rfl 0 rfl
              have k1_1 := hs58.cellAt 1 rfl 1 rfl
              have e0_ := cellL hs58.bel e0
              have e1_ := cellL hs58.bel e1
              have f0_0 := hs58.freeAt 0 rfl 0
              have f0_1 := hs58.freeAt 0 rfl 1
              go_wp2_with fail
              have hs61 := hs58.set (p := []) (by simp <;> omega) 0 (.int .i64 1)
              have hs62 := hs61.set (p := []) (by simp <;> omega) 1 (.slice af l2.length cf)
              have HFR_63 := Lib.hid (Ip.setCell (b := w.heap.size) (o := 1) (Ip.setCell (b := w.heap.size) (o := 0) HFR_59.out (.int .i64 1) (by intro hA9; (try simp only at hA9); omega)) (.slice af l2.length cf) (by intro hA9; (try simp only at hA9); omega))
              clear HFR_59
              clear k0_0 k0_1 k1_0 k1_1 e0_ e1_
              have hz_wP : wd60.heap.size ≤ (((wd60.setCell ⟨w.heap.size, 0, none⟩ (.int .i64 1)).setCell ⟨w.heap.size, 1, none⟩ (.slice af l2.length cf))).heap.size := by simp [World.setCell]
              generalize hgen_wP : ((wd60.setCell ⟨w.heap.size, 0, none⟩ (.int .i64 1)).setCell ⟨w.heap.size, 1, none⟩ (.slice af l2.length cf)) = wP at *
              clear hgen_wP
              have k0_0 := hs62.cellAt 0 rfl 0 rfl
              have k0_1 := hs62.cellAt 0 rfl 1 rfl
              have k1_0 := hs62.cellAt 1 rfl 0 rfl
              have k1_1 := hs62.cellAt 1 rfl 1 rfl
              have e0_ := cellL hs62.bel e0
              have e1_ := cellL hs62.bel e1
              refine ⟨⟨hs62.cellAt 1 rfl 0 rfl, hs62.cellAt 1 rfl 1 rfl, cellL hs62.bel e0, cellL hs62.bel e1⟩, ?_⟩
              (repeat (first | (apply t4_skip rfl (by rfl); try simp only [Act.put, List.setIfInBounds_toArray, List.set_cons_zero, List.set_cons_succ]) | (apply t4_float rfl (by rfl); (· (intro w' hS; go_simp <;> with_reducible rfl)); (try simp only [Act.put, List.setIfInBounds_toArray, List.set_cons_zero, List.set_cons_succ]))))
              clear k0_0 k0_1 k1_0 k1_1 e0_ e1_
              have k0_0 := hs62.cellAt 0 rfl 0 rfl
              have k0_1 := hs62.cellAt 0 rfl 1 rfl
              have k1_0 := hs62.cellAt 1 rfl 0 rfl
              have k1_1 := hs62.cellAt 1 rfl 1 rfl
              have e0_ := cellL hs62.bel e0
              have e1_ := cellL hs62.bel e1
              clear k0_0 k0_1 k1_0 k1_1 e0_ e1_
              have k0_0 := hs62.cellAt 0 rfl 0 rfl
              have k0_1 := hs62.cellAt 0 rfl 1 rfl
              have k1_0 := hs62.cellAt 1 rfl 0 rfl
              have k1_1 := hs62.cellAt 1 rfl 1 rfl
              have e0_ := cellL hs62.bel e0
              have e1_ := cellL hs62.bel e1
              refine t4_nil (NoPanic.normal ?_)
              have x0 := (hs62.cellAt 0 rfl 0 rfl)
              have x1 := (hs62.cellAt 0 rfl 1 rfl)
              go_wp2_with fail
              exact bodyPost_ret (v := .tuple #[.int .i64 1, .agg #[.int .i64 1, .slice af l2.length cf], .int .i64 0]) (by simp [results, Tryz.results57, go_sem, x0, x1]) rfl ⟨_, _, rfl, HFR_63.out.fresh (fun z hz => by (try simp only at hz); omega), hs62.bel⟩
            · have HN2 := Lib.hid (show ∀ j : Nat, j < k + 1 → 0 ≤ brokenF ((SZ : Int), rs) (constOp (SZ : Int) (j : Int)) from fun j hj => by
                rcases Nat.lt_or_ge j k with h | h
                · exact hno.out j h
                · obtain rfl : j = k := by omega
                  rw [HCV.out]
                  exact Int.not_lt.1 hbr)
              have hbe : (brokenF ((SZ : Int), rs) ((1 : Int), l2) == -1) = false := by rw [broken_neg]; exact decide_eq_false hbr
              clear hbr
              generalize brokenF ((SZ : Int), rs) ((1 : Int), l2) = BV at *
              have HBR := Lib.hid HBQ_56.out
              go_wp2_with fail
              go_roundw
              case rel => exact ⟨k + 1, hlt, by go_num, HBR.out, HN2.out⟩
              case measure => simp [intOf]; omega
          · obtain rfl : k = SZ := by omega
            have hnl : ¬ ((k : Int) < k) := by omega
            have HW := Lib.hid (show FF = waysF ((k : Int), rs) from HF2.out.trans (waysT_none (t := ((k : Int), rs)) HFL.out (constW_none (t := ((k : Int), rs)) (fun j hj => hno.out j (by simp only at hj; omega)))))
            clear HF2 HFL hno hlt HTQ HST
            clear HBQ
            go_wp2_with fail
            refine (sFirst_c ((k : Int), rs) 2 6 (semiB (k : Int)) _ _ _ HT.out (by omega) (by omega) (fun f pb v0 v1 w h c0 c1 ok => l02KindS_c (k : Int) f pb 0 v0 v1 w h c0 c1 ok)).mono ?_
            rintro e wF ⟨u0, u1, rfl, frF, hbF⟩
            have hz_wF : wr.heap.size ≤ wF.heap.size := by have h9 := hbF.size; (try simp at h9); omega
            have hs64 := hsr.step hbF
            have HT_65 := Lib.hid (Rd.mono HT.out hbF)
            clear HT
            clear k0_0 k0_1 e0_ e1_
            have k0_0 := hs64.cellAt 0 rfl 0 rfl
            have k0_1 := hs64.cellAt 0 rfl 1 rfl
            have e0_ := cellL hs64.bel e0
            have e1_ := cellL hs64.bel e1
            have HW2 := Lib.hid (show FF = if (firstF ((k : Int), rs) 2 (semiB (k : Int))).1 = 0 then ((firstF ((k : Int), rs) 2 (semiB (k : Int))).2, 2, 0) else waysM ((k : Int), rs) from HW.out)
            clear HW
            generalize firstF ((k : Int), rs) 2 (semiB (k : Int)) = F2 at *
            obtain ⟨c2, a2, l2⟩ := F2
            simp only at frF HW2
            have zf := rd_cons rfl frF.rd
            obtain ⟨rfl, _⟩ := rd_i1 zf.1
            obtain ⟨af, cf, rfl, _⟩ := rd_list zf.2
            have HFR := Lib.hid (show Ip (fun z => w.heap.size + 1 ≤ z) _ [.int .i64 a2, .slice af l2.length cf] ((a2, l2) : OpT) from frF.lower (lo' := w.heap.size + 1) (by (try simp); omega))
            clear frF zf
            by_cases hc2 : c2 = 0
            · obtain rfl : c2 = 0 := hc2
              obtain rfl : FF = ((a2, l2), 2, 0) := HW2.out.trans (if_pos rfl)
              clear HW2
              go_upto_region 13 with fail
              have hs66 := hs64.alloc #[.int .i64 a2, .slice af l2.length cf] 34 (n := wF.heap.size) (by simp)
              have HT_67 := Lib.hid (Rd.mono HT_65.out (belowA _ (.cells #[.int .i64 a2, .slice af l2.length cf] 34)))
              clear HT_65
              have HFR_68 := Lib.hid (Ip.mono HFR.out (belowA _ (.cells #[.int .i64 a2, .slice af l2.length cf] 34)))
              clear HFR
              clear k0_0 k0_1 e0_ e1_
              have k0_0 := hs66.cellAt 0 rfl 0 rfl
              have k0_1 := hs66.cellAt 0 rfl 1 rfl
              have k1_0 := hs66.cellAt 1 rfl 0 rfl
              have k1_1 := hs66.cellAt 1 rfl 1 rfl
              have e0_ := cellL hs66.bel e0
              have e1_ := cellL hs66.bel e1
              clear HT_67
              go_upto_region 14 with fail
              refine wp_region_noPanic (wp_region_tree4 (fun w' => w'.cell? ⟨wF.heap.size, 0, none⟩ = some (.int .i64 a2) ∧ w'.cell? ⟨wF.heap.size, 1, none⟩ = some (.slice af l2.length cf) ∧ w'.cell? ⟨tp, 0, none⟩ = some (.int .i64 k) ∧ w'.cell? ⟨tp, 1, none⟩ = some (.slice at0 rs.length ct0)) (.float 0 (.float 1 (.hard 2 (.float 3 .nil)))) (by kernel_rfl) (by kernel_rfl) (by kernel_rfl) rfl ?_ (fun _ _ _ _ _ h => h) ?_)
              · exact ⟨(hs66.drew).cellAt 1 rfl 0 rfl, (hs66.drew).cellAt 1 rfl 1 rfl, cellL (hs66.drew).bel e0, cellL (hs66.drew).bel e1⟩
              have hs69 := hs66.drew
              have HFR_70 := Lib.hid (Ip.mono HFR_68.out (belowD _))
              clear HFR_68
              clear k0_0 k0_1 k1_0 k1_1 e0_ e1_
              have hz_wd71 : wF.heap.size + 1 ≤ ((wF.alloc (.cells #[.int .i64 a2, .slice af l2.length cf] 34)).drew).heap.size := by simp
              generalize hgen_wd71 : (wF.alloc (.cells #[.int .i64 a2, .slice af l2.length cf] 34)).drew = wd71 at *
              have HG_wd71 := Lib.hid hgen_wd71
              clear hgen_wd71
              (repeat (first | (apply t4_skip rfl (by rfl); try simp only [Act.put, List.setIfInBounds_toArray, List.set_cons_zero, List.set_cons_succ]) | (apply t4_float rfl (by rfl); (· (intro w' hS; go_simp <;> with_reducible rfl)); (try simp only [Act.put, List.setIfInBounds_toArray, List.set_cons_zero, List.set_cons_succ]))))
              refine t4_hard rfl (by rfl) (fun K hK => ?_)
              have k0_0 := hs69.cellAt 0 rfl 0 rfl
              have k0_1 := hs69.cellAt 0 rfl 1 rfl
              have k1_0 := hs69.cellAt 1 rfl 0 rfl
              have k1_1 := hs69.cellAt 1 rfl 1 rfl
              have e0_ := cellL hs69.bel e0
              have e1_ := cellL hs69.bel e1
              have f0_0 := hs69.freeAt 0 rfl 0
              have f0_1 := hs69.freeAt 0 rfl 1
              go_wp2_with fail
              have hs72 := hs69.set (p := []) (by simp <;> omega) 0 (.int .i64 a2)
              have hs73 := hs72.set (p := []) (by simp <;> omega) 1 (.slice af l2.length cf)
              have HFR_74 := Lib.hid (Ip.setCell (b := w.heap.size) (o := 1) (Ip.setCell (b := w.heap.size) (o := 0) HFR_70.out (.int .i64 a2) (by intro hA9; (try simp only at hA9); omega)) (.slice af l2.length cf) (by intro hA9; (try simp only at hA9); omega))
              clear HFR_70
              clear k0_0 k0_1 k1_0 k1_1 e0_ e1_
              have hz_wP : wd71.heap.size ≤ (((wd71.setCell ⟨w.heap.size, 0, none⟩ (.int .i64 a2)).setCell ⟨w.heap.size, 1, none⟩ (.slice af l2.length cf))).heap.size := by simp [World.setCell]
              generalize hgen_wP : ((wd71.setCell ⟨w.heap.size, 0, none⟩ (.int .i64 a2)).setCell ⟨w.heap.size, 1, none⟩ (.slice af l2.length cf)) = wP at *
              clear hgen_wP
              have k0_0 := hs73.cellAt 0 rfl 0 rfl
              have k0_1 := hs73.cellAt 0 rfl 1 rfl
              have k1_0 := hs73.cellAt 1 rfl 0 rfl
              have k1_1 := hs73.cellAt 1 rfl 1 rfl
              have e0_ := cellL hs73.bel e0
              have e1_ := cellL hs73.bel e1
              refine ⟨⟨hs73.cellAt 1 rfl 0 rfl, hs73.cellAt 1 rfl 1 rfl, cellL hs73.bel e0, cellL hs73.bel e1⟩, ?_⟩
              (repeat (first | (apply t4_skip rfl (by rfl); try simp only [Act.put, List.setIfInBounds_toArray, List.set_cons_zero, List.set_cons_succ]) | (apply t4_float rfl (by rfl); (· (intro w' hS; go_simp <;> with_reducible rfl)); (try simp only [Act.put, List.setIfInBounds_toArray, List.set_cons_zero, List.set_cons_succ]))))
              clear k0_0 k0_1 k1_0 k1_1 e0_ e1_
              have k0_0 := hs73.cellAt 0 rfl 0 rfl
              have k0_1 := hs73.cellAt 0 rfl 1 rfl
              have k1_0 := hs73.cellAt 1 rfl 0 rfl
              have k1_1 := hs73.cellAt 1 rfl 1 rfl
              have e0_ := cellL hs73.bel e0
              have e1_ := cellL hs73.bel e1
              clear k0_0 k0_1 k1_0 k1_1 e0_ e1_
              have k0_0 := hs73.cellAt 0 rfl 0 rfl
              have k0_1 := hs73.cellAt 0 rfl 1 rfl
              have k1_0 := hs73.cellAt 1 rfl 0 rfl
              have k1_1 := hs73.cellAt 1 rfl 1 rfl
              have e0_ := cellL hs73.bel e0
              have e1_ := cellL hs73.bel e1
              refine t4_nil (NoPanic.normal ?_)
              have x0 := (hs73.cellAt 0 rfl 0 rfl)
              have x1 := (hs73.cellAt 0 rfl 1 rfl)
              go_wp2_with fail
              exact bodyPost_ret (v := .tuple #[.int .i64 2, .agg #[.int .i64 a2, .slice af l2.length cf], .int .i64 0]) (by simp [results, Tryz.results57, go_sem, x0, x1]) rfl ⟨_, _, rfl, HFR_74.out.fresh (fun z hz => by (try simp only at hz); omega), hs73.bel⟩
            · have hcq : (c2 == 0) = false := by simpa using hc2
              have HW3 := Lib.hid (show FF = waysM ((k : Int), rs) from HW2.out.trans (if_neg hc2))
              clear HW2 hc2 HFR
              go_upto_region 13 with fail
              have hs75 := hs64.alloc #[.int .i64 a2, .slice af l2.length cf] 34 (n := wF.heap.size) (by simp)
              have HT_76 := Lib.hid (Rd.mono HT_65.out (belowA _ (.cells #[.int .i64 a2, .slice af l2.length cf] 34)))
              clear HT_65
              clear k0_0 k0_1 e0_ e1_
              have k0_0 := hs75.cellAt 0 rfl 0 rfl
              have k0_1 := hs75.cellAt 0 rfl 1 rfl
              have k1_0 := hs75.cellAt 1 rfl 0 rfl
              have k1_1 := hs75.cellAt 1 rfl 1 rfl
              have e0_ := cellL hs75.bel e0
              have e1_ := cellL hs75.bel e1
              go_wp2_with fail
              refine (sFirst_c ((k : Int), rs) 3 7 (majB (k : Int)) _ _ _ HT_76.out (by omega) (by omega) (fun f pb v0 v1 w h c0 c1 ok => l02KindM_c (k : Int) f pb 0 v0 v1 w h c0 c1 ok)).mono ?_
              rintro e wG ⟨u0, u1, rfl, frG, hbG⟩
              have hz_wG : wF.heap.size + 1 ≤ wG.heap.size := by have h9 := hbG.size; (try simp at h9); omega
              have hs77 := hs75.step hbG
              have HT_78 := Lib.hid (Rd.mono HT_76.out hbG)
              clear HT_76
              clear k0_0 k0_1 k1_0 k1_1 e0_ e1_
              have k0_0 := hs77.cellAt 0 rfl 0 rfl
              have k0_1 := hs77.cellAt 0 rfl 1 rfl
              have k1_0 := hs77.cellAt 1 rfl 0 rfl
              have k1_1 := hs77.cellAt 1 rfl 1 rfl
              have e0_ := cellL hs77.bel e0
              have e1_ := cellL hs77.bel e1
              have HW4 := Lib.hid (show FF = if (firstF ((k : Int), rs) 3 (majB (k : Int))).1 = 0 then ((firstF ((k : Int), rs) 3 (majB (k : Int))).2, 3, 0) else waysE ((k : Int), rs) from HW3.out)
              clear HW3
              generalize firstF ((k : Int), rs) 3 (majB (k : Int)) = F3 at *
              obtain ⟨c3, a3, l3⟩ := F3
              simp only at frG HW4
              have zg := rd_cons rfl frG.rd
              obtain ⟨rfl, _⟩ := rd_i1 zg.1
              obtain ⟨ag, cg, rfl, _⟩ := rd_list zg.2
              have HFR := Lib.hid (show Ip (fun z => w.heap.size + 1 ≤ z) _ [.int .i64 a3, .slice ag l3.length cg] ((a3, l3) : OpT) from frG.lower (lo' := w.heap.size + 1) (by (try simp); omega))
              clear frG zg
              by_cases hc3 : c3 = 0
              · obtain rfl : c3 = 0 := hc3
                obtain rfl : FF = ((a3, l3), 3, 0) := HW4.out.trans (if_pos rfl)
                clear HW4
                go_upto_region 16 with fail
                have hs79 := hs77.alloc #[.int .i64 a3, .slice ag l3.length cg] 34 (n := wG.heap.size) (by simp)
                have HT_80 := Lib.hid (Rd.mono HT_78.out (belowA _ (.cells #[.int .i64 a3, .slice ag l3.length cg] 34)))
                clear HT_78
                have HFR_81 := Lib.hid (Ip.mono HFR.out (belowA _ (.cells #[.int .i64 a3, .slice ag l3.length cg] 34)))
                clear HFR
                clear k0_0 k0_1 k1_0 k1_1 e0_ e1_
                have k0_0 := hs79.cellAt 0 rfl 0 rfl
                have k0_1 := hs79.cellAt 0 rfl 1 rfl
                have k1_0 := hs79.cellAt 1 rfl 0 rfl
                have k1_1 := hs79.cellAt 1 rfl 1 rfl
                have k2_0 := hs79.cellAt 2 rfl 0 rfl
                have k2_1 := hs79.cellAt 2 rfl 1 rfl
                have e0_ := cellL hs79.bel e0
                have e1_ := cellL hs79.bel e1
                clear HT_80
                go_upto_region 17 with fail
                refine wp_region_noPanic (wp_region_tree4 (fun w' => w'.cell? ⟨wF.heap.size, 0, none⟩ = some (.int .i64 a2) ∧ w'.cell? ⟨wF.heap.size, 1, none⟩ = some (.slice af l2.length cf) ∧ w'.cell? ⟨wG.heap.size, 0, none⟩ = some (.int .i64 a3) ∧ w'.cell? ⟨wG.heap.size, 1, none⟩ = some (.slice ag l3.length cg) ∧ w'.cell? ⟨tp, 0, none⟩ = some (.int .i64 k) ∧ w'.cell? ⟨tp, 1, none⟩ = some (.slice at0 rs.length ct0)) (.float 0 (.float 1 (.hard 2 (.float 3 .nil)))) (by kernel_rfl) (by kernel_rfl) (by kernel_rfl) rfl ?_ (fun _ _ _ _ _ h => h) ?_)
                · exact ⟨(hs79.drew).cellAt 1 rfl 0 rfl, (hs79.drew).cellAt 1 rfl 1 rfl, (hs79.drew).cellAt 2 rfl 0 rfl, (hs79.drew).cellAt 2 rfl 1 rfl, cellL (hs79.drew).bel e0, cellL (hs79.drew).bel e1⟩
                have hs82 := hs79.drew
                have HFR_83 := Lib.hid (Ip.mono HFR_81.out (belowD _))
                clear HFR_81
                clear k0_0 k0_1 k1_0 k1_1 k2_0 k2_1 e0_ e1_
                have hz_wd84 : wG.heap.size + 1 ≤ ((wG.alloc (.cells #[.int .i64 a3, .slice ag l3.length cg] 34)).drew).heap.size := by simp
                generalize hgen_wd84 : (wG.alloc (.cells #[.int .i64 a3, .slice ag l3.length cg] 34)).drew = wd84 at *
                have HG_wd84 := Lib.hid hgen_wd84
                clear hgen_wd84
                (repeat (first | (apply t4_skip rfl (by rfl); try simp only [Act.put, List.setIfInBounds_toArray, List.set_cons_zero, List.set_cons_succ]) | (apply t4_float rfl (by rfl); (· (intro w' hS; go_simp <;> with_reducible rfl)); (try simp only [Act.put, List.setIfInBounds_toArray, List.set_cons_zero, List.set_cons_succ]))))
                refine t4_hard rfl (by rfl) (fun K hK => ?_)
                have k0_0 := hs82.cellAt 0 rfl 0 rfl
                have k0_1 := hs82.cellAt 0 rfl 1 rfl
                have k1_0 := hs82.cellAt 1 rfl 0 rfl
                have k1_1 := hs82.cellAt 1 rfl 1 rfl
                have k2_0 := hs82.cellAt 2 rfl 0 rfl
                have k2_1 := hs82.cellAt 2 rfl 1 rfl
                have e0_ := cellL hs82.bel e0
                have e1_ := cellL hs82.bel e1
                have f0_0 := hs82.freeAt 0 rfl 0
                have f0_1 := hs82.freeAt 0 rfl 1
                go_wp2_with fail
                have hs85 := hs82.set (p := []) (by simp <;> omega) 0 (.int .i64 a3)
                have hs86 := hs85.set (p := []) (by simp <;> omega) 1 (.slice ag l3.length cg)
                have HFR_87 := Lib.hid (Ip.setCell (b := w.heap.size) (o := 1) (Ip.setCell (b := w.heap.size) (o := 0) HFR_83.out (.int .i64 a3) (by intro hA9; (try simp only at hA9); omega)) (.slice ag l3.length cg) (by intro hA9; (try simp only at hA9); omega))
                clear HFR_83
                clear k0_0 k0_1 k1_0 k1_1 k2_0 k2_1 e0_ e1_
                have hz_wP : wd84.heap.size ≤ (((wd84.setCell ⟨w.heap.size, 0, none⟩ (.int .i64 a3)).setCell ⟨w.heap.size, 1, none⟩ (.slice ag l3.length cg))).heap.size := by simp [World.setCell]
                generalize hgen_wP : ((wd84.setCell ⟨w.heap.size, 0, none⟩ (.int .i64 a3)).setCell ⟨w.heap.size, 1, none⟩ (.slice ag l3.length cg)) = wP at *
                clear hgen_wP
                have k0_0 := hs86.cellAt 0 rfl 0 rfl
                have k0_1 := hs86.cellAt 0 rfl 1 rfl
                have k1_0 := hs86.cellAt 1 rfl 0 rfl
                have k1_1 := hs86.cellAt 1 rfl 1 rfl
                have k2_0 := hs86.cellAt 2 rfl 0 rfl
                have k2_1 := hs86.cellAt 2 rfl 1 rfl
                have e0_ := cellL hs86.bel e0
                have e1_ := cellL hs86.bel e1
                refine ⟨⟨hs86.cellAt 1 rfl 0 rfl, hs86.cellAt 1 rfl 1 rfl, hs86.cellAt 2 rfl 0 rfl, hs86.cellAt 2 rfl 1 rfl, cellL hs86.bel e0, cellL hs86.bel e1⟩, ?_⟩
                (repeat (first | (apply t4_skip rfl (by rfl); try simp only [Act.put, List.setIfInBounds_toArray, List.set_cons_zero, List.set_cons_succ]) | (apply t4_float rfl (by rfl); (· (intro w' hS; go_simp <;> with_reducible rfl)); (try simp only [Act.put, List.setIfInBounds_toArray, List.set_cons_zero, List.set_cons_succ]))))
                clear k0_0 k0_1 k1_0 k1_1 k2_0 k2_1 e0_ e1_
                have k0_0 := hs86.cellAt 0 rfl 0 rfl
                have k0_1 := hs86.cellAt 0 rfl 1 rfl
                have k1_0 := hs86.cellAt 1 rfl 0 rfl
                have k1_1 := hs86.cellAt 1 rfl 1 rfl
                have k2_0 := hs86.cellAt 2 rfl 0 rfl
                have k2_1 := hs86.cellAt 2 rfl 1 rfl
                have e0_ := cellL hs86.bel e0
                have e1_ := cellL hs86.bel e1
                clear k0_0 k0_1 k1_0 k1_1 k2_0 k2_1 e0_ e1_
                have k0_0 := hs86.cellAt 0 rfl 0 rfl
                have k0_1 := hs86.cellAt 0 rfl 1 rfl
                have k1_0 := hs86.cellAt 1 rfl 0 rfl
                have k1_1 := hs86.cellAt 1 rfl 1 rfl
                have k2_0 := hs86.cellAt 2 rfl 0 rfl
                have k2_1 := hs86.cellAt 2 rfl 1 rfl
                have e0_ := cellL hs86.bel e0
                have e1_ := cellL hs86.bel e1
                refine t4_nil (NoPanic.normal ?_)
                have x0 := (hs86.cellAt 0 rfl 0 rfl)
                have x1 := (hs86.cellAt 0 rfl 1 rfl)
                go_wp2_with fail
                exact bodyPost_ret (v := .tuple #[.int .i64 3, .agg #[.int .i64 a3, .slice ag l3.length cg], .int .i64 0]) (by simp [results, Tryz.results57, go_sem, x0, x1]) rfl ⟨_, _, rfl, HFR_87.out.fresh (fun z hz => by (try simp only at hz); omega), hs86.bel⟩
              · have hcq3 : (c3 == 0) = false := by simpa using hc3
                have HW5 := Lib.hid (show FF = waysE ((k : Int), rs) from HW4.out.trans (if_neg hc3))
                clear HW4 hc3 HFR
                go_upto_region 16 with fail
                have hs88 := hs77.alloc #[.int .i64 a3, .slice ag l3.length cg] 34 (n := wG.heap.size) (by simp)
                have HT_89 := Lib.hid (Rd.mono HT_78.out (belowA _ (.cells #[.int .i64 a3, .slice ag l3.length cg] 34)))
                clear HT_78
                clear k0_0 k0_1 k1_0 k1_1 e0_ e1_
                have k0_0 := hs88.cellAt 0 rfl 0 rfl
                have k0_1 := hs88.cellAt 0 rfl 1 rfl
                have k1_0 := hs88.cellAt 1 rfl 0 rfl
                have k1_1 := hs88.cellAt 1 rfl 1 rfl
                have k2_0 := hs88.cellAt 2 rfl 0 rfl
                have k2_1 := hs88.cellAt 2 rfl 1 rfl
                have e0_ := cellL hs88.bel e0
                have e1_ := cellL hs88.bel e1
                go_wp2_with fail
                refine (l07Prime_c (k : Int) _).mono ?_
                rintro e w90 ⟨rfl, rfl⟩
                cases hpr : isPr (k : Int) with
                | false =>
                  obtain rfl : FF = ((0, []), 0, 6) := HW5.out.trans (by unfold waysE; rw [if_neg (by simp only; rw [hpr]; simp)])
                  clear HW5 hpr
                  have f0_0 := hs88.freeAt 0 rfl 0
                  have f0_1 := hs88.freeAt 0 rfl 1
                  go_wp2_with fail
                  have hs91 := hs88.set (p := []) (by simp <;> omega) 0 (.int .i64 0)
                  have hs92 := hs91.set (p := []) (by simp <;> omega) 1 (.slice none 0 0)
                  have x0 := (hs92.cellAt 0 rfl 0 rfl)
                  have x1 := (hs92.cellAt 0 rfl 1 rfl)
                  exact bodyPost_ret (v := .tuple #[.int .i64 0, .agg #[.int .i64 0, .slice none 0 0], .int .i64 6]) (by simp [results, Tryz.results57, go_sem, x0, x1]) rfl ⟨_, _, rfl, fresh_intO2 ⟨by decide, by decide⟩ fresh_nil_list, hs92.bel⟩
                | true =>
                  have HPR := Lib.hid hpr
                  clear hpr
                  have hz_wL : wG.heap.size + 1 ≤ ((wG.alloc (.cells #[.int .i64 a3, .slice ag l3.length cg] 34))).heap.size := by simp
                  generalize hgen_wL : (wG.alloc (.cells #[.int .i64 a3, .slice ag l3.length cg] 34)) = wL at *
                  clear hgen_wL
                  go_wp2_with fail
                  have HSTL := Lib.hid hs88
                  have HTL := Lib.hid HT_89.out
                  have hzL := hs88.hi
                  go_loopw [14] (fun i wl => ∃ j : Nat, j ≤ rs.length ∧ i = .int .i64 j ∧ Hid (Below wL.heap.size wL wl) ∧ Hid ((rs.take j).all (affIs (k : Int)) = true)) (fun i _ => rs.length - (intOf i).toNat)
                  case atStart => exact ⟨0, Nat.zero_le _, rfl, Below.refl _ _, rfl⟩
                  case round =>
                    obtain ⟨j, hj, rfl, hbl, hal⟩ := hrel
                    have hsr := HSTL.out.step hbl.out
                    have hszr := hsr.hi
                    have HT := Lib.hid (Rd.mono HTL.out hbl.out)
                    have HBQ := hbl
                    clear hbl
                    have k0_0 := hsr.cellAt 0 rfl 0 rfl
                    have k0_1 := hsr.cellAt 0 rfl 1 rfl
                    have e0_ := cellL hsr.bel e0
                    have e1_ := cellL hsr.bel e1
                    by_cases hlj : j < rs.length
                    · have hljI : (j : Int) < rs.length := by omega
                      obtain ⟨b1, o1, aS, cS, rfl, q0, q1, hTS⟩ := tmpl_at HT.out hlj
                      have HRK := Lib.hid (HRS.out (rs.getD j (0, [])) (by simp [List.getD, hlj]))
                      have HRR := Lib.hid (show Rd _ [.int .i64 (rs.getD j (0, [])).1, .slice aS (rs.getD j (0, [])).2.length cS] (rs.getD j (0, [])) from ⟨[_], [_], rfl, ⟨rfl, i64_of _ (by have := (relOk_get HRK.out).2.1; omega) (by have := (relOk_get HRK.out).2.1; omega)⟩, hTS⟩)
                      have HTK := Lib.hid (show (rs.take (j + 1)).all (affIs (k : Int)) = affIs (k : Int) (rs.getD j (0, [])) by
                        rw [List.take_succ_eq_append_getElem hlj, List.all_append, hal.out]
                        simp [List.getD, hlj])
                      have HNO := Lib.hid (show affIs (k : Int) (rs.getD j (0, [])) = false → rs.all (affIs (k : Int)) = false from fun h => by
                        rw [List.all_eq_false]
                        exact ⟨rs.getD j (0, []), by simp [List.getD, hlj], by rw [h]; decide⟩)
                      clear hTS
                      generalize rs.getD j (0, []) = RJ at *
                      obtain ⟨aj, tj⟩ := RJ
                      simp only at q0 q1
                      go_upto_region 23 with fail
                      refine wp_region_noPanic (wp_region_tree4 (fun w' => w'.cell? ⟨w.heap.size, 0, none⟩ = some (.int .i64 0) ∧ w'.cell? ⟨w.heap.size, 1, none⟩ = some (.slice none 0 0) ∧ w'.cell? ⟨tp, 0, none⟩ = some (.int .i64 k) ∧ w'.cell? ⟨tp, 1, none⟩ = some (.slice (some ⟨b1, o1, none⟩) rs.length ct0) ∧ w'.cell? ⟨b1, o1 + j * 2, none⟩ = some (.int .i64 aj) ∧ w'.cell? ⟨b1, o1 + j * 2 + 1, none⟩ = some (.slice aS tj.length cS)) (.float 0 (.float 1 (.float 2 (.float 3 (.float 4 (.float 5 (.float 6 (.float 7 (.float 8 (.float 9 (.hard 10 (.float 11 .nil)))))))))))) (by kernel_rfl) (by kernel_rfl) (by kernel_rfl) rfl ?_ (fun _ _ _ _ _ h => h) ?_)
                      · exact ⟨(hsr.drew).cellAt 0 rfl 0 rfl, (hsr.drew).cellAt 0 rfl 1 rfl, cellL (hsr.drew).bel e0, cellL (hsr.drew).bel e1, cellL (belowD _) q0, cellL (belowD _) q1⟩
                      have hs93 := hsr.drew
                      have q0_94 := cellL (belowD _) q0
                      clear q0
                      have q1_95 := cellL (belowD _) q1
                      clear q1
                      have HT_96 := Lib.hid (Rd.mono HT.out (belowD _))
                      clear HT
                      have HBQ_97 := Lib.hid (HBQ.out.trans (((belowD _)).mono HBQ.out.size))
                      clear HBQ
                      have HRR_98 := Lib.hid (Rd.mono HRR.out (belowD _))
                      clear HRR
                      clear k0_0 k0_1 e0_ e1_
                      have hz_wd99 : wr.heap.size ≤ (wr.drew).heap.size := by simp
                      generalize hgen_wd99 : wr.drew = wd99 at *
                      have HG_wd99 := Lib.hid hgen_wd99
                      clear hgen_wd99
                      (repeat (first | (apply t4_skip rfl (by rfl); try simp only [Act.put, List.setIfInBounds_toArray, List.set_cons_zero, List.set_cons_succ]) | (apply t4_float rfl (by rfl); (· (intro w' hS; go_simp <;> with_reducible rfl)); (try simp only [Act.put, List.setIfInBounds_toArray, List.set_cons_zero, List.set_cons_succ]))))
                      refine t4_hard rfl (by rfl) (fun K hK => ?_)
                      go_wp2_with (go_at_call 120; refine (l07Is_c (k : Int) (aj, tj) b1 (o1 + j * 2) _ _ _ HRR_98.out q0_94 q1_95 HPR.out HRK.out).mono ?_; rintro e w100 ⟨rfl, hbw100⟩)
                      have hz_w100 : wd99.heap.size ≤ w100.heap.size := by have h9 := hbw100.size; (try simp at h9); omega
                      have hs101 := hs93.step hbw100
                      have q0_102 := cellL hbw100 q0_94
                      clear q0_94
                      have q1_103 := cellL hbw100 q1_95
                      clear q1_95
                      have HT_104 := Lib.hid (Rd.mono HT_96.out hbw100)
                      clear HT_96
                      have HBQ_105 := Lib.hid (HBQ_97.out.trans ((hbw100).mono HBQ_97.out.size))
                      clear HBQ_97
                      have HRR_106 := Lib.hid (Rd.mono HRR_98.out hbw100)
                      clear HRR_98
                      refine ⟨⟨hs101.cellAt 0 rfl 0 rfl, hs101.cellAt 0 rfl 1 rfl, cellL hs101.bel e0, cellL hs101.bel e1, q0_102, q1_103⟩, ?_⟩
                      (repeat (first | (apply t4_skip rfl (by rfl); try simp only [Act.put, List.setIfInBounds_toArray, List.set_cons_zero, List.set_cons_succ]) | (apply t4_float rfl (by rfl); (· (intro w' hS; go_simp <;> with_reducible rfl)); (try simp only [Act.put, List.setIfInBounds_toArray, List.set_cons_zero, List.set_cons_succ]))))
                      have k0_0 := hs101.cellAt 0 rfl 0 rfl
                      have k0_1 := hs101.cellAt 0 rfl 1 rfl
                      have e0_ := cellL hs101.bel e0
                      have e1_ := cellL hs101.bel e1
                      refine t4_nil (NoPanic.normal ?_)
                      cases haf : affIs (k : Int) (aj, tj) with
                      | true =>
                        rw [haf] at HTK
                        have HBR := Lib.hid HBQ_105.out
                        clear haf
                        go_wp2_with fail
                        go_roundw
                        case rel => exact ⟨j + 1, hlj, by go_num, HBR.out, HTK.out⟩
                        case measure => simp [intOf]; omega
                      | false =>
                        obtain rfl : FF = ((0, []), 0, 6) := HW5.out.trans (by unfold waysE; rw [if_neg (by simp only; rw [HNO.out haf]; simp)])
                        clear HW5 haf
                        clear k0_0 k0_1 e0_ e1_
                        clear q0_102
                        clear q1_103
                        clear HRR_106
                        clear HBQ_105
                        clear HT_104
                        have k0_0 := hs101.cellAt 0 rfl 0 rfl
                        have k0_1 := hs101.cellAt 0 rfl 1 rfl
                        have e0_ := cellL hs101.bel e0
                        have e1_ := cellL hs101.bel e1
                        have f0_0 := hs101.freeAt 0 rfl 0
                        have f0_1 := hs101.freeAt 0 rfl 1
                        go_wp2_with fail
                        have hs107 := hs101.set (p := []) (by simp <;> omega) 0 (.int .i64 0)
                        have hs108 := hs107.set (p := []) (by simp <;> omega) 1 (.slice none 0 0)
                        have x0 := (hs108.cellAt 0 rfl 0 rfl)
                        have x1 := (hs108.cellAt 0 rfl 1 rfl)
                        exact bodyPost_ret (v := .tuple #[.int .i64 0, .agg #[.int .i64 0, .slice none 0 0], .int .i64 6]) (by simp [results, Tryz.results57, go_sem, x0, x1]) rfl ⟨_, _, rfl, fresh_intO2 ⟨by decide, by decide⟩ fresh_nil_list, hs108.bel⟩
                    · obtain rfl : j = rs.length := by omega
                      have hnj : ¬ ((rs.length : Int) < rs.length) := by omega
                      have hall : rs.all (affIs (k : Int)) = true := by have := hal.out; rwa [List.take_length] at this
                      obtain rfl : FF = (affOp (k : Int), 4, 0) := HW5.out.trans (by unfold waysE; rw [if_pos ⟨HPR.out, hall⟩])
                      clear HW5 hall hal
                      have hp23 := isPr_true HPR.out
                      go_wp2_with fail
                      refine (l07Affine_c (k : Int) _ (by omega) (by omega)).mono ?_
                      rintro e w109 ⟨v9, rfl, fr9, hbw109⟩
                      have hz_w109 : wr.heap.size ≤ w109.heap.size := by have h9 := hbw109.size; (try simp at h9); omega
                      have hs110 := hsr.step hbw109
                      have HT_111 := Lib.hid (Rd.mono HT.out hbw109)
                      clear HT
                      have HBQ_112 := Lib.hid (HBQ.out.trans ((hbw109).mono HBQ.out.size))
                      clear HBQ
                      clear k0_0 k0_1 e0_ e1_
                      have k0_0 := hs110.cellAt 0 rfl 0 rfl
                      have k0_1 := hs110.cellAt 0 rfl 1 rfl
                      have e0_ := cellL hs110.bel e0
                      have e1_ := cellL hs110.bel e1
                      obtain ⟨a9, c9, rfl, _⟩ := rd_list fr9.rd
                      have HFR := Lib.hid (show Fresh (w.heap.size + 1) _ [.int .i64 3, .slice a9 (tableTo (affF (k : Int)) (k : Int) 3 ((k : Int) ^ 3).toNat).length c9] (affOp (k : Int)) from fresh_intO2 ⟨by decide, by decide⟩ (fr9.lower (by omega)))
                      clear fr9
                      generalize hTT : tableTo (affF (k : Int)) (k : Int) 3 ((k : Int) ^ 3).toNat = TT at *
                      clear hTT
                      have f0_0 := hs110.freeAt 0 rfl 0
                      have f0_1 := hs110.freeAt 0 rfl 1
                      go_wp2_with fail
                      have HFX := Lib.hid (((HFR.out.setCell (a := ⟨w.heap.size, 0, none⟩) (by (try simp only); omega) (.int .i64 3)).setCell (a := ⟨w.heap.size, 1, none⟩) (by (try simp only); omega) (.slice a9 TT.length c9)).lower (lo' := w.heap.size) (by omega))
                      have hs113 := hs110.set (p := []) (by simp <;> omega) 0 (.int .i64 3)
                      have hs114 := hs113.set (p := []) (by simp <;> omega) 1 (.slice a9 TT.length c9)
                      have x0 := (hs114.cellAt 0 rfl 0 rfl)
                      have x1 := (hs114.cellAt 0 rfl 1 rfl)
                      exact bodyPost_ret (v := .tuple #[.int .i64 4, .agg #[.int .i64 3, .slice a9 TT.length c9], .int .i64 0]) (by simp [results, Tryz.results57, go_sem, x0, x1]) rfl ⟨_, _, rfl, HFX.out, hs114.bel⟩

set_option maxRecDepth 100000 in
set_option maxHeartbeats 4000000 in
theorem sSolverFor_c (t : Tmpl) (t0 t1 : Value) (w : World) (ht : Rd w [t0, t1] t) :
    Calls Tryz.prog 18 #[.agg #[t0, t1]] w fun e w' => ∃ v0 v1, e = .returned (.tuple #[.int .i64 (solverF t).2.1, .agg #[v0, v1], .int .i64 (solverF t).2.2]) ∧ Fresh w.heap.size w' [v0, v1] (solverF t).1 ∧ Below w.heap.size w w' := by
  have HT := Lib.hid ht
  obtain ⟨FF, hFF⟩ : ∃ FF, FF = solverF t := ⟨_, rfl⟩
  rw [← hFF]
  have HFF := Lib.hid hFF
  clear hFF
  obtain ⟨size, rs⟩ := t
  have zt := rd_cons rfl ht
  obtain ⟨rfl, hI⟩ := rd_i1 zt.1
  obtain ⟨at0, ct0, rfl, _⟩ := rd_list zt.2
  clear ht zt
  have hs115 := (St.start w).alloc #[.int .i64 size, .slice at0 rs.length ct0] 26 (n := w.heap.size) (by simp)
  have k0_0 := hs115.cellAt 0 rfl 0 rfl
  have k0_1 := hs115.cellAt 0 rfl 1 rfl
  have hs116 := hs115.alloc #[.int .i64 0, .slice none 0 0] 34 (n := w.heap.size + 1) (by simp)
  clear k0_0 k0_1
  have k0_0 := hs116.cellAt 0 rfl 0 rfl
  have k0_1 := hs116.cellAt 0 rfl 1 rfl
  have k1_0 := hs116.cellAt 1 rfl 0 rfl
  have k1_1 := hs116.cellAt 1 rfl 1 rfl
  go_enter Tryz.func18, Tryz.ntmps18
  go_wp2_with fail
  refine (l01Template_c (size, rs) (w.heap.size) _ _ _ (Rd.mono HT.out hs116.bel) (hs116.cellAt 0 rfl 0 rfl) (hs116.cellAt 0 rfl 1 rfl)).mono ?_
  rintro e w117 ⟨rfl, hbw117⟩
  have hz_w117 : w.heap.size + 1 + 1 ≤ w117.heap.size := by have h9 := hbw117.size; (try simp at h9); omega
  have hs118 := hs116.step hbw117
  clear k0_0 k0_1 k1_0 k1_1
  have k0_0 := hs118.cellAt 0 rfl 0 rfl
  have k0_1 := hs118.cellAt 0 rfl 1 rfl
  have k1_0 := hs118.cellAt 1 rfl 0 rfl
  have k1_1 := hs118.cellAt 1 rfl 1 rfl
  cases hok : tmplOk (size, rs) with
  | false =>
    obtain rfl : FF = ((0, []), 0, 1) := HFF.out.trans (by unfold solverF; rw [if_neg (by rw [hok]; decide)])
    clear HFF hok
    have f1_0 := hs118.freeAt 1 rfl 0
    have f1_1 := hs118.freeAt 1 rfl 1
    go_wp2_with fail
    have hs119 := hs118.set (p := [_]) (by simp <;> omega) 0 (.int .i64 0)
    have hs120 := hs119.set (p := [_]) (by simp <;> omega) 1 (.slice none 0 0)
    have x0 := (hs120.cellAt 1 rfl 0 rfl)
    have x1 := (hs120.cellAt 1 rfl 1 rfl)
    exact bodyPost_ret (v := .tuple #[.int .i64 0, .agg #[.int .i64 0, .slice none 0 0], .int .i64 1]) (by simp [results, Tryz.results18, go_sem, x0, x1]) rfl ⟨_, _, rfl, fresh_intO2 ⟨by decide, by decide⟩ fresh_nil_list, hs120.bel⟩
  | true =>
    have HF2 := Lib.hid (show FF = waysT (size, rs) from HFF.out.trans (by unfold solverF; rw [if_pos hok]))
    have HOK := Lib.hid hok
    clear HFF hok
    go_wp2_with fail
    refine (l06Solver_c (size, rs) (w.heap.size) _ _ _ (Rd.mono HT.out hs118.bel) (hs118.cellAt 0 rfl 0 rfl) (hs118.cellAt 0 rfl 1 rfl) HOK.out).mono ?_
    rintro e w5 ⟨u0, u1, rfl, frF, hb5⟩
    rw [← HF2.out] at frF ⊢
    have hz_w5 : w117.heap.size ≤ w5.heap.size := by have h9 := hb5.size; (try simp at h9); omega
    have hs121 := hs118.step hb5
    clear k0_0 k0_1 k1_0 k1_1
    have k0_0 := hs121.cellAt 0 rfl 0 rfl
    have k0_1 := hs121.cellAt 0 rfl 1 rfl
    have k1_0 := hs121.cellAt 1 rfl 0 rfl
    have k1_1 := hs121.cellAt 1 rfl 1 rfl
    clear HF2
    obtain ⟨⟨fa, ft⟩, way, code⟩ := FF
    simp only at frF ⊢
    have zf := rd_cons rfl frF.rd
    obtain ⟨rfl, _⟩ := rd_i1 zf.1
    obtain ⟨af, cf, rfl, _⟩ := rd_list zf.2
    have HFR := Lib.hid (frF.lower (lo' := w.heap.size + 1 + 1) (by omega))
    clear frF zf
    have f1_0 := hs121.freeAt 1 rfl 0
    have f1_1 := hs121.freeAt 1 rfl 1
    go_wp2_with fail
    have HFX := Lib.hid (((HFR.out.setCell (a := ⟨w.heap.size + 1, 0, none⟩) (by (try simp only); omega) (.int .i64 fa)).setCell (a := ⟨w.heap.size + 1, 1, none⟩) (by (try simp only); omega) (.slice af ft.length cf)).lower (lo' := w.heap.size) (by omega))
    have hs122 := hs121.set (p := [_]) (by simp <;> omega) 0 (.int .i64 fa)
    have hs123 := hs122.set (p := [_]) (by simp <;> omega) 1 (.slice af ft.length cf)
    have x0 := (hs123.cellAt 1 rfl 0 rfl)
    have x1 := (hs123.cellAt 1 rfl 1 rfl)
    exact bodyPost_ret (v := .tuple #[.int .i64 way, .agg #[.int .i64 fa, .slice af ft.length cf], .int .i64 code]) (by simp [results, Tryz.results18, go_sem, x0, x1]) rfl ⟨_, _, rfl, HFX.out, hs123.bel⟩
/-- What is answered is small. -/
theorem constOp_len {size a : Int} (hs : size ≤ 4) : (constOp size a).2.length ≤ 4 := by
  simp only [constOp, List.length_replicate]; omega
theorem firstF_len {t : Tmpl} {m : Nat} {isK : OpT → Bool} (hm : 1 ≤ m ∧ m ≤ 3) : (firstF t m isK).2.2.length ≤ 64 := by
  by_cases h : (firstF t m isK).1 = 0
  · obtain ⟨h1, h2, _, h4⟩ := first_ok hm h
    have h5 := valsOk_len (opOk_get h2).2.2
    have h6 := pow64 (tmplOk_get h1).1 (opOk_get h2).2.1
    omega
  · unfold firstF at h ⊢
    split
    · simp
    · split
      · simp
      · cases hr : firstR (fun l => isK ((m : Int), l)) t m with
        | hit l =>
          rename_i h1 h2
          rw [if_neg h1, if_neg h2, hr] at h
          simp at h
        | out => simp
        | dry s => simp
theorem solverF_small (t : Tmpl) : mc_Op (solverF t).1 ≤ 1000000 := by
  unfold mc_Op solverF
  split
  · rename_i hok
    have hs := (tmplOk_get hok).1
    have hE : (waysE t).1.2.length ≤ 64 := by
      unfold waysE
      split
      · rename_i h
        have h1 := opOk_get (affOp_ok h.1)
        have h2 := valsOk_len h1.2.2
        have h3 := pow64 h1.1 h1.2.1
        show (affOp t.1).2.length ≤ 64
        omega
      · simp
    have hM : (waysM t).1.2.length ≤ 64 := by
      unfold waysM
      split
      · exact firstF_len (by omega)
      · exact hE
    have hF : (waysF t).1.2.length ≤ 64 := by
      unfold waysF
      split
      · exact firstF_len (by omega)
      · exact hM
    unfold waysT
    split
    · split
      · rename_i a _
        simp only
        have := constOp_len (a := (a : Int)) hs.2
        omega
      · omega
    · omega
  · simp

end Go.Proofs.YtllenfkbfeanmaaGreat

