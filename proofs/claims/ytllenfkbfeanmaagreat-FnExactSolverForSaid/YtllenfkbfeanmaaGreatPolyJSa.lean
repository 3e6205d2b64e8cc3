/-
  CONTRACTS: the search for polymorphisms, the program's side: how many lists, looking at a table, the search.
-/
import Derived.Test.YtllenfkbfeanmaaGreatPolyISa
import Derived.Test.YtllenfkbfeanmaaGreatPolySSa
import Derived.Test.YtllenfkbfeanmaaGreatPolyBSa
namespace Go.Proofs.YtllenfkbfeanmaaGreat
open Go.RowKit Go.Shelf Go.IntWalk
open Rep (Rd Own sz)
set_option linter.unusedSimpArgs false
set_option linter.unusedVariables false

set_option maxRecDepth 100000 in
set_option maxHeartbeats 4000000 in
theorem manyLooks_c (t : Tmpl) (m : Nat) (t0 t1 : Value) (w : World) (ht : Rd w [t0, t1] t) (hok : tmplOk t = true) (hm : 1 ≤ m ∧ m ≤ 3) :
    Calls Tryz.prog 128 #[.agg #[t0, t1], .int .i64 m] w fun e w' => e = .returned (.int .i64 (capTo t m t.2.length)) ∧ Below w.heap.size w w' := by
  have HML := Lib.hid (many_le hok hm.2)
  have hrl := (tmplOk_get hok).2.1
  obtain ⟨size, rs⟩ := t
  have zt := rd_cons rfl ht
  obtain ⟨rfl, hI⟩ := rd_i1 zt.1
  obtain ⟨at0, ct0, rfl, _⟩ := rd_list zt.2
  have HT := Lib.hid ht
  simp only at hrl
  clear ht zt hok
  have hs1 := (St.start w).alloc #[.int .i64 size, .slice at0 rs.length ct0] 26 (n := w.heap.size) (by simp)
  have k0_0 := hs1.cellAt 0 rfl 0 rfl
  have k0_1 := hs1.cellAt 0 rfl 1 rfl
  go_enter Tryz.func128, Tryz.ntmps128
  go_upto_region 2 with fail
  have hz_wT : w.heap.size + 1 ≤ ((w.alloc (.cells #[.int .i64 size, .slice at0 rs.length ct0] 26))).heap.size := by simp
  generalize hgen_wT : (w.alloc (.cells #[.int .i64 size, .slice at0 rs.length ct0] 26)) = wT at *
  clear hgen_wT
  go_wp2_with fail
  have HST := Lib.hid hs1
  have HTQ := Lib.hid (Rd.mono HT.out hs1.bel)
  have hzq := hs1.hi
  go_loopw [5, 11] (fun s i wl => ∃ j : Nat, j ≤ rs.length ∧ i = .int .i64 j ∧ s = .int .i64 (capTo (size, rs) m j) ∧ Hid (Below wT.heap.size wT wl)) (fun _ i _ => rs.length - (intOf i).toNat)
  case atStart => exact ⟨0, Nat.zero_le _, rfl, rfl, Below.refl _ _⟩
  case round =>
    obtain ⟨j, hj, rfl, rfl, hbl⟩ := hrel
    have hsr := HST.out.step hbl.out
    have HT := Lib.hid (Rd.mono HTQ.out hbl.out)
    have HBQ := hbl
    clear hbl
    have k0_0 := hsr.cellAt 0 rfl 0 rfl
    have k0_1 := hsr.cellAt 0 rfl 1 rfl
    by_cases hlt : j < rs.length
    · have hltI : (j : Int) < rs.length := by omega
      obtain ⟨b1, o1, aS, cS, rfl, q0, q1, hTS⟩ := tmpl_at HT.out hlt
      have h1 := (capTo_le (size, rs) m j).2.2.2
      have h2 : (rs.getD j (0, [])).2.length ^ m ≤ 16777216 := (HML.out j (show j ≤ rs.length by omega)).2 j (show j < rs.length by omega)
      have HPW := Lib.hid (show ((rs.getD j (0, [])).2.length : Int) ^ m = (((rs.getD j (0, [])).2.length ^ m : Nat) : Int) from (Int.natCast_pow _ _).symm)
      have HCS := Lib.hid (show capTo (size, rs) m (j + 1) = capTo (size, rs) m j + min 4001 ((rs.getD j (0, [])).2.length ^ m) from rfl)
      generalize (rs.getD j (0, [])).2.length ^ m = PJ at *
      generalize (rs.getD j (0, [])).2.length = LJ at *
      generalize (rs.getD j (0, [])).1 = AJ at *
      have HCI := Lib.hid (show ((capTo (size, rs) m (j + 1) : Nat) : Int) = ((capTo (size, rs) m j : Nat) : Int) + (if (PJ : Int) < 4001 then (PJ : Int) else 4001) by
        rw [HCS.out]
        by_cases h9 : (PJ : Int) < 4001
        · rw [if_pos h9]; omega
        · rw [if_neg h9]; omega)
      clear hTS
      go_upto_region 5 with fail
      have hs2 := hsr.alloc #[.int .i64 AJ, .slice aS LJ cS] 50 (n := wr.heap.size) (by simp)
      have q0_3 := cellL (belowA _ (.cells #[.int .i64 AJ, .slice aS LJ cS] 50)) q0
      clear q0
      have q1_4 := cellL (belowA _ (.cells #[.int .i64 AJ, .slice aS LJ cS] 50)) q1
      clear q1
      have HT_5 := Lib.hid (Rd.mono HT.out (belowA _ (.cells #[.int .i64 AJ, .slice aS LJ cS] 50)))
      clear HT
      have HBQ_6 := Lib.hid (HBQ.out.trans (((belowA _ (.cells #[.int .i64 AJ, .slice aS LJ cS] 50))).mono HBQ.out.size))
      clear HBQ
      clear k0_0 k0_1
      have k0_0 := hs2.cellAt 0 rfl 0 rfl
      have k0_1 := hs2.cellAt 0 rfl 1 rfl
      have k1_0 := hs2.cellAt 1 rfl 0 rfl
      have k1_1 := hs2.cellAt 1 rfl 1 rfl
      go_wp2_with fail
      refine (power_c LJ m _ (by omega) (by omega) (by omega) (by rw [Int.toNat_natCast, HPW.out]; omega)).mono ?_
      rintro e w2 ⟨rfl, rfl⟩
      rw [Int.toNat_natCast, HPW.out]
      have HBR := Lib.hid HBQ_6.out
      go_wp2_with fail
      go_roundw
      case rel => exact ⟨j + 1, hlt, by go_num, by rw [HCI.out], HBR.out⟩
      case measure => simp [intOf]; omega
    · obtain rfl : j = rs.length := by omega
      have hnl : ¬ ((rs.length : Int) < rs.length) := by omega
      go_wp2_with fail
      go_ret
      exact ⟨rfl, hsr.bel⟩

set_option maxRecDepth 100000 in
set_option maxHeartbeats 4000000 in
theorem goes_c (t : Tmpl) (m p n xb cb lo hi H : Nat) (es ec tr te : TypeId) (tab : List Int) (steps : Nat) (w : World) (hok : tmplOk t = true) (hn4 : n ≤ 64) (hp : p < n) (htl : tab.length = p + 1) (hv : Val t.1 tab)
    (hF : FindR lo hi H w t m xb cb n es ec tr te tab steps) :
    Calls Tryz.prog 187 #[.pointer (some ⟨xb, 0, none⟩)] w fun e w' => e = .returned (.bool (fitL t m tab)) ∧ Below w.heap.size w w' := by
  have hs := (tmplOk_get hok).1
  have hfit : fitL t m tab = (dueL (looksTo t m t.2.length) p).all (inL t tab) := by unfold fitL; rw [htl]; rfl
  rw [hfit]
  have HLK := Lib.hid (fun l (hl : l ∈ dueL (looksTo t m t.2.length) p) => show LookOk t m l ∧ maxC l.2 = (p : Int) from ⟨looksTo_ok hok _ (Nat.le_refl _) l (dueL_mem hl).1, (dueL_mem hl).2⟩)
  have HPN := Lib.hid (fun l (hl : l ∈ dueL (looksTo t m t.2.length) p) => show ∃ PN : Nat, t.1 ^ (t.2.getD l.1.toNat (0, [])).1.toNat = (PN : Int) ∧ PN ≤ 256 ∧ (t.2.getD l.1.toNat (0, [])).1.toNat ≤ 4 from by
    have h1 := HLK.out l hl
    have hm2 : t.2.getD l.1.toNat (0, []) ∈ t.2 := by have := h1.1.rel; simp [List.getD, show l.1.toNat < t.2.length by omega]
    have hr := (tmplOk_get hok).2.2 _ hm2
    have h2 := pow256 hs (relOk_get hr).2.1
    have h3 := (relOk_get hr).2.1
    exact ⟨(t.1 ^ (t.2.getD l.1.toNat (0, [])).1.toNat).toNat, by omega, by omega, by omega⟩)
  have HBD := Lib.hid (fun l (hl : l ∈ dueL (looksTo t m t.2.length) p) => show ∀ c, c ∈ l.2 → 0 ≤ c ∧ c < (tab.length : Int) from fun c hc => by
    have := maxC_mem hc
    have := (HLK.out l hl).2
    have := ((HLK.out l hl).1.val c hc).1
    omega)
  have HIN := Lib.hid (fun l (hl : l ∈ dueL (looksTo t m t.2.length) p) => @inL_set t hok m l (HLK.out l hl).1 tab hv (fun c hc => by have := HBD.out l hl c hc; omega))
  obtain ⟨aT, cT, sv, fv, tv, hb0, hM, hI, hA⟩ := hF.fblk
  obtain ⟨ad, cd, cp, hD⟩ := hM.at hp
  have hS := hM.rdS
  obtain ⟨as_, cs_, rfl, _⟩ := rd_list hS
  obtain ⟨aV, cV, rfl, _⟩ := hA.len
  obtain ⟨ad', cd', e', hdl⟩ := rd_list hD
  have hlm := (rdSl_len hdl).2
  unfold maxLen at hlm
  have HSL := Lib.hid (show (insTo t t.2.length).length = t.2.length by simp [insTo])
  have HSG := Lib.hid (fun k (h : k < t.2.length) (h2 : k < (insTo t t.2.length).length) => show (insTo t t.2.length)[k] = setTo t.1 (t.1 ^ (t.2.getD k (0, [])).1.toNat).toNat (t.2.getD k (0, [])).2 (t.2.getD k (0, [])).2.length by simp [insTo, List.getD, h])
  have HSS := Lib.hid hS
  have HD := Lib.hid hD
  have HT := Lib.hid hA.rd
  have HTL := Lib.hid htl
  have hpI : (p : Int) < n := by omega
  have c0 : w.cell? ⟨xb, 0, none⟩ = some (.int .i64 t.1) := by rw [cell_at_block hb0]; rfl
  have c3 : w.cell? ⟨xb, 3, none⟩ = some (.slice (some ⟨cb, 0, none⟩) n n) := by rw [cell_at_block hb0]; rfl
  have c4 : w.cell? ⟨xb, 4, none⟩ = some (.slice as_ (insTo t t.2.length).length cs_) := by rw [cell_at_block hb0]; rfl
  have c7 : w.cell? ⟨xb, 7, none⟩ = some (.slice aV tab.length cV) := by rw [cell_at_block hb0]; rfl
  have hk1 : (tab.length : Int) - 1 = (p : Int) := by omega
  have hwp : IntKind.i64.wrap (p : Int) = (p : Int) := i64_in _ (by omega)
  clear hS hD hdl hok hfit htl hv hF hb0 hM hI hA e'
  generalize dueL (looksTo t m t.2.length) p = D at *
  generalize insTo t t.2.length = SS at *
  have c0_ := cellL (St.start w).bel c0
  clear c0_
  have c0_ := cellL (St.start w).bel c0
  have c3_ := cellL (St.start w).bel c3
  clear c0_ c3_
  have c0_ := cellL (St.start w).bel c0
  have c3_ := cellL (St.start w).bel c3
  have c4_ := cellL (St.start w).bel c4
  clear c0_ c3_ c4_
  have c0_ := cellL (St.start w).bel c0
  have c3_ := cellL (St.start w).bel c3
  have c4_ := cellL (St.start w).bel c4
  have c7_ := cellL (St.start w).bel c7
  clear c0_ c3_ c4_ c7_
  have c0_ := cellL (St.start w).bel c0
  have c3_ := cellL (St.start w).bel c3
  have c4_ := cellL (St.start w).bel c4
  have c7_ := cellL (St.start w).bel c7
  have cp_ := cellL (St.start w).bel cp
  go_enter Tryz.func187, Tryz.ntmps187
  go_upto_region 1 with fail
  refine wp_region_noPanic (wp_region_tree4 (fun w' => w'.cell? ⟨xb, 0, none⟩ = some (.int .i64 t.1) ∧ w'.cell? ⟨xb, 3, none⟩ = some (.slice (some ⟨cb, 0, none⟩) n n) ∧ w'.cell? ⟨xb, 4, none⟩ = some (.slice as_ SS.length cs_) ∧ w'.cell? ⟨xb, 7, none⟩ = some (.slice aV tab.length cV) ∧ w'.cell? ⟨cb, p, none⟩ = some (.slice ad D.length cd)) (.float 0 (.float 1 (.float 2 (.float 3 (.float 4 (.float 5 (.float 6 (.float 7 (.float 8 (.float 9 (.float 10 (.float 11 (.float 12 (.float 13 .nil)))))))))))))) (by kernel_rfl) (by kernel_rfl) (by kernel_rfl) rfl ?_ (fun _ _ _ _ _ h => h) ?_)
  · exact ⟨cellL ((St.start w).drew).bel c0, cellL ((St.start w).drew).bel c3, cellL ((St.start w).drew).bel c4, cellL ((St.start w).drew).bel c7, cellL ((St.start w).drew).bel cp⟩
  have hs7 := (St.start w).drew
  clear c0_ c3_ c4_ c7_ cp_
  have hz_wd8 : w.heap.size ≤ (w.drew).heap.size := by simp
  generalize hgen_wd8 : w.drew = wd8 at *
  have HG_wd8 := Lib.hid hgen_wd8
  clear hgen_wd8
  (repeat (first | (apply t4_skip rfl (by rfl); try simp only [Act.put, List.setIfInBounds_toArray, List.set_cons_zero, List.set_cons_succ]) | (apply t4_float rfl (by rfl); (· (intro w' hS; go_simp <;> with_reducible rfl)); (try simp only [Act.put, List.setIfInBounds_toArray, List.set_cons_zero, List.set_cons_succ]))))
  have c0_ := cellL hs7.bel c0
  have c3_ := cellL hs7.bel c3
  have c4_ := cellL hs7.bel c4
  have c7_ := cellL hs7.bel c7
  have cp_ := cellL hs7.bel cp
  refine t4_nil (NoPanic.normal ?_)
  go_wp2_with fail
  go_loopw [21] (fun i wl => ∃ k : Nat, k ≤ D.length ∧ i = .int .i64 k ∧ Hid (Below w.heap.size w wl) ∧ Hid (∀ j (hj : j < D.length), j < k → inL t tab D[j] = true)) (fun i _ => D.length - (intOf i).toNat)
  case atStart => exact ⟨0, Nat.zero_le _, rfl, hs7.bel, fun j _ hj => absurd hj (Nat.not_lt_zero _)⟩
  case round =>
    obtain ⟨wo, rfl⟩ : ∃ x, x = wr := ⟨_, rfl⟩
    obtain ⟨k, hk, rfl, hbl, hr⟩ := hrel
    have hsr := (St.start w).step hbl.out
    have HB := Lib.hid hbl.out
    have c0_ := cellL hsr.bel c0
    have c3_ := cellL hsr.bel c3
    have c4_ := cellL hsr.bel c4
    have c7_ := cellL hsr.bel c7
    have cp_ := cellL hsr.bel cp
    by_cases hlt : k < D.length
    · have hkl : (k : Int) < D.length := by omega
      obtain ⟨ad', cd', e', hdl⟩ := rd_list (Rd.mono HD.out hsr.bel)
      simp only [Value.slice.injEq] at e'
      obtain ⟨rfl, -, rfl⟩ := e'
      obtain ⟨b1, o1, r0, r1, rfl, q0, q1, hy⟩ := rdSl_two rfl hdl k hlt
      have HM := Lib.hid (List.getElem_mem hlt)
      obtain ⟨hlk, hmx⟩ := HLK.out _ HM.out
      obtain ⟨PN, hPN, hPN1, hra⟩ := HPN.out _ HM.out
      obtain ⟨e1, hV, hc0, hc1⟩ := HIN.out _ HM.out hPN
      have HCB := Lib.hid (HBD.out _ HM.out)
      have HNX := Lib.hid (fun (h : inL t tab D[k] = true) => show ∀ j (hj : j < D.length), j < k + 1 → inL t tab D[j] = true from fun j hj hjk => by
        rcases Nat.lt_or_ge j k with h1 | h1
        · exact hr.out j hj h1
        · obtain rfl : j = k := by omega
          exact h)
      have HNO := Lib.hid (fun (h : inL t tab D[k] = false) => show D.all (inL t tab) = false from by
        rw [List.all_eq_false]
        exact ⟨D[k], HM.out, by rw [h]; decide⟩)
      have hy0 := rd_cons rfl hy
      obtain ⟨rfl, _⟩ := rd_i1 hy0.1
      obtain ⟨a3, c3', rfl, _⟩ := rd_list hy0.2
      have HY := Lib.hid hy0.2
      have hrel := hlk.rel
      have hlen := hlk.len
      obtain ⟨j, hj⟩ : ∃ j : Nat, D[k].1 = (j : Int) := ⟨D[k].1.toNat, by omega⟩
      have hjS : j < SS.length := by rw [HSL.out]; omega
      have hjI : (j : Int) < SS.length := by omega
      obtain ⟨as', cs', e', hsl⟩ := rd_list (Rd.mono HSS.out hsr.bel)
      simp only [Value.slice.injEq] at e'
      obtain ⟨rfl, -, rfl⟩ := e'
      obtain ⟨b2, o2, v2, rfl, q2, hv2⟩ := rdSl_one rfl hsl j hjS
      obtain ⟨a4, c4', rfl, _⟩ := rd_list hv2
      rw [hj, Int.toNat_natCast] at hPN e1 hra hlen
      have hse := HSG.out j (by omega) hjS
      rw [hPN, Int.toNat_natCast] at hse
      rw [hse, setTo_len] at q2 hv2
      obtain ⟨CN, hCN⟩ : ∃ CN : Nat, codeL t.1 (D[k].2.map (fun c => tab.getD c.toNat 0)) = (CN : Int) := ⟨(codeL t.1 (D[k].2.map (fun c => tab.getD c.toNat 0))).toNat, by omega⟩
      rw [hCN, Int.toNat_natCast] at e1
      rw [hCN] at hc1
      have hCP : CN < PN := by omega
      have hCPI : (CN : Int) < PN := by omega
      obtain ⟨b5, o5, rfl, q6⟩ := rd_bool_at hv2 CN (by rw [setTo_len]; exact hCP)
      have q7 : wo.cell? ⟨b5, o5 + CN, none⟩ = some (.bool (inL t tab D[k])) := by rw [← e1]; exact q6
      have HCN := Lib.hid hCN
      have HV := Lib.hid hV
      have HPW := Lib.hid (show t.1 ^ (D[k].2.map (fun c => tab.getD c.toNat 0)).length ≤ 1000000000000 by
        rw [List.length_map, hlen, hPN]; omega)
      have hl4 : D[k].2.length ≤ 1000000 := by omega
      rw [hj] at q0
      have Q0 := q0
      have Q1 := q1
      have Q2 := q2
      have Q7 := q7
      clear q0 q1 q2 q6 q7 e1 hV hy hy0 hv2 hsl hdl hlk hPN hCN hmx hlen hj hse
      generalize inL t tab D[k] = Z at *
      generalize hcl : D[k].2 = cells at *
      clear hcl
      have HMG := Lib.hid (fun (q : Nat) (hq : q < cells.length) (h2 : q < (cells.map (fun c => tab.getD c.toNat 0)).length) => show (cells.map (fun c => tab.getD c.toNat 0))[q] = tab.getD cells[q].toNat 0 by simp)
      have HMLL := Lib.hid (show (cells.map (fun c => tab.getD c.toNat 0)).length = cells.length by simp)
      generalize cells.map (fun c => tab.getD c.toNat 0) = ML at *
      go_upto_region 4 with fail
      have hs9 := hsr.alloc #[.int .i64 j, .slice a3 cells.length c3'] 184 (n := wo.heap.size) (by simp)
      have Q0_10 := cellL (belowA _ (.cells #[.int .i64 j, .slice a3 cells.length c3'] 184)) Q0
      clear Q0
      have Q1_11 := cellL (belowA _ (.cells #[.int .i64 j, .slice a3 cells.length c3'] 184)) Q1
      clear Q1
      have Q2_12 := cellL (belowA _ (.cells #[.int .i64 j, .slice a3 cells.length c3'] 184)) Q2
      clear Q2
      have Q7_13 := cellL (belowA _ (.cells #[.int .i64 j, .slice a3 cells.length c3'] 184)) Q7
      clear Q7
      have HY_14 := Lib.hid (Rd.mono HY.out (belowA _ (.cells #[.int .i64 j, .slice a3 cells.length c3'] 184)))
      clear HY
      clear c0_ c3_ c4_ c7_ cp_
      have k0_0 := hs9.cellAt 0 rfl 0 rfl
      have k0_1 := hs9.cellAt 0 rfl 1 rfl
      have c0_ := cellL hs9.bel c0
      have c3_ := cellL hs9.bel c3
      have c4_ := cellL hs9.bel c4
      have c7_ := cellL hs9.bel c7
      have cp_ := cellL hs9.bel cp
      have hz_wL : wo.heap.size + 1 ≤ ((wo.alloc (.cells #[.int .i64 j, .slice a3 cells.length c3'] 184))).heap.size := by simp
      generalize hgen_wL : (wo.alloc (.cells #[.int .i64 j, .slice a3 cells.length c3'] 184)) = wL at *
      clear hgen_wL
      have HST := Lib.hid hs9
      have HYQ := Lib.hid HY_14.out
      have HQ2 := Lib.hid Q2_12
      have HQ7 := Lib.hid Q7_13
      have hzq := hs9.hi
      go_wp2_with fail
      go_loopw [5, 28] (fun q i wl => ∃ (k2 : Nat) (Q : Int), k2 ≤ cells.length ∧ i = .int .i64 k2 ∧ q = .int .i64 Q ∧ Hid (Q = codeL t.1 (ML.take k2)) ∧ Hid (Below wL.heap.size wL wl)) (fun _ i _ => cells.length - (intOf i).toNat)
      case atStart => exact ⟨0, 0, Nat.zero_le _, rfl, rfl, by simp [Hid, codeL], Below.refl _ _⟩
      case round =>
        obtain ⟨k2, Q, hk2, rfl, rfl, hq, hbl⟩ := hrel
        have hsr := HST.out.step hbl.out
        have HY := Lib.hid (Rd.mono HYQ.out hbl.out)
        have Q2 := cellL hbl.out HQ2.out
        have Q7 := cellL hbl.out HQ7.out
        have HBQ := hbl
        clear hbl
        have k0_0 := hsr.cellAt 0 rfl 0 rfl
        have k0_1 := hsr.cellAt 0 rfl 1 rfl
        have c0_ := cellL hsr.bel c0
        have c3_ := cellL hsr.bel c3
        have c4_ := cellL hsr.bel c4
        have c7_ := cellL hsr.bel c7
        have cp_ := cellL hsr.bel cp
        by_cases hlt2 : k2 < cells.length
        · have hlt2I : (k2 : Int) < cells.length := by omega
          have hkM : k2 < ML.length := by rw [HMLL.out]; exact hlt2
          obtain ⟨b6, o6, rfl, q0, _⟩ := rd_int_at HY.out k2 hlt2
          have hcb := HCB.out _ (List.getElem_mem hlt2)
          have hst := codeL_step hs.1 HV.out HPW.out hkM
          have HTK := Lib.hid (codeL_take (size := t.1) hkM)
          rw [← hq.out] at hst
          have HQ2 := Lib.hid (show Q * t.1 + ML[k2] = codeL t.1 (ML.take (k2 + 1)) by rw [HTK.out, hq.out])
          have hmg := HMG.out k2 hlt2 hkM
          obtain ⟨CI, hCI⟩ : ∃ CI : Nat, cells[k2] = (CI : Int) := ⟨cells[k2].toNat, by omega⟩
          rw [hCI] at q0 hmg hcb
          rw [Int.toNat_natCast] at hmg
          have hCT : CI < tab.length := by omega
          have hCTI : (CI : Int) < tab.length := by omega
          obtain ⟨b7, o7, rfl, q1, _⟩ := rd_int_at (Rd.mono HT.out hsr.bel) CI hCT
          rw [show tab[CI] = ML[k2] by rw [hmg]; simp [List.getD, hCT]] at q1
          clear HTK hmg hCI
          generalize ML[k2] = A at *
          obtain ⟨g1, g2, g3, g4, g5⟩ := hst
          have hwq : IntKind.i64.wrap (Q * t.1) = Q * t.1 := i64_in _ (by omega)
          have hwa : IntKind.i64.wrap (Q * t.1 + A) = Q * t.1 + A := i64_in _ (by omega)
          have HWA := Lib.hid hwa
          go_upto_region 8 with fail
          refine wp_region_noPanic (wp_region_tree4 (fun w' => w'.cell? ⟨wo.heap.size, 0, none⟩ = some (.int .i64 j) ∧ w'.cell? ⟨wo.heap.size, 1, none⟩ = some (.slice (some ⟨b6, o6, none⟩) cells.length c3') ∧ w'.cell? ⟨xb, 0, none⟩ = some (.int .i64 t.1) ∧ w'.cell? ⟨xb, 3, none⟩ = some (.slice (some ⟨cb, 0, none⟩) n n) ∧ w'.cell? ⟨xb, 4, none⟩ = some (.slice (some ⟨b2, o2, none⟩) SS.length cs_) ∧ w'.cell? ⟨xb, 7, none⟩ = some (.slice (some ⟨b7, o7, none⟩) tab.length cV) ∧ w'.cell? ⟨cb, p, none⟩ = some (.slice (some ⟨b1, o1, none⟩) D.length cd) ∧ w'.cell? ⟨b2, o2 + j, none⟩ = some (.slice (some ⟨b5, o5, none⟩) PN c4') ∧ w'.cell? ⟨b5, o5 + CN, none⟩ = some (.bool Z) ∧ w'.cell? ⟨b6, o6 + k2, none⟩ = some (.int .i64 CI) ∧ w'.cell? ⟨b7, o7 + CI, none⟩ = some (.int .i64 A)) (.float 0 (.float 1 (.float 2 (.float 3 (.float 4 (.float 5 (.float 6 (.float 7 (.float 8 (.float 9 (.float 10 (.float 11 (.float 12 (.float 13 (.float 14 (.float 15 .nil)))))))))))))))) (by kernel_rfl) (by kernel_rfl) (by kernel_rfl) rfl ?_ (fun _ _ _ _ _ h => h) ?_)
          · exact ⟨(hsr.drew).cellAt 0 rfl 0 rfl, (hsr.drew).cellAt 0 rfl 1 rfl, cellL (hsr.drew).bel c0, cellL (hsr.drew).bel c3, cellL (hsr.drew).bel c4, cellL (hsr.drew).bel c7, cellL (hsr.drew).bel cp, cellL (belowD _) Q2, cellL (belowD _) Q7, cellL (belowD _) q0, cellL (belowD _) q1⟩
          have hs15 := hsr.drew
          have Q2_16 := cellL (belowD _) Q2
          clear Q2
          have Q7_17 := cellL (belowD _) Q7
          clear Q7
          have q0_18 := cellL (belowD _) q0
          clear q0
          have q1_19 := cellL (belowD _) q1
          clear q1
          have HY_20 := Lib.hid (Rd.mono HY.out (belowD _))
          clear HY
          have HBQ_21 := Lib.hid (HBQ.out.trans (((belowD _)).mono HBQ.out.size))
          clear HBQ
          clear k0_0 k0_1 c0_ c3_ c4_ c7_ cp_
          have hz_wd22 : wr.heap.size ≤ (wr.drew).heap.size := by simp
          generalize hgen_wd22 : wr.drew = wd22 at *
          have HG_wd22 := Lib.hid hgen_wd22
          clear hgen_wd22
          (repeat (first | (apply t4_skip rfl (by rfl); try simp only [Act.put, List.setIfInBounds_toArray, List.set_cons_zero, List.set_cons_succ]) | (apply t4_float rfl (by rfl); (· (intro w' hS; go_simp <;> with_reducible rfl)); (try simp only [Act.put, List.setIfInBounds_toArray, List.set_cons_zero, List.set_cons_succ]))))
          have k0_0 := hs15.cellAt 0 rfl 0 rfl
          have k0_1 := hs15.cellAt 0 rfl 1 rfl
          have c0_ := cellL hs15.bel c0
          have c3_ := cellL hs15.bel c3
          have c4_ := cellL hs15.bel c4
          have c7_ := cellL hs15.bel c7
          have cp_ := cellL hs15.bel cp
          refine t4_nil (NoPanic.normal ?_)
          have HBR := Lib.hid HBQ_21.out
          go_wp2_with fail
          go_roundw
          case rel => exact ⟨k2 + 1, Q * t.1 + A, by omega, by go_num, (by first | rfl | (rw [HWA.out])), HQ2.out, HBR.out⟩
          case measure => simp [intOf]; omega
        · obtain rfl : k2 = cells.length := by omega
          have hnl : ¬ ((cells.length : Int) < cells.length) := by omega
          obtain rfl : Q = (CN : Int) := by
            have h8 := hq.out
            rw [List.take_of_length_le (by rw [HMLL.out]; exact Nat.le_refl _)] at h8
            rw [h8]; exact HCN.out
          clear hq
          go_upto_region 10 with fail
          refine wp_region_noPanic (wp_region_tree4 (fun w' => w'.cell? ⟨wo.heap.size, 0, none⟩ = some (.int .i64 j) ∧ w'.cell? ⟨wo.heap.size, 1, none⟩ = some (.slice a3 cells.length c3') ∧ w'.cell? ⟨xb, 0, none⟩ = some (.int .i64 t.1) ∧ w'.cell? ⟨xb, 3, none⟩ = some (.slice (some ⟨cb, 0, none⟩) n n) ∧ w'.cell? ⟨xb, 4, none⟩ = some (.slice (some ⟨b2, o2, none⟩) SS.length cs_) ∧ w'.cell? ⟨xb, 7, none⟩ = some (.slice aV tab.length cV) ∧ w'.cell? ⟨cb, p, none⟩ = some (.slice (some ⟨b1, o1, none⟩) D.length cd) ∧ w'.cell? ⟨b2, o2 + j, none⟩ = some (.slice (some ⟨b5, o5, none⟩) PN c4') ∧ w'.cell? ⟨b5, o5 + CN, none⟩ = some (.bool Z)) (.float 0 (.float 1 (.float 2 (.float 3 (.float 4 (.float 5 (.float 6 (.float 7 (.float 8 (.float 9 (.float 10 (.float 11 .nil)))))))))))) (by kernel_rfl) (by kernel_rfl) (by kernel_rfl) rfl ?_ (fun _ _ _ _ _ h => h) ?_)
          · exact ⟨(hsr.drew).cellAt 0 rfl 0 rfl, (hsr.drew).cellAt 0 rfl 1 rfl, cellL (hsr.drew).bel c0, cellL (hsr.drew).bel c3, cellL (hsr.drew).bel c4, cellL (hsr.drew).bel c7, cellL (hsr.drew).bel cp, cellL (belowD _) Q2, cellL (belowD _) Q7⟩
          have hs23 := hsr.drew
          have Q2_24 := cellL (belowD _) Q2
          clear Q2
          have Q7_25 := cellL (belowD _) Q7
          clear Q7
          have HY_26 := Lib.hid (Rd.mono HY.out (belowD _))
          clear HY
          have HBQ_27 := Lib.hid (HBQ.out.trans (((belowD _)).mono HBQ.out.size))
          clear HBQ
          clear k0_0 k0_1 c0_ c3_ c4_ c7_ cp_
          have hz_wd28 : wr.heap.size ≤ (wr.drew).heap.size := by simp
          generalize hgen_wd28 : wr.drew = wd28 at *
          have HG_wd28 := Lib.hid hgen_wd28
          clear hgen_wd28
          (repeat (first | (apply t4_skip rfl (by rfl); try simp only [Act.put, List.setIfInBounds_toArray, List.set_cons_zero, List.set_cons_succ]) | (apply t4_float rfl (by rfl); (· (intro w' hS; go_simp <;> with_reducible rfl)); (try simp only [Act.put, List.setIfInBounds_toArray, List.set_cons_zero, List.set_cons_succ]))))
          have k0_0 := hs23.cellAt 0 rfl 0 rfl
          have k0_1 := hs23.cellAt 0 rfl 1 rfl
          have c0_ := cellL hs23.bel c0
          have c3_ := cellL hs23.bel c3
          have c4_ := cellL hs23.bel c4
          have c7_ := cellL hs23.bel c7
          have cp_ := cellL hs23.bel cp
          refine t4_nil (NoPanic.normal ?_)
          have HBL := Lib.hid hs23.bel
          cases Z with
          | true =>
            go_wp2_with fail
            go_roundw
            case rel => exact ⟨k + 1, hlt, by go_num, HBL.out, HNX.out rfl⟩
            case measure => simp [intOf]; omega
          | false =>
            have H1 := Lib.hid (HNO.out rfl)
            go_wp2_with fail
            go_ret
            exact ⟨ret_bool H1.out.symm, HBL.out⟩
    · obtain rfl : k = D.length := by omega
      have hnl : ¬ ((D.length : Int) < D.length) := by omega
      have H1 := Lib.hid (show D.all (inL t tab) = true from by
        rw [List.all_eq_true]
        intro l hl
        obtain ⟨j, hj, rfl⟩ := List.getElem_of_mem hl
        exact hr.out j hj hj)
      go_wp2_with fail
      go_ret
      exact ⟨ret_bool H1.out.symm, HB.out⟩

/-- What the search's caller does with an operation that is found: it keeps one of the kind (-1), else it goes on (0). -/
def YieldC (g : Nat) (cbv : Array Value) (ob H n m : Nat) (size : Int) (kind : List Int → Bool) (I : World → Prop) : Prop :=
  ∀ (l : List Int) (v : Value) (w : World), I w → H ≤ w.heap.size → l.length = n → Val size l → Fresh H w [v] l →
    (kind l = false → Calls Tryz.prog g (#[.agg #[.int .i64 m, v]] ++ cbv) w fun e w' => e = .returned (.int .i64 0) ∧ Below w.heap.size w w') ∧
    (kind l = true → Calls Tryz.prog g (#[.agg #[.int .i64 m, v]] ++ cbv) w fun e w' => e = .returned (.int .i64 (-1)) ∧ ButP (fun z => z = ob ∨ w.heap.size ≤ z) w w' ∧ Hit ob H w' ((m : Int), l))
theorem rep_get {n i : Nat} {a : Int} (h : i < (List.replicate n a).length) : (List.replicate n a)[i] = a := by simp
set_option maxRecDepth 100000 in
set_option maxHeartbeats 16000000 in
theorem search_c (t : Tmpl) (m n xb cb lo hi H ob g SZ : Nat) (es ec tr : TypeId) (cbv : Array Value) (kind : List Int → Bool) (I : World → Prop) (hok : tmplOk t = true) (hsz : t.1 = (SZ : Int)) (hn4 : n ≤ 64) (hm : m ≤ 3) (hob : hi ≤ ob ∧ ob < H)
    (eg : ∀ args w, (callFunc g args).run Tryz.prog w = .ok (.enter g args) w) (HY : YieldC g cbv ob H n m t.1 kind I) (HI : ∀ w w', I w → ButP (fun z => z = xb ∨ H ≤ z) w w' → I w') :
    ∀ (d : Nat) (pre : List Int) (s : Nat) (w : World), FindR lo hi H w t m xb cb n es ec tr 2 pre s → pre.length + d = n → Val t.1 pre → s ≤ 6000 → H ≤ w.heap.size → I w →
    Calls Tryz.prog 160 #[.pointer (some ⟨xb, 0, none⟩), .func (.func g) #[] cbv] w fun e w' => e = .returned (.int .i64 (codeR (dfs kind (fitL t m) SZ d pre s))) ∧ SearchR lo hi H w w' t m xb cb ob n es ec tr 2 pre (dfs kind (fitL t m) SZ d pre s)
  | 0, pre, s, w, hF, hd, hv, hs6, hH, hI => by
    have hpn : pre.length = n := by omega
    obtain ⟨aF, cF, aV, cV, c0, c2, c5, c6, c7, f6, f7, hRF, hA⟩ := hF.get
    rw [hpn] at c7 hA
    have HTAB := Lib.hid hA.rd
    have HF := Lib.hid hF
    have HPN := Lib.hid hpn
    have HV := Lib.hid hv
    have HII := Lib.hid hI
    have HYY := Lib.hid HY
    have HIS := Lib.hid HI
    have HD := Lib.hid (show dfs kind (fitL t m) SZ 0 pre s = if kind pre then PolyR.hit pre else PolyR.dry s from rfl)
    have hxb := hF.xlt
    generalize dfs kind (fitL t m) SZ 0 pre s = R at *
    have hdis := hF.fdis
    clear hF hA hRF hpn hd hv hI HY HI c0 c6 f6 f7
    cases hk : kind pre with
    | false =>
      rw [hk] at HD
      obtain rfl : R = .dry s := HD.out
      have HK := Lib.hid hk
      clear HD hk
      go_enter Tryz.func160, Tryz.ntmps160
      go_upto_region 3 with fail
      refine wp_region_noPanic (wp_region_tree4 (fun w' => w'.cell? ⟨xb, 2, none⟩ = some (.int .i64 m) ∧ w'.cell? ⟨xb, 5, none⟩ = some (.slice aF n cF) ∧ w'.cell? ⟨xb, 7, none⟩ = some (.slice aV n cV)) (.float 0 (.float 1 (.float 2 (.float 3 (.float 4 (.float 5 (.float 6 (.float 7 (.float 8 (.hard 9 (.float 10 (.hard 11 (.float 12 .nil))))))))))))) (by kernel_rfl) (by kernel_rfl) (by kernel_rfl) rfl ?_ (fun _ _ _ _ _ h => h) ?_)
      · exact ⟨cellL (belowD _) c2, cellL (belowD _) c5, cellL (belowD _) c7⟩
      have hs29 := (St.start w).drew
      have c2_30 := cellL (belowD _) c2
      clear c2
      have c5_31 := cellL (belowD _) c5
      clear c5
      have c7_32 := cellL (belowD _) c7
      clear c7
      have HTAB_33 := Lib.hid (Rd.mono HTAB.out (belowD _))
      clear HTAB
      have hz_wd34 : w.heap.size ≤ (w.drew).heap.size := by simp
      generalize hgen_wd34 : w.drew = wd34 at *
      have HG_wd34 := Lib.hid hgen_wd34
      clear hgen_wd34
      (repeat (first | (apply t4_skip rfl (by rfl); try simp only [Act.put, List.setIfInBounds_toArray, List.set_cons_zero, List.set_cons_succ]) | (apply t4_float rfl (by rfl); (· (intro w' hS; go_simp <;> with_reducible rfl)); (try simp only [Act.put, List.setIfInBounds_toArray, List.set_cons_zero, List.set_cons_succ]))))
      refine t4_hard rfl (by rfl) (fun K hK => ?_)
      go_wp2_with (go_at_call 186; refine (cloneInts_c pre _ _ HTAB_33.out (by rw [HPN.out]; omega)).mono ?_; rintro e w35 ⟨v9, rfl, fr9, hbw35⟩)
      have hz_w35 : wd34.heap.size ≤ w35.heap.size := by have h9 := hbw35.size; (try simp at h9); omega
      have hs36 := hs29.step hbw35
      have c2_37 := cellL hbw35 c2_30
      clear c2_30
      have c5_38 := cellL hbw35 c5_31
      clear c5_31
      have c7_39 := cellL hbw35 c7_32
      clear c7_32
      have HTAB_40 := Lib.hid (Rd.mono HTAB_33.out hbw35)
      clear HTAB_33
      obtain ⟨a9, c9, rfl, _⟩ := rd_list fr9.rd
      have HR9 := Lib.hid (Fresh.lower (lo' := H) fr9 (by omega))
      clear fr9
      refine ⟨⟨c2_37, c5_38, c7_39⟩, ?_⟩
      (repeat (first | (apply t4_skip rfl (by rfl); try simp only [Act.put, List.setIfInBounds_toArray, List.set_cons_zero, List.set_cons_succ]) | (apply t4_float rfl (by rfl); (· (intro w' hS; go_simp <;> with_reducible rfl)); (try simp only [Act.put, List.setIfInBounds_toArray, List.set_cons_zero, List.set_cons_succ]))))
      refine t4_hard rfl (by rfl) (fun K hK => ?_)
      go_wp2_with (go_at_fn g; refine (((HYY.out pre _ _ (HIS.out _ _ HII.out (ButP.of hs36.bel)) (by omega) HPN.out HV.out HR9.out).1 HK.out)).mono ?_; rintro e w41 ⟨rfl, hbw41⟩)
      have hz_w41 : w35.heap.size ≤ w41.heap.size := by have h9 := hbw41.size; (try simp at h9); omega
      have hs42 := hs36.step hbw41
      have c2_43 := cellL hbw41 c2_37
      clear c2_37
      have c5_44 := cellL hbw41 c5_38
      clear c5_38
      have c7_45 := cellL hbw41 c7_39
      clear c7_39
      have HTAB_46 := Lib.hid (Rd.mono HTAB_40.out hbw41)
      clear HTAB_40
      have HR9_47 := Lib.hid (Fresh.mono HR9.out hbw41)
      clear HR9
      refine ⟨⟨c2_43, c5_44, c7_45⟩, ?_⟩
      (repeat (first | (apply t4_skip rfl (by rfl); try simp only [Act.put, List.setIfInBounds_toArray, List.set_cons_zero, List.set_cons_succ]) | (apply t4_float rfl (by rfl); (· (intro w' hS; go_simp <;> with_reducible rfl)); (try simp only [Act.put, List.setIfInBounds_toArray, List.set_cons_zero, List.set_cons_succ]))))
      refine t4_nil (NoPanic.normal ?_)
      go_wp2_with fail
      go_ret
      exact ⟨rfl, (ButP.of hs42.bel : ButP _ _ _), hs6, HF.out.mono hs42.bel, (ButP.of hs42.bel : ButP _ _ _)⟩
    | true =>
      rw [hk] at HD
      obtain rfl : R = .hit pre := HD.out
      have HK := Lib.hid hk
      clear HD hk
      go_enter Tryz.func160, Tryz.ntmps160
      go_upto_region 3 with fail
      refine wp_region_noPanic (wp_region_tree4 (fun w' => w'.cell? ⟨xb, 2, none⟩ = some (.int .i64 m) ∧ w'.cell? ⟨xb, 5, none⟩ = some (.slice aF n cF) ∧ w'.cell? ⟨xb, 7, none⟩ = some (.slice aV n cV)) (.float 0 (.float 1 (.float 2 (.float 3 (.float 4 (.float 5 (.float 6 (.float 7 (.float 8 (.hard 9 (.float 10 (.hard 11 (.float 12 .nil))))))))))))) (by kernel_rfl) (by kernel_rfl) (by kernel_rfl) rfl ?_ (fun _ _ _ _ _ h => h) ?_)
      · exact ⟨cellL (belowD _) c2, cellL (belowD _) c5, cellL (belowD _) c7⟩
      have hs48 := (St.start w).drew
      have c2_49 := cellL (belowD _) c2
      clear c2
      have c5_50 := cellL (belowD _) c5
      clear c5
      have c7_51 := cellL (belowD _) c7
      clear c7
      have HTAB_52 := Lib.hid (Rd.mono HTAB.out (belowD _))
      clear HTAB
      have hz_wd53 : w.heap.size ≤ (w.drew).heap.size := by simp
      generalize hgen_wd53 : w.drew = wd53 at *
      have HG_wd53 := Lib.hid hgen_wd53
      clear hgen_wd53
      (repeat (first | (apply t4_skip rfl (by rfl); try simp only [Act.put, List.setIfInBounds_toArray, List.set_cons_zero, List.set_cons_succ]) | (apply t4_float rfl (by rfl); (· (intro w' hS; go_simp <;> with_reducible rfl)); (try simp only [Act.put, List.setIfInBounds_toArray, List.set_cons_zero, List.set_cons_succ]))))
      refine t4_hard rfl (by rfl) (fun K hK => ?_)
      go_wp2_with (go_at_call 186; refine (cloneInts_c pre _ _ HTAB_52.out (by rw [HPN.out]; omega)).mono ?_; rintro e w54 ⟨v9, rfl, fr9, hbw54⟩)
      have hz_w54 : wd53.heap.size ≤ w54.heap.size := by have h9 := hbw54.size; (try simp at h9); omega
      have hs55 := hs48.step hbw54
      have c2_56 := cellL hbw54 c2_49
      clear c2_49
      have c5_57 := cellL hbw54 c5_50
      clear c5_50
      have c7_58 := cellL hbw54 c7_51
      clear c7_51
      have HTAB_59 := Lib.hid (Rd.mono HTAB_52.out hbw54)
      clear HTAB_52
      obtain ⟨a9, c9, rfl, _⟩ := rd_list fr9.rd
      have HR9 := Lib.hid (Fresh.lower (lo' := H) fr9 (by omega))
      clear fr9
      refine ⟨⟨c2_56, c5_57, c7_58⟩, ?_⟩
      (repeat (first | (apply t4_skip rfl (by rfl); try simp only [Act.put, List.setIfInBounds_toArray, List.set_cons_zero, List.set_cons_succ]) | (apply t4_float rfl (by rfl); (· (intro w' hS; go_simp <;> with_reducible rfl)); (try simp only [Act.put, List.setIfInBounds_toArray, List.set_cons_zero, List.set_cons_succ]))))
      refine t4_hard rfl (by rfl) (fun K hK => ?_)
      go_wp2_with (go_at_fn g; refine ((HYY.out pre _ _ (HIS.out _ _ HII.out (ButP.of hs55.bel)) (by omega) HPN.out HV.out HR9.out).2 HK.out).mono ?_; rintro e w9 ⟨rfl, hb9, hit9⟩)
      have HF9 := Lib.hid ((HF.out.mono hs55.bel).butOb2 hob (by omega) hb9)
      have HB9 := Lib.hid (show ButP (fun z => z = xb ∨ z = ob ∨ H ≤ z) w w9 from (ButP.of hs55.bel : ButP (fun z => z = xb ∨ z = ob ∨ H ≤ z) _ _).trans hb9 (fun z hz => by have h9 := hs55.bel.size; rcases hz with hz | hz; exact .inl (.inr (.inl hz)); exact .inr (by omega)))
      have HIT := Lib.hid hit9
      have hs9 := St.start w9
      clear HTAB_59
      clear HR9
      have c2_60 := cellB hb9 c2_56 (by intro hA9; (try simp only at hA9); omega)
      clear c2_56
      have c5_61 := cellB hb9 c5_57 (by intro hA9; (try simp only at hA9); omega)
      clear c5_57
      have c7_62 := cellB hb9 c7_58 (by intro hA9; (try simp only at hA9); omega)
      clear c7_58
      refine ⟨⟨c2_60, c5_61, c7_62⟩, ?_⟩
      (repeat (first | (apply t4_skip rfl (by rfl); try simp only [Act.put, List.setIfInBounds_toArray, List.set_cons_zero, List.set_cons_succ]) | (apply t4_float rfl (by rfl); (· (intro w' hS; go_simp <;> with_reducible rfl)); (try simp only [Act.put, List.setIfInBounds_toArray, List.set_cons_zero, List.set_cons_succ]))))
      refine t4_nil (NoPanic.normal ?_)
      go_wp2_with fail
      go_ret
      exact ⟨rfl, HB9.out, ⟨s, HF9.out⟩, HIT.out⟩
  | d + 1, pre, s, w, hF, hd, hv, hs6, hH, hI => by
    have IH := search_c t m n xb cb lo hi H ob g SZ es ec tr cbv kind I hok hsz hn4 hm hob eg HY HI d
    have HIH := Lib.hid IH
    clear IH HY
    have HIS := Lib.hid HI
    have HII := Lib.hid hI
    have HV := Lib.hid hv
    have hpl : pre.length < n := by omega
    have hdis := hF.fdis
    have HF := Lib.hid hF
    have hs4 := (tmplOk_get hok).1
    have HOK := Lib.hid hok
    have HD := Lib.hid (show dfs kind (fitL t m) SZ (d + 1) pre s = loopA (tryA (dfs kind (fitL t m) SZ d) (fitL t m) pre) (fromA SZ 0) s from rfl)
    generalize dfs kind (fitL t m) SZ (d + 1) pre s = R at *
    obtain ⟨aF, cF, aV, cV, c0, c2, c5, c6, c7, f6, f7, hRF, hA⟩ := hF.get
    rw [hsz] at c0
    have hpn : ((pre.length : Int) == (n : Int)) = false := by simp; omega
    clear hF hA hRF hv hI HI hok c2 c6 f6 f7
    go_enter Tryz.func160, Tryz.ntmps160
    go_wp2_with fail
    go_loopw [37] (fun i wl => ∃ k s' : Nat, i = .int .i64 k ∧ k ≤ SZ ∧ s' ≤ 6000 ∧ Hid (ButP (fun z => z = xb ∨ H ≤ z) w wl) ∧ Hid (FindR lo hi H wl t m xb cb n es ec tr 2 pre s') ∧ Hid (R = loopA (tryA (dfs kind (fitL t m) SZ d) (fitL t m) pre) (fromA SZ k) s')) (fun i _ => SZ - (intOf i).toNat)
    case atStart => exact ⟨0, s, rfl, by omega, hs6, ButP.refl _ _, HF.out, HD.out⟩
    case round =>
      clear HF HD c0 c5 c7
      obtain ⟨k, s', rfl, hk, hs', hbt, hfr, hR⟩ := hrel
      have hwz := hbt.out.size
      by_cases hlt : k < SZ
      · have hltI : (k : Int) < SZ := by omega
        obtain ⟨aF, cF, aV, cV, c0, c2, c5, c6, c7, f6, f7, hRF, hA⟩ := hfr.out.get
        obtain ⟨bF, oF, rfl, cF0, _⟩ := rd_int_at hRF pre.length (by simpa using hpl)
        rw [rep_get] at cF0
        have hplI : (pre.length : Int) < n := by omega
        have hR2 := hR.out
        rw [fromA_lt hlt, loopA] at hR2
        clear hRF c2 hA c0 hR
        by_cases h60 : s' = 6000
        · obtain rfl : R = .out := by
            rw [hR2]
            unfold tryA
            rw [if_pos h60]
          have h60I : (s' : Int) = 6000 := by omega
          clear h60 hR2
          go_wp2_with fail
          go_ret
          exact ⟨rfl, hbt.out.wk (fun z hz => hz.elim .inl (fun h => .inr (.inr h))), _, hfr.out⟩
        · have h60I : ¬ ((s' : Int) = 6000) := by omega
          have H59 := Lib.hid (show s' + 1 ≤ 6000 by omega)
          have hw1 : IntKind.i64.wrap ((s' : Int) + 1) = (s' : Int) + 1 := i64_in _ (by omega)
          have hT : tryA (dfs kind (fitL t m) SZ d) (fitL t m) pre s' (k : Int) = if fitL t m (pre ++ [(k : Int)]) = true then dfs kind (fitL t m) SZ d (pre ++ [(k : Int)]) (s' + 1) else .dry (s' + 1) := by
            unfold tryA
            rw [if_neg h60]
          rw [hT] at hR2
          have HR := Lib.hid hR2
          clear hR2 hT h60
          go_upto_region 11 with fail
          have HF2 := Lib.hid (hfr.out.setSteps (s' + 1))
          have HB2 := Lib.hid (butp_set (b := xb) (o := 6) hbt.out (.int .i64 ((s' : Int) + 1)) (.inl rfl))
          rw [show ((s' + 1 : Nat) : Int) = (s' : Int) + 1 from rfl] at HF2
          have hz2 : wr.heap.size ≤ (wr.setCell ⟨xb, 6, none⟩ (.int .i64 ((s' : Int) + 1))).heap.size := by simp [World.setCell]
          clear c5 c6 c7 f6 f7 cF0 hfr hbt h60I
          generalize wr.setCell ⟨xb, 6, none⟩ (.int .i64 ((s' : Int) + 1)) = w2 at *
          obtain ⟨aF2, cF2, aV2, cV2, d0, d2, d5, d6, d7, g6, g7, hRF2, hA2⟩ := HF2.out.get
          have HA2 := Lib.hid hA2
          obtain ⟨aT3, cT3, sv3, fv3, tv3, hblk, -⟩ := HF2.out.fblk
          have HBLK := Lib.hid hblk
          clear hblk
          clear hRF2 hA2 d0 d2 d5 d6 g6
          have HIX := Lib.hid (show I64 (k : Int) from ⟨by omega, by omega⟩)
          have hp64 : pre.length ≤ 64 := by omega
          have hxb := HF2.out.xlt
          go_wp2_with (at_builtin; refine wpList_append_accP _ rfl _ _ _ rfl E_ints rfl (AccP.mono HA2.out (belowA _ _)) (ip_int1 (C := fun _ => False) HIX.out) (fun z h1 h2 => h2) ⟨w2.heap.size, 0, none⟩ 1 rfl (news1 (cell_at_block (heap_alloc_new _ _))) (by omega) ?_; intro a8 c8 w8 hA8 hB8; have q8 := cellB hB8 (cellL (belowA _ _) d7) (by omega); have f8 : w8.frozen? ⟨xb, 7, none⟩ = false := free_at_block ((hB8.block xb (by simp; omega) (by omega)).trans (((belowA w2 _).block xb hxb).trans HBLK.out)))
          have hBP8 : ButP (fun z => H ≤ z) w2 w8 := (ButP.of (belowA w2 _) : ButP (fun z => H ≤ z) _ _).trans hB8 (fun z h => .inl h)
          have HF3 := Lib.hid (HF2.out.setTab hBP8 (hA8.wk (fun z hz => by
            rcases hz with h | h | h
            · exact h
            · exact h.elim
            · rw [h]; simp; omega)))
          have HB3 := Lib.hid (butp_set (b := xb) (o := 7) (HB2.out.trans hBP8 (fun z hz => .inl (.inr hz))) (.slice a8 (pre.length + 1) c8) (.inl rfl))
          have hz3 : w2.heap.size ≤ (w8.setCell ⟨xb, 7, none⟩ (.slice a8 (pre.length + 1) c8)).heap.size := by have := hBP8.size; simpa [World.setCell] using this
          have HVK := Lib.hid (show Val t.1 (pre ++ [(k : Int)]) from fun x hx => by
            rcases List.mem_append.1 hx with h | h
            · exact HV.out x h
            · simp only [List.mem_singleton] at h; subst h; omega)
          clear hA8 hB8 q8 f8 hBP8 HF2 HB2 HA2 HBLK d7 g7
          generalize w8.setCell ⟨xb, 7, none⟩ (.slice a8 (pre.length + 1) c8) = w3 at *
          refine (goes_c t m pre.length n xb cb lo hi H es ec tr _ (pre ++ [(k : Int)]) (s' + 1) _ HOK.out hn4 hpl (by simp) HVK.out HF3.out).mono ?_
          rintro e w4 ⟨rfl, hb4⟩
          have HF4 := Lib.hid (HF3.out.mono hb4)
          have HB4 := Lib.hid (show ButP (fun z => z = xb ∨ H ≤ z) w w4 from HB3.out.trans (ButP.of hb4 : ButP (fun z => z = xb ∨ H ≤ z) _ _) (fun z hz => .inl hz))
          have hz4 := hb4.size
          have hH4 : H ≤ w4.heap.size := by omega
          clear HF3 HB3 hb4
          cases hf : fitL t m (pre ++ [(k : Int)]) with
          | false =>
            have hr := HR.out
            rw [hf] at hr
            simp only [Bool.false_eq_true, if_false] at hr
            have HR5 := Lib.hid hr
            obtain ⟨g5, v5, q5, hc5, f5, hcut⟩ := HF4.out.cut
            have HCUT := Lib.hid hcut
            have hc5I : (pre.length : Int) ≤ v5 := by omega
            have HB5 := Lib.hid (butp_set (b := xb) (o := 7) HB4.out (.slice (some ⟨g5, 0, none⟩) pre.length v5) (.inl rfl))
            clear hr HR hf hcut HF4 HB4
            go_wp2_with fail
            go_roundw
            case rel =>
              exact ⟨k + 1, s' + 1, by go_num, hlt, H59.out, HB5.out, HCUT.out, HR5.out⟩
            case measure => simp [intOf]; omega
          | true =>
            have hr := HR.out
            rw [hf] at hr
            simp only [if_true] at hr
            have HR5 := Lib.hid hr
            clear hr HR hf
            go_wp2_with fail
            refine (HIH.out (pre ++ [(k : Int)]) (s' + 1) _ HF4.out (by simp; omega) HVK.out H59.out hH4 (HIS.out _ _ HII.out HB4.out)).mono ?_
            rintro e w5 ⟨rfl, hS⟩
            generalize dfs kind (fitL t m) SZ d (pre ++ [(k : Int)]) (s' + 1) = R5 at *
            cases R5 with
            | dry s5 =>
              obtain ⟨hB, h60, hF5, hB5⟩ := hS
              rw [show codeR (.dry s5) = 0 from rfl]
              obtain ⟨g5, v5, q5, hc5, f5, hcut⟩ := hF5.cut
              have HCUT := Lib.hid hcut
              have hc5I : (pre.length : Int) ≤ v5 := by omega
              have HB6 := Lib.hid (butp_set (b := xb) (o := 7) (HB4.out.trans hB5 (fun z hz => .inl hz)) (.slice (some ⟨g5, 0, none⟩) pre.length v5) (.inl rfl))
              clear hcut HF4 HB4 hB hF5 hB5
              go_wp2_with fail
              go_roundw
              case rel => exact ⟨k + 1, s5, by go_num, hlt, h60, HB6.out, HCUT.out, HR5.out⟩
              case measure => simp [intOf]; omega
            | out =>
              obtain ⟨hB, s5, hF5⟩ := hS
              rw [show codeR .out = 7 from rfl]
              obtain ⟨g5, v5, q5, hc5, f5, hcut⟩ := hF5.cut
              have HCUT := Lib.hid hcut
              have hc5I : (pre.length : Int) ≤ v5 := by omega
              have HB6 := Lib.hid (butp_set (b := xb) (o := 7) (((HB4.out.wk (fun z hz => hz.elim .inl (fun h => .inr (.inr h)))) : ButP (fun z => z = xb ∨ z = ob ∨ H ≤ z) _ _).trans hB (fun z hz => .inl hz)) (.slice (some ⟨g5, 0, none⟩) pre.length v5) (.inl rfl))
              obtain rfl : R = .out := HR5.out
              clear hcut HF4 HB4 hB hF5
              go_wp2_with fail
              go_ret
              exact ⟨rfl, HB6.out, _, HCUT.out⟩
            | hit l =>
              obtain ⟨hB, ⟨s5, hF5⟩, hhit⟩ := hS
              rw [show codeR (.hit l) = -1 from rfl]
              obtain ⟨g5, v5, q5, hc5, f5, hcut⟩ := hF5.cut
              have HCUT := Lib.hid hcut
              have hc5I : (pre.length : Int) ≤ v5 := by omega
              have HB6 := Lib.hid (butp_set (b := xb) (o := 7) (((HB4.out.wk (fun z hz => hz.elim .inl (fun h => .inr (.inr h)))) : ButP (fun z => z = xb ∨ z = ob ∨ H ≤ z) _ _).trans hB (fun z hz => .inl hz)) (.slice (some ⟨g5, 0, none⟩) pre.length v5) (.inl rfl))
              have HH := Lib.hid (hhit.setX (xb := xb) 7 (.slice (some ⟨g5, 0, none⟩) pre.length v5) (by omega) (by omega))
              obtain rfl : R = .hit l := HR5.out
              clear hcut HF4 HB4 hB hF5 hhit
              go_wp2_with fail
              go_ret
              exact ⟨rfl, HB6.out, ⟨_, HCUT.out⟩, HH.out⟩
      · obtain rfl : k = SZ := by omega
        have hnl : ¬ ((k : Int) < k) := by omega
        obtain rfl : R = .dry s' := by rw [hR.out, fromA_ge (Nat.le_refl _)]; rfl
        go_wp2_with fail
        go_ret
        exact ⟨rfl, hbt.out.wk (fun z hz => hz.elim .inl (fun h => .inr (.inr h))), hs', hfr.out, hbt.out⟩

end Go.Proofs.YtllenfkbfeanmaaGreat

