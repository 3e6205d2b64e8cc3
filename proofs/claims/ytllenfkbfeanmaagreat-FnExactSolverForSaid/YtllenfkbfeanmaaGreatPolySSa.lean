/-
  CONTRACTS: the search for polymorphisms, the reference's side: looking at a table, the next value, the operation.
-/
import Derived.Test.YtllenfkbfeanmaaGreatPolyMSa
import Derived.Test.YtllenfkbfeanmaaGreatChosenSa
import Derived.Test.YtllenfkbfeanmaaGreatKeepBSa
namespace Go.Proofs.YtllenfkbfeanmaaGreat
open Go.RowKit Go.Shelf Go.IntWalk
open Rep (Rd Own sz)
set_option linter.unusedSimpArgs false
set_option linter.unusedVariables false

/-- The sets of a template's relations. -/
def setP (size : Int) (r : RelT) : PSet := ⟨size, r.1, setTo size (size ^ r.1.toNat).toNat r.2 r.2.length⟩
def setsP (t : Tmpl) (j : Nat) : List PSet := (t.2.take j).map (setP t.1)
theorem setsP_len (t : Tmpl) {j : Nat} (h : j ≤ t.2.length) : (setsP t j).length = j := by simp [setsP]; omega
theorem setsP_get (t : Tmpl) {j k : Nat} (hj : j ≤ t.2.length) (h : k < j) (h2 : k < (setsP t j).length) : (setsP t j)[k] = setP t.1 (t.2.getD k (0, [])) := by
  simp [setsP, List.getD, show k < t.2.length by omega]
theorem setsP_snoc (t : Tmpl) {j : Nat} (h : j < t.2.length) : setsP t (j + 1) = setsP t j ++ [setP t.1 (t.2.getD j (0, []))] := by
  unfold setsP
  rw [List.take_succ_eq_append_getElem h, List.map_append, List.map_singleton]
  simp [List.getD, h]
theorem chosen_tab {tab full : List Int} {cells : List Int} (h : full.take tab.length = tab) (hl : tab.length ≤ full.length) (hc : ∀ c, c ∈ cells → 0 ≤ c ∧ c < (tab.length : Int)) : chosenL full cells = cells.map (fun c => tab.getD c.toNat 0) := by
  unfold chosenL
  refine List.map_congr_left (fun c hm => ?_)
  have := hc c hm
  have e : full[c.toNat]? = tab[c.toNat]? := by
    conv => rhs; rw [← h]
    rw [List.getElem?_take_of_lt (by omega)]
  simp [List.getD, e]
theorem rd_bool_at {w : World} {a : Option Addr} {n c : Nat} {l : List Bool} (h : Rd w [.slice a n c] l) (i : Nat) (hi : i < l.length) : ∃ b o, a = some ⟨b, o, none⟩ ∧ w.cell? ⟨b, o + i, none⟩ = some (.bool (l.getD i false)) := by
  obtain ⟨a', c', e, hs⟩ := rd_list h
  simp only [Value.slice.injEq] at e
  obtain ⟨rfl, -, rfl⟩ := e
  obtain ⟨b, o, v, rfl, hc, hr⟩ := rdSl_one rfl hs i hi
  have hv : [v] = [.bool l[i]] := hr
  simp only [List.cons.injEq, and_true] at hv
  subst hv
  exact ⟨b, o, rfl, by rw [hc]; simp [List.getD, hi]⟩
set_option maxRecDepth 100000 in
set_option maxHeartbeats 4000000 in
theorem fits_c (t : Tmpl) (m p n rb cb tb tp : Nat) (tab full : List Int) (sv vp : Value) (w : World) (hok : tmplOk t = true)
    (hp : p < n) (htl : tab.length = p + 1) (hfl : full.length = n) (htk : full.take (p + 1) = tab) (hv : Val t.1 tab)
    (hS : Rd w [sv] (setsP t t.2.length)) (hD : Rd w [vp] (dueL (looksTo t m t.2.length) p)) (hT : Rd w [.slice (some ⟨tb, 0, none⟩) n n] full)
    (c0 : w.cell? ⟨rb, 0, none⟩ = some (.pointer (some ⟨tp, 0, none⟩))) (c2 : w.cell? ⟨rb, 2, none⟩ = some sv) (c3 : w.cell? ⟨rb, 3, none⟩ = some (.slice (some ⟨cb, 0, none⟩) n n)) (c5 : w.cell? ⟨rb, 5, none⟩ = some (.slice (some ⟨tb, 0, none⟩) n n))
    (ts : w.cell? ⟨tp, 0, none⟩ = some (.int .i64 t.1)) (cp : w.cell? ⟨cb, p, none⟩ = some vp) :
    Calls Tryz.prog 79 #[.pointer (some ⟨rb, 0, none⟩), .int .i64 p] w fun e w' => e = .returned (.bool (fitL t m tab)) ∧ Below w.heap.size w w' := by
  have hs := (tmplOk_get hok).1
  have hfit : fitL t m tab = (dueL (looksTo t m t.2.length) p).all (inL t tab) := by unfold fitL; rw [htl]; rfl
  rw [hfit]
  have HLK := Lib.hid (fun l (hl : l ∈ dueL (looksTo t m t.2.length) p) => show LookOk t m l ∧ maxC l.2 = (p : Int) from ⟨looksTo_ok hok _ (Nat.le_refl _) l (dueL_mem hl).1, (dueL_mem hl).2⟩)
  have HPN := Lib.hid (fun l (hl : l ∈ dueL (looksTo t m t.2.length) p) => show ∃ PN : Nat, t.1 ^ (t.2.getD l.1.toNat (0, [])).1.toNat = (PN : Int) ∧ PN ≤ 256 ∧ (t.2.getD l.1.toNat (0, [])).1.toNat ≤ 4 from by
    have h1 := HLK.out l hl
    have hm2 : t.2.getD l.1.toNat (0, []) ∈ t.2 := by have := h1.1.rel; simp [List.getD, show l.1.toNat < t.2.length by omega]
    have hr := (tmplOk_get hok).2.2 _ hm2
    have h2 := pow256 hs (relOk_get hr).2.1
    have h3 := (relOk_get hr).2.1
    exact ⟨(t.1 ^ (t.2.getD l.1.toNat (0, [])).1.toNat).toNat, by omega, by omega, by omega⟩)
  have HIN := Lib.hid (fun l (hl : l ∈ dueL (looksTo t m t.2.length) p) => @inL_set t hok m l (HLK.out l hl).1 tab hv (fun c hc => by
    have := maxC_mem hc
    have := (HLK.out l hl).2
    have := ((HLK.out l hl).1.val c hc).1
    omega))
  have HCH := Lib.hid (fun l (hl : l ∈ dueL (looksTo t m t.2.length) p) => show chosenL full l.2 = l.2.map (fun c => tab.getD c.toNat 0) ∧ ∀ c, c ∈ l.2 → 0 ≤ c ∧ c < (full.length : Int) from by
    have hb : ∀ c, c ∈ l.2 → 0 ≤ c ∧ c < (tab.length : Int) := fun c hc => by
      have := maxC_mem hc
      have := (HLK.out l hl).2
      have := ((HLK.out l hl).1.val c hc).1
      omega
    exact ⟨chosen_tab (by rw [htl]; exact htk) (by omega) hb, fun c hc => by have := hb c hc; omega⟩)
  have HSS := Lib.hid hS
  obtain ⟨ad, cd, rfl, hdl⟩ := rd_list hD
  obtain ⟨as_, cs_, rfl, _⟩ := rd_list hS
  have HSL := Lib.hid (setsP_len t (Nat.le_refl t.2.length))
  have HSG := Lib.hid (fun k (h : k < t.2.length) (h2 : k < (setsP t t.2.length).length) => setsP_get t (Nat.le_refl t.2.length) h h2)
  have hlm := (rdSl_len hdl).2
  unfold maxLen at hlm
  have HD := Lib.hid hD
  have HT := Lib.hid hT
  have HFL := Lib.hid hfl
  have hpI : (p : Int) < n := by omega
  clear hS hD hT hdl hok hfit htk htl hv hfl
  generalize dueL (looksTo t m t.2.length) p = D at *
  generalize setsP t t.2.length = SS at *
  have c0_ := cellL (St.start w).bel c0
  clear c0_
  have c0_ := cellL (St.start w).bel c0
  have c2_ := cellL (St.start w).bel c2
  clear c0_ c2_
  have c0_ := cellL (St.start w).bel c0
  have c2_ := cellL (St.start w).bel c2
  have c3_ := cellL (St.start w).bel c3
  clear c0_ c2_ c3_
  have c0_ := cellL (St.start w).bel c0
  have c2_ := cellL (St.start w).bel c2
  have c3_ := cellL (St.start w).bel c3
  have c5_ := cellL (St.start w).bel c5
  clear c0_ c2_ c3_ c5_
  have c0_ := cellL (St.start w).bel c0
  have c2_ := cellL (St.start w).bel c2
  have c3_ := cellL (St.start w).bel c3
  have c5_ := cellL (St.start w).bel c5
  have ts_ := cellL (St.start w).bel ts
  clear c0_ c2_ c3_ c5_ ts_
  have c0_ := cellL (St.start w).bel c0
  have c2_ := cellL (St.start w).bel c2
  have c3_ := cellL (St.start w).bel c3
  have c5_ := cellL (St.start w).bel c5
  have ts_ := cellL (St.start w).bel ts
  have cp_ := cellL (St.start w).bel cp
  go_enter Tryz.func79, Tryz.ntmps79
  go_wp2_with fail
  go_loopw [5] (fun i wl => ∃ k : Nat, k ≤ D.length ∧ i = .int .i64 k ∧ Hid (Below w.heap.size w wl) ∧ Hid (∀ j (hj : j < D.length), j < k → inL t tab D[j] = true)) (fun i _ => D.length - (intOf i).toNat)
  case atStart => exact ⟨0, Nat.zero_le _, rfl, Below.refl _ _, fun j _ hj => absurd hj (Nat.not_lt_zero _)⟩
  case round =>
    obtain ⟨k, hk, rfl, hbl, hr⟩ := hrel
    have hsr := (St.start w).step hbl.out
    have HB := Lib.hid hbl.out
    have c0_ := cellL hsr.bel c0
    have c2_ := cellL hsr.bel c2
    have c3_ := cellL hsr.bel c3
    have c5_ := cellL hsr.bel c5
    have ts_ := cellL hsr.bel ts
    have cp_ := cellL hsr.bel cp
    by_cases hlt : k < D.length
    · have hkl : (k : Int) < D.length := by omega
      obtain ⟨ad', cd', e', hdl⟩ := rd_list (Rd.mono HD.out hsr.bel)
      simp only [Value.slice.injEq] at e'
      obtain ⟨rfl, -, rfl⟩ := e'
      obtain ⟨b1, o1, r0, r1, rfl, q0, q1, hy⟩ := rdSl_two rfl hdl k hlt
      have HM := Lib.hid (List.getElem_mem hlt)
      obtain ⟨hlk, hmx⟩ := HLK.out _ HM.out
      obtain ⟨PN, hPN, hPN1, hra⟩ := HPN.out _ HM.out
      obtain ⟨e1, hV, hc0, hc1⟩ := HIN.out _ HM.out hPN
      obtain ⟨hch, hcb⟩ := HCH.out _ HM.out
      have HNX := Lib.hid (fun (h : inL t tab D[k] = true) => show ∀ j (hj : j < D.length), j < k + 1 → inL t tab D[j] = true from fun j hj hjk => by
        rcases Nat.lt_or_ge j k with h1 | h1
        · exact hr.out j hj h1
        · obtain rfl : j = k := by omega
          exact h)
      have HNO := Lib.hid (fun (h : inL t tab D[k] = false) => show D.all (inL t tab) = false from by
        rw [List.all_eq_false]
        exact ⟨D[k], HM.out, by rw [h]; decide⟩)
      have hy0 := rd_cons rfl hy
      obtain ⟨rfl, _⟩ := rd_i1 hy0.1
      obtain ⟨a3, c3', rfl, _⟩ := rd_list hy0.2
      have HY := Lib.hid hy0.2
      have hrel := hlk.rel
      have hlen := hlk.len
      obtain ⟨j, hj⟩ : ∃ j : Nat, D[k].1 = (j : Int) := ⟨D[k].1.toNat, by omega⟩
      have hjS : j < SS.length := by rw [HSL.out]; omega
      have hjI : (j : Int) < SS.length := by omega
      obtain ⟨as', cs', e', hsl⟩ := rd_list (Rd.mono HSS.out hsr.bel)
      simp only [Value.slice.injEq] at e'
      obtain ⟨rfl, -, rfl⟩ := e'
      obtain ⟨b2, o2, v2, rfl, q2, hv2⟩ := rdSl_one rfl hsl j hjS
      obtain ⟨b3, ty3, a4, c4, rfl, q3, q4⟩ := rd_pset hv2
      rw [HSG.out j (by omega) hjS] at q3 q4
      simp only [setP, setTo_len] at q3 q4
      have q5 : wr.cell? ⟨b3, 2, none⟩ = some (.slice a4 PN c4) := by
        rw [cell_at_block q3]
        rw [hj, Int.toNat_natCast] at hPN
        rw [hPN]; rfl
      rw [hj, Int.toNat_natCast] at hPN e1 hra hlen
      rw [hPN, Int.toNat_natCast] at q4
      obtain ⟨CN, hCN⟩ : ∃ CN : Nat, codeL t.1 (D[k].2.map (fun c => tab.getD c.toNat 0)) = (CN : Int) := ⟨(codeL t.1 (D[k].2.map (fun c => tab.getD c.toNat 0))).toNat, by omega⟩
      rw [hCN, Int.toNat_natCast] at e1
      rw [hCN] at hc1
      have hCP : CN < PN := by omega
      have hrd := rd_bool_at q4 CN (by rw [setTo_len]; exact hCP)
      obtain ⟨b5, o5, rfl, q6⟩ := hrd
      have q7 : wr.cell? ⟨b5, o5 + CN, none⟩ = some (.bool (inL t tab D[k])) := by rw [← e1]; exact q6
      have HCN := Lib.hid hCN
      have HCH2 := Lib.hid hch
      have HCB := Lib.hid hcb
      have HV := Lib.hid hV
      have HPW := Lib.hid (show t.1 ^ (D[k].2.map (fun c => tab.getD c.toNat 0)).length ≤ 1000000000000 by
        rw [List.length_map, hlen, hPN]; omega)
      have hl4 : D[k].2.length ≤ 1000000 := by omega
      rw [hj] at q0
      have Q0 := q0
      have Q1 := q1
      have Q2 := q2
      have Q5 := q5
      have Q7 := q7
      clear q0 q1 q2 q3 q4 q5 q6 q7 e1 hV hch hcb hy hy0 hv2 hsl hdl hlk hPN hCN hmx hlen hj
      generalize inL t tab D[k] = Z at *
      generalize hcl : D[k].2 = cells at *
      clear hcl
      generalize cells.map (fun c => tab.getD c.toNat 0) = ML at *
      go_upto_region 5 with fail
      refine wp_region_noPanic (wp_region_tree4 (fun w' => w'.cell? ⟨rb, 0, none⟩ = some (.pointer (some ⟨tp, 0, none⟩)) ∧ w'.cell? ⟨rb, 2, none⟩ = some (.slice (some ⟨b2, o2, none⟩) SS.length cs_) ∧ w'.cell? ⟨rb, 3, none⟩ = some (.slice (some ⟨cb, 0, none⟩) n n) ∧ w'.cell? ⟨rb, 5, none⟩ = some (.slice (some ⟨tb, 0, none⟩) n n) ∧ w'.cell? ⟨tp, 0, none⟩ = some (.int .i64 t.1) ∧ w'.cell? ⟨cb, p, none⟩ = some (.slice (some ⟨b1, o1, none⟩) D.length cd) ∧ w'.cell? ⟨b1, o1 + k * 2, none⟩ = some (.int .i64 j) ∧ w'.cell? ⟨b1, o1 + k * 2 + 1, none⟩ = some (.slice a3 cells.length c3') ∧ w'.cell? ⟨b2, o2 + j, none⟩ = some (.pointer (some ⟨b3, 0, none⟩)) ∧ w'.cell? ⟨b3, 2, none⟩ = some (.slice (some ⟨b5, o5, none⟩) PN c4) ∧ w'.cell? ⟨b5, o5 + CN, none⟩ = some (.bool Z)) (.float 0 (.float 1 (.float 2 (.float 3 (.float 4 (.float 5 (.float 6 (.float 7 (.float 8 (.float 9 (.float 10 (.float 11 (.float 12 (.float 13 (.float 14 (.float 15 (.float 16 (.float 17 (.float 18 (.float 19 (.float 20 (.float 21 (.float 22 (.float 23 (.float 24 (.float 25 (.float 26 (.float 27 (.hard 28 (.hard 29 (.float 30 (.float 31 (.float 32 .nil))))))))))))))))))))))))))))))))) (by kernel_rfl) (by kernel_rfl) (by kernel_rfl) rfl ?_ (fun _ _ _ _ _ h => h) ?_)
      · exact ⟨cellL (hsr.drew).bel c0, cellL (hsr.drew).bel c2, cellL (hsr.drew).bel c3, cellL (hsr.drew).bel c5, cellL (hsr.drew).bel ts, cellL (hsr.drew).bel cp, cellL (belowD _) Q0, cellL (belowD _) Q1, cellL (belowD _) Q2, cellL (belowD _) Q5, cellL (belowD _) Q7⟩
      have hs1 := hsr.drew
      have Q0_2 := cellL (belowD _) Q0
      clear Q0
      have Q1_3 := cellL (belowD _) Q1
      clear Q1
      have Q2_4 := cellL (belowD _) Q2
      clear Q2
      have Q5_5 := cellL (belowD _) Q5
      clear Q5
      have Q7_6 := cellL (belowD _) Q7
      clear Q7
      have HY_7 := Lib.hid (Rd.mono HY.out (belowD _))
      clear HY
      clear c0_ c2_ c3_ c5_ ts_ cp_
      have hz_wd8 : wr.heap.size ≤ (wr.drew).heap.size := by simp
      generalize hgen_wd8 : wr.drew = wd8 at *
      have HG_wd8 := Lib.hid hgen_wd8
      clear hgen_wd8
      (repeat (first | (apply t4_skip rfl (by rfl); try simp only [Act.put, List.setIfInBounds_toArray, List.set_cons_zero, List.set_cons_succ]) | (apply t4_float rfl (by rfl); (· (intro w' hS; go_simp <;> with_reducible rfl)); (try simp only [Act.put, List.setIfInBounds_toArray, List.set_cons_zero, List.set_cons_succ]))))
      refine t4_hard rfl (by rfl) (fun K hK => ?_)
      go_wp2_with (go_at_call 142; refine (l01At_c full cells _ _ _ (Rd.mono HT.out hs1.bel) HY_7.out (by omega) HCB.out).mono ?_; rintro e w9 ⟨v9, rfl, fr9, hbw9⟩)
      have hz_w9 : wd8.heap.size ≤ w9.heap.size := by have h9 := hbw9.size; (try simp at h9); omega
      have hs10 := hs1.step hbw9
      have Q0_11 := cellL hbw9 Q0_2
      clear Q0_2
      have Q1_12 := cellL hbw9 Q1_3
      clear Q1_3
      have Q2_13 := cellL hbw9 Q2_4
      clear Q2_4
      have Q5_14 := cellL hbw9 Q5_5
      clear Q5_5
      have Q7_15 := cellL hbw9 Q7_6
      clear Q7_6
      have HY_16 := Lib.hid (Rd.mono HY_7.out hbw9)
      clear HY_7
      rw [HCH2.out] at fr9
      obtain ⟨a9, c9, rfl, _⟩ := rd_list fr9.rd
      have HC9 := Lib.hid fr9
      clear fr9
      refine ⟨⟨cellL hs10.bel c0, cellL hs10.bel c2, cellL hs10.bel c3, cellL hs10.bel c5, cellL hs10.bel ts, cellL hs10.bel cp, Q0_11, Q1_12, Q2_13, Q5_14, Q7_15⟩, ?_⟩
      (repeat (first | (apply t4_skip rfl (by rfl); try simp only [Act.put, List.setIfInBounds_toArray, List.set_cons_zero, List.set_cons_succ]) | (apply t4_float rfl (by rfl); (· (intro w' hS; go_simp <;> with_reducible rfl)); (try simp only [Act.put, List.setIfInBounds_toArray, List.set_cons_zero, List.set_cons_succ]))))
      refine t4_hard rfl (by rfl) (fun K hK => ?_)
      go_wp2_with (go_at_call 139; refine (l01Code_c t.1 _ _ _ (Fresh.rd HC9.out) hs.1 HV.out HPW.out).mono ?_; rintro e w17 ⟨rfl, rfl, rfl⟩)
      rw [HCN.out]
      refine ⟨⟨cellL hs10.bel c0, cellL hs10.bel c2, cellL hs10.bel c3, cellL hs10.bel c5, cellL hs10.bel ts, cellL hs10.bel cp, Q0_11, Q1_12, Q2_13, Q5_14, Q7_15⟩, ?_⟩
      (repeat (first | (apply t4_skip rfl (by rfl); try simp only [Act.put, List.setIfInBounds_toArray, List.set_cons_zero, List.set_cons_succ]) | (apply t4_float rfl (by rfl); (· (intro w' hS; go_simp <;> with_reducible rfl)); (try simp only [Act.put, List.setIfInBounds_toArray, List.set_cons_zero, List.set_cons_succ]))))
      have c0_ := cellL hs10.bel c0
      have c2_ := cellL hs10.bel c2
      have c3_ := cellL hs10.bel c3
      have c5_ := cellL hs10.bel c5
      have ts_ := cellL hs10.bel ts
      have cp_ := cellL hs10.bel cp
      refine t4_nil (NoPanic.normal ?_)
      cases Z with
      | true =>
        go_wp2_with fail
        go_roundw
        case rel => exact ⟨k + 1, hlt, by go_num, hs10.bel, HNX.out rfl⟩
        case measure => simp [intOf]; omega
      | false =>
        have H1 := Lib.hid (HNO.out rfl)
        go_wp2_with fail
        go_ret
        exact ⟨ret_bool H1.out.symm, hs10.bel⟩
    · obtain rfl : k = D.length := by omega
      have hnl : ¬ ((D.length : Int) < D.length) := by omega
      have H1 := Lib.hid (show D.all (inL t tab) = true from by
        rw [List.all_eq_true]
        intro l hl
        obtain ⟨j, hj, rfl⟩ := List.getElem_of_mem hl
        exact hr.out j hj hj)
      go_wp2_with fail
      go_ret
      exact ⟨ret_bool H1.out.symm, HB.out⟩

set_option maxRecDepth 100000 in
set_option maxHeartbeats 4000000 in
theorem other_c (size v : Int) (p n rb fb tb tp : Nat) (w : World) (hs : 1 ≤ size ∧ size ≤ 4) (hv : -1 ≤ v ∧ v < size) (hp : p < n)
    (c0 : w.cell? ⟨rb, 0, none⟩ = some (.pointer (some ⟨tp, 0, none⟩))) (c4 : w.cell? ⟨rb, 4, none⟩ = some (.slice (some ⟨fb, 0, none⟩) n n)) (c5 : w.cell? ⟨rb, 5, none⟩ = some (.slice (some ⟨tb, 0, none⟩) n n))
    (ts : w.cell? ⟨tp, 0, none⟩ = some (.int .i64 size)) (cf : w.cell? ⟨fb, p, none⟩ = some (.int .i64 (-1))) (ct : w.cell? ⟨tb, p, none⟩ = some (.int .i64 v)) :
    Calls Tryz.prog 78 #[.pointer (some ⟨rb, 0, none⟩), .int .i64 p] w fun e w' => e = .returned (.int .i64 (if v + 1 < size then v + 1 else -1)) ∧ Below w.heap.size w w' := by
  have hpI : (p : Int) < n := by omega
  have hw1 : IntKind.i64.wrap (v + 1) = v + 1 := i64_in _ (by omega)
  have c0_ := cellL (St.start w).bel c0
  clear c0_
  have c0_ := cellL (St.start w).bel c0
  have c4_ := cellL (St.start w).bel c4
  clear c0_ c4_
  have c0_ := cellL (St.start w).bel c0
  have c4_ := cellL (St.start w).bel c4
  have c5_ := cellL (St.start w).bel c5
  clear c0_ c4_ c5_
  have c0_ := cellL (St.start w).bel c0
  have c4_ := cellL (St.start w).bel c4
  have c5_ := cellL (St.start w).bel c5
  have ts_ := cellL (St.start w).bel ts
  clear c0_ c4_ c5_ ts_
  have c0_ := cellL (St.start w).bel c0
  have c4_ := cellL (St.start w).bel c4
  have c5_ := cellL (St.start w).bel c5
  have ts_ := cellL (St.start w).bel ts
  have cf_ := cellL (St.start w).bel cf
  clear c0_ c4_ c5_ ts_ cf_
  have c0_ := cellL (St.start w).bel c0
  have c4_ := cellL (St.start w).bel c4
  have c5_ := cellL (St.start w).bel c5
  have ts_ := cellL (St.start w).bel ts
  have cf_ := cellL (St.start w).bel cf
  have ct_ := cellL (St.start w).bel ct
  go_enter Tryz.func78, Tryz.ntmps78
  clear c0_ c4_ c5_ ts_ cf_ ct_
  have c0_ := cellL (St.start w).bel c0
  have c4_ := cellL (St.start w).bel c4
  have c5_ := cellL (St.start w).bel c5
  have ts_ := cellL (St.start w).bel ts
  have cf_ := cellL (St.start w).bel cf
  have ct_ := cellL (St.start w).bel ct
  by_cases hlt : v + 1 < size
  · go_upto_region 5 with fail
    refine wp_region_noPanic (wp_region_tree4 (fun w' => w'.cell? ⟨rb, 0, none⟩ = some (.pointer (some ⟨tp, 0, none⟩)) ∧ w'.cell? ⟨rb, 4, none⟩ = some (.slice (some ⟨fb, 0, none⟩) n n) ∧ w'.cell? ⟨rb, 5, none⟩ = some (.slice (some ⟨tb, 0, none⟩) n n) ∧ w'.cell? ⟨tp, 0, none⟩ = some (.int .i64 size) ∧ w'.cell? ⟨fb, p, none⟩ = some (.int .i64 (-1)) ∧ w'.cell? ⟨tb, p, none⟩ = some (.int .i64 v)) (.float 0 (.float 1 (.float 2 (.float 3 (.float 4 (.float 5 (.float 6 (.float 7 (.float 8 (.float 9 (.float 10 (.float 11 (.float 12 (.float 13 (.float 14 (.float 15 .nil)))))))))))))))) (by kernel_rfl) (by kernel_rfl) (by kernel_rfl) rfl ?_ (fun _ _ _ _ _ h => h) ?_)
    · exact ⟨cellL ((St.start w).drew).bel c0, cellL ((St.start w).drew).bel c4, cellL ((St.start w).drew).bel c5, cellL ((St.start w).drew).bel ts, cellL ((St.start w).drew).bel cf, cellL ((St.start w).drew).bel ct⟩
    have hs18 := (St.start w).drew
    clear c0_ c4_ c5_ ts_ cf_ ct_
    have hz_wd19 : w.heap.size ≤ (w.drew).heap.size := by simp
    generalize hgen_wd19 : w.drew = wd19 at *
    have HG_wd19 := Lib.hid hgen_wd19
    clear hgen_wd19
    (repeat (first | (apply t4_skip rfl (by rfl); try simp only [Act.put, List.setIfInBounds_toArray, List.set_cons_zero, List.set_cons_succ]) | (apply t4_float rfl (by rfl); (· (intro w' hS; go_simp <;> with_reducible rfl)); (try simp only [Act.put, List.setIfInBounds_toArray, List.set_cons_zero, List.set_cons_succ]))))
    have c0_ := cellL hs18.bel c0
    have c4_ := cellL hs18.bel c4
    have c5_ := cellL hs18.bel c5
    have ts_ := cellL hs18.bel ts
    have cf_ := cellL hs18.bel cf
    have ct_ := cellL hs18.bel ct
    refine t4_nil (NoPanic.normal ?_)
    go_wp2_with fail
    go_ret
    exact ⟨rfl, hs18.bel⟩
  · go_upto_region 5 with fail
    refine wp_region_noPanic (wp_region_tree4 (fun w' => w'.cell? ⟨rb, 0, none⟩ = some (.pointer (some ⟨tp, 0, none⟩)) ∧ w'.cell? ⟨rb, 4, none⟩ = some (.slice (some ⟨fb, 0, none⟩) n n) ∧ w'.cell? ⟨rb, 5, none⟩ = some (.slice (some ⟨tb, 0, none⟩) n n) ∧ w'.cell? ⟨tp, 0, none⟩ = some (.int .i64 size) ∧ w'.cell? ⟨fb, p, none⟩ = some (.int .i64 (-1)) ∧ w'.cell? ⟨tb, p, none⟩ = some (.int .i64 v)) (.float 0 (.float 1 (.float 2 (.float 3 (.float 4 (.float 5 (.float 6 (.float 7 (.float 8 (.float 9 (.float 10 (.float 11 (.float 12 (.float 13 (.float 14 (.float 15 .nil)))))))))))))))) (by kernel_rfl) (by kernel_rfl) (by kernel_rfl) rfl ?_ (fun _ _ _ _ _ h => h) ?_)
    · exact ⟨cellL ((St.start w).drew).bel c0, cellL ((St.start w).drew).bel c4, cellL ((St.start w).drew).bel c5, cellL ((St.start w).drew).bel ts, cellL ((St.start w).drew).bel cf, cellL ((St.start w).drew).bel ct⟩
    have hs20 := (St.start w).drew
    clear c0_ c4_ c5_ ts_ cf_ ct_
    have hz_wd21 : w.heap.size ≤ (w.drew).heap.size := by simp
    generalize hgen_wd21 : w.drew = wd21 at *
    have HG_wd21 := Lib.hid hgen_wd21
    clear hgen_wd21
    (repeat (first | (apply t4_skip rfl (by rfl); try simp only [Act.put, List.setIfInBounds_toArray, List.set_cons_zero, List.set_cons_succ]) | (apply t4_float rfl (by rfl); (· (intro w' hS; go_simp <;> with_reducible rfl)); (try simp only [Act.put, List.setIfInBounds_toArray, List.set_cons_zero, List.set_cons_succ]))))
    have c0_ := cellL hs20.bel c0
    have c4_ := cellL hs20.bel c4
    have c5_ := cellL hs20.bel c5
    have ts_ := cellL hs20.bel ts
    have cf_ := cellL hs20.bel cf
    have ct_ := cellL hs20.bel ct
    refine t4_nil (NoPanic.normal ?_)
    go_wp2_with fail
    go_ret
    exact ⟨rfl, hs20.bel⟩
theorem fresh_intO2 {β : Type} [Rep β] {H : Nat} {w : World} {p : Int} {v : Value} {l : β} (hp : I64 p) (h : Fresh H w [v] l) : Fresh H w [.int .i64 p, v] (p, l) := by
  obtain ⟨ps, h1, h2, h3⟩ := h
  exact ⟨ps, mk_own (p := []) ⟨rfl, rfl, hp⟩ h1, by simpa using h2, fun k hk => h3 k (by simpa using hk)⟩
set_option maxRecDepth 100000 in
set_option maxHeartbeats 4000000 in
theorem op_c (m n rb tb : Nat) (full : List Int) (w : World) (hn : n ≤ 1000) (hm : m ≤ 3) (hT : Rd w [.slice (some ⟨tb, 0, none⟩) n n] full) (hfl : full.length = n)
    (c1 : w.cell? ⟨rb, 1, none⟩ = some (.int .i64 m)) (c5 : w.cell? ⟨rb, 5, none⟩ = some (.slice (some ⟨tb, 0, none⟩) n n)) :
    Calls Tryz.prog 32 #[.pointer (some ⟨rb, 0, none⟩)] w fun e w' => ∃ v, e = .returned (.agg #[.int .i64 m, v]) ∧ Fresh w.heap.size w' [.int .i64 m, v] (((m : Int), full) : OpT) ∧ Below w.heap.size w w' := by
  subst hfl
  have HT := Lib.hid hT
  clear hT
  have c1_ := cellL (St.start w).bel c1
  clear c1_
  have c1_ := cellL (St.start w).bel c1
  have c5_ := cellL (St.start w).bel c5
  have hs22 := (St.start w).alloc #[.int .i64 0, .slice none 0 0] 34 (n := w.heap.size) (by simp)
  clear c1_ c5_
  have k0_0 := hs22.cellAt 0 rfl 0 rfl
  have k0_1 := hs22.cellAt 0 rfl 1 rfl
  have c1_ := cellL hs22.bel c1
  have c5_ := cellL hs22.bel c5
  go_enter Tryz.func32, Tryz.ntmps32
  go_upto_region 1 with fail
  refine wp_region_noPanic (wp_region_tree4 (fun w' => w'.cell? ⟨w.heap.size, 0, none⟩ = some (.int .i64 0) ∧ w'.cell? ⟨w.heap.size, 1, none⟩ = some (.slice none 0 0) ∧ w'.cell? ⟨rb, 1, none⟩ = some (.int .i64 m) ∧ w'.cell? ⟨rb, 5, none⟩ = some (.slice (some ⟨tb, 0, none⟩) full.length full.length)) (.float 0 (.float 1 (.float 2 (.float 3 (.float 4 (.float 5 (.float 6 (.float 7 (.hard 8 (.float 9 (.last 10 .nil))))))))))) (by kernel_rfl) (by kernel_rfl) (by kernel_rfl) rfl ?_ (fun _ _ _ _ _ h => h) ?_)
  · exact ⟨(hs22.drew).cellAt 0 rfl 0 rfl, (hs22.drew).cellAt 0 rfl 1 rfl, cellL (hs22.drew).bel c1, cellL (hs22.drew).bel c5⟩
  have hs23 := hs22.drew
  clear k0_0 k0_1 c1_ c5_
  have hz_wd24 : w.heap.size + 1 ≤ ((w.alloc (.cells #[.int .i64 0, .slice none 0 0] 34)).drew).heap.size := by simp
  generalize hgen_wd24 : (w.alloc (.cells #[.int .i64 0, .slice none 0 0] 34)).drew = wd24 at *
  have HG_wd24 := Lib.hid hgen_wd24
  clear hgen_wd24
  (repeat (first | (apply t4_skip rfl (by rfl); try simp only [Act.put, List.setIfInBounds_toArray, List.set_cons_zero, List.set_cons_succ]) | (apply t4_float rfl (by rfl); (· (intro w' hS; go_simp <;> with_reducible rfl)); (try simp only [Act.put, List.setIfInBounds_toArray, List.set_cons_zero, List.set_cons_succ]))))
  refine t4_hard rfl (by rfl) (fun K hK => ?_)
  go_wp2_with (go_at_call 80; refine (l00Own_c full _ _ (Rd.mono HT.out hs23.bel) (by omega)).mono ?_; rintro e w25 ⟨v4, rfl, hA4, hbw25⟩)
  have hz_w25 : wd24.heap.size ≤ w25.heap.size := by have h9 := hbw25.size; (try simp at h9); omega
  have hs26 := hs23.step hbw25
  have HFR := Lib.hid (hA4.fresh)
  obtain ⟨av, cv, rfl, _⟩ := rd_list HFR.out.rd
  clear hA4
  refine ⟨⟨hs26.cellAt 0 rfl 0 rfl, hs26.cellAt 0 rfl 1 rfl, cellL hs26.bel c1, cellL hs26.bel c5⟩, ?_⟩
  (repeat (first | (apply t4_skip rfl (by rfl); try simp only [Act.put, List.setIfInBounds_toArray, List.set_cons_zero, List.set_cons_succ]) | (apply t4_float rfl (by rfl); (· (intro w' hS; go_simp <;> with_reducible rfl)); (try simp only [Act.put, List.setIfInBounds_toArray, List.set_cons_zero, List.set_cons_succ]))))
  refine t4_last rfl (by rfl) (fun K hK => ?_)
  have k0_0 := hs26.cellAt 0 rfl 0 rfl
  have k0_1 := hs26.cellAt 0 rfl 1 rfl
  have c1_ := cellL hs26.bel c1
  have c5_ := cellL hs26.bel c5
  have f0_0 := hs26.freeAt 0 rfl 0
  have f0_1 := hs26.freeAt 0 rfl 1
  have HFS := Lib.hid ((HFR.out.setCell (a := ⟨w.heap.size, 0, none⟩) (by (try simp); omega) (.int .i64 m)).setCell (a := ⟨w.heap.size, 1, none⟩) (by (try simp); omega) (.slice av full.length cv) |>.lower (lo' := w.heap.size) (by omega))
  have hsQ := (hs26.set (p := []) (by simp <;> omega) 0 (.int .i64 m)).set (p := []) (by simp <;> omega) 1 (.slice av full.length cv)
  have x0 := hsQ.cellAt 0 rfl 0 rfl
  have x1 := hsQ.cellAt 0 rfl 1 rfl
  go_wp2_with fail
  refine t4_nil (NoPanic.normal ?_)
  go_wp2_with fail
  exact bodyPost_ret (v := .agg #[.int .i64 m, .slice av full.length cv]) (by simp [results, Tryz.results32, go_sem, x0, x1]) rfl ⟨_, rfl, fresh_intO2 ⟨by omega, by omega⟩ HFS.out, hsQ.bel⟩

end Go.Proofs.YtllenfkbfeanmaaGreat

