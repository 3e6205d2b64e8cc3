/-
  CONTRACTS: SolveByConstant, the reference's side. (Printed by wip/gensolve.py.)
-/
import Derived.Test.YtbbmadmnmlljmaaGreatSolveC
namespace Go.Proofs.YtbbmadmnmlljmaaGreat
open Go.RowKit Go.Shelf Go.IntWalk
open Rep (Rd Own sz)
set_option linter.unusedSimpArgs false
set_option linter.unusedVariables false

set_option maxRecDepth 100000 in
set_option maxHeartbeats 4000000 in
theorem l02First_c (t : Tmpl) (f : OpT) (tb fb : Nat) (t0 t1 f0 f1 : Value) (w : World) (ht : Rd w [t0, t1] t) (hf : Rd w [f0, f1] f) (hok : opOk t.1 f = true) (hrs : ∀ r, r ∈ t.2 → relOk t.1 r = true)
    (tc0 : w.cell? ⟨tb, 0, none⟩ = some t0) (tc1 : w.cell? ⟨tb, 1, none⟩ = some t1) (fc0 : w.cell? ⟨fb, 0, none⟩ = some f0) (fc1 : w.cell? ⟨fb, 1, none⟩ = some f1) :
    Calls Tryz.prog 69 #[.pointer (some ⟨tb, 0, none⟩), .pointer (some ⟨fb, 0, none⟩)] w fun e w' => e = .returned (.int .i64 (brokenF t f)) ∧ Below w.heap.size w w' := by
  obtain ⟨size, rs⟩ := t
  obtain ⟨fa, ft⟩ := f
  have zt := rd_cons rfl ht
  obtain ⟨rfl, _⟩ := rd_i1 zt.1
  obtain ⟨at0, ct0, rfl, hrr⟩ := rd_list zt.2
  have zf := rd_cons rfl hf
  obtain ⟨rfl, _⟩ := rd_i1 zf.1
  obtain ⟨af, cf, rfl, _⟩ := rd_list zf.2
  have hb0 := (rdSl_len hrr).2
  unfold maxLen at hb0
  have HRR := Lib.hid hrr
  have HF := Lib.hid hf
  have HOK := Lib.hid hok
  have HRS := Lib.hid hrs
  have HQ := Lib.hid (show brokenF (size, rs) (fa, ft) = firstI (fun r => !keepsP size (fa, ft) r) rs from rfl)
  clear ht hf zt zf hok hrs hrr
  have tc0_ := cellL (St.start w).bel tc0
  clear tc0_
  have tc0_ := cellL (St.start w).bel tc0
  have tc1_ := cellL (St.start w).bel tc1
  clear tc0_ tc1_
  have tc0_ := cellL (St.start w).bel tc0
  have tc1_ := cellL (St.start w).bel tc1
  have fc0_ := cellL (St.start w).bel fc0
  clear tc0_ tc1_ fc0_
  have tc0_ := cellL (St.start w).bel tc0
  have tc1_ := cellL (St.start w).bel tc1
  have fc0_ := cellL (St.start w).bel fc0
  have fc1_ := cellL (St.start w).bel fc1
  go_enter Tryz.func69, Tryz.ntmps69
  go_wp2_with fail
  go_loopw [5] (fun i wl => ∃ k : Nat, k ≤ rs.length ∧ i = .int .i64 k ∧ Hid (Below w.heap.size w wl) ∧ Hid (∀ j (hj : j < rs.length), j < k → (!keepsP size (fa, ft) rs[j]) = false)) (fun i _ => rs.length - (intOf i).toNat)
  case atStart => exact ⟨0, Nat.zero_le _, rfl, Below.refl _ _, fun j hj h => absurd h (Nat.not_lt_zero _)⟩
  case round =>
    obtain ⟨k, hk, rfl, hbl, hr⟩ := hrel
    have hs1 := (St.start w).step hbl.out
    have tc0_ := cellL hs1.bel tc0
    have tc1_ := cellL hs1.bel tc1
    have fc0_ := cellL hs1.bel fc0
    have fc1_ := cellL hs1.bel fc1
    have HB := hbl
    by_cases hlt : k < rs.length
    · have hkl : (k : Int) < rs.length := by omega
      obtain ⟨b, o, u0, u1, rfl, p0, p1, hy⟩ := rdSl_two rfl HRR.out k hlt
      have HY := Lib.hid hy
      have hyz := rd_cons rfl hy
      obtain ⟨rfl, _⟩ := rd_i1 hyz.1
      obtain ⟨a1, c1, rfl, _⟩ := rd_list hyz.2
      have HRK := Lib.hid (HRS.out _ (List.getElem_mem hlt))
      have HNX := Lib.hid (fun (h : (!keepsP size (fa, ft) rs[k]) = false) => show ∀ j (hj : j < rs.length), j < k + 1 → (!keepsP size (fa, ft) rs[j]) = false from fun j hj hjk => by
        rcases Nat.lt_or_ge j k with h1 | h1
        · exact hr.out j hj h1
        · obtain rfl : j = k := by omega
          exact h)
      have HYS := Lib.hid (fun (h : (!keepsP size (fa, ft) rs[k]) = true) => firstI_at (q := fun r => !keepsP size (fa, ft) r) hlt hr.out h)
      clear hy hyz
      generalize rs[k] = RK at *
      obtain ⟨ra, rt⟩ := RK
      simp only at p0 p1
      clear tc0_ tc1_ fc0_ fc1_
      have tc0_ := cellL hs1.bel tc0
      have tc1_ := cellL hs1.bel tc1
      have fc0_ := cellL hs1.bel fc0
      have fc1_ := cellL hs1.bel fc1
      have p0_ := cellL hs1.bel p0
      clear tc0_ tc1_ fc0_ fc1_ p0_
      have tc0_ := cellL hs1.bel tc0
      have tc1_ := cellL hs1.bel tc1
      have fc0_ := cellL hs1.bel fc0
      have fc1_ := cellL hs1.bel fc1
      have p0_ := cellL hs1.bel p0
      have p1_ := cellL hs1.bel p1
      clear tc0_ tc1_ fc0_ fc1_ p0_ p1_
      have tc0_ := cellL hs1.bel tc0
      have tc1_ := cellL hs1.bel tc1
      have fc0_ := cellL hs1.bel fc0
      have fc1_ := cellL hs1.bel fc1
      have p0_ := cellL hs1.bel p0
      have p1_ := cellL hs1.bel p1
      cases hh : keepsP size (fa, ft) (ra, rt) with
      | true =>
        have H9 := Lib.hid (HNX.out (by rw [hh]; rfl))
        have HE := Lib.hid hh
        clear hh
        go_upto_region 4 with fail
        refine wp_region_noPanic (wp_region_tree4 (fun w' => w'.cell? ⟨tb, 0, none⟩ = some (.int .i64 size) ∧ w'.cell? ⟨tb, 1, none⟩ = some (.slice (some ⟨b, o, none⟩) rs.length ct0) ∧ w'.cell? ⟨fb, 0, none⟩ = some (.int .i64 fa) ∧ w'.cell? ⟨fb, 1, none⟩ = some (.slice af ft.length cf) ∧ w'.cell? ⟨b, o + k * 2, none⟩ = some (.int .i64 ra) ∧ w'.cell? ⟨b, o + k * 2 + 1, none⟩ = some (.slice a1 rt.length c1)) (.float 0 (.float 1 (.float 2 (.float 3 (.float 4 (.float 5 (.float 6 (.float 7 (.float 8 (.float 9 (.float 10 (.hard 11 (.float 12 .nil))))))))))))) (by kernel_rfl) (by kernel_rfl) (by kernel_rfl) rfl ?_ (fun _ _ _ _ _ h => h) ?_)
        · exact ⟨cellL (hs1.drew).bel tc0, cellL (hs1.drew).bel tc1, cellL (hs1.drew).bel fc0, cellL (hs1.drew).bel fc1, cellL (hs1.drew).bel p0, cellL (hs1.drew).bel p1⟩
        have hs1 := hs1.drew
        have HB_2 := Lib.hid (HB.out.trans (((belowD _)).mono HB.out.size))
        clear HB
        clear tc0_ tc1_ fc0_ fc1_ p0_ p1_
        have hz_wd3 : wr.heap.size ≤ (wr.drew).heap.size := by simp
        generalize hgen_wd3 : wr.drew = wd3 at *
        have HG_wd3 := Lib.hid hgen_wd3
        clear hgen_wd3
        (repeat (first | (apply t4_skip rfl (by rfl); try simp only [Act.put, List.setIfInBounds_toArray, List.set_cons_zero, List.set_cons_succ]) | (apply t4_float rfl (by rfl); (· (intro w' hS; go_simp <;> with_reducible rfl)); (try simp only [Act.put, List.setIfInBounds_toArray, List.set_cons_zero, List.set_cons_succ]))))
        refine t4_hard rfl (by rfl) (fun K hK => ?_)
        go_wp2_with (go_at_call 113; refine (l02Keeps_c size (fa, ft) (ra, rt) fb 0 b (o + k * 2) _ _ _ _ _ (Rd.mono HF.out hs1.bel) (cellL hs1.bel fc0) (cellL hs1.bel fc1) (Rd.mono HY.out hs1.bel) (cellL hs1.bel p0) (cellL hs1.bel p1) HOK.out HRK.out).mono ?_; rintro e w4 ⟨rfl, hbw4⟩)
        have hz_w4 : wd3.heap.size ≤ w4.heap.size := by have h9 := hbw4.size; (try simp at h9); omega
        have hs5 := hs1.step hbw4
        have HB_6 := Lib.hid (HB_2.out.trans ((hbw4).mono HB_2.out.size))
        clear HB_2
        rw [HE.out]
        refine ⟨⟨cellL hs5.bel tc0, cellL hs5.bel tc1, cellL hs5.bel fc0, cellL hs5.bel fc1, cellL hs5.bel p0, cellL hs5.bel p1⟩, ?_⟩
        (repeat (first | (apply t4_skip rfl (by rfl); try simp only [Act.put, List.setIfInBounds_toArray, List.set_cons_zero, List.set_cons_succ]) | (apply t4_float rfl (by rfl); (· (intro w' hS; go_simp <;> with_reducible rfl)); (try simp only [Act.put, List.setIfInBounds_toArray, List.set_cons_zero, List.set_cons_succ]))))
        have tc0_ := cellL hs5.bel tc0
        have tc1_ := cellL hs5.bel tc1
        have fc0_ := cellL hs5.bel fc0
        have fc1_ := cellL hs5.bel fc1
        have p0_ := cellL hs5.bel p0
        have p1_ := cellL hs5.bel p1
        refine t4_nil (NoPanic.normal ?_)
        go_wp2_with fail
        go_roundw
        case rel => exact ⟨k + 1, by omega, by go_num, HB_6.out, H9.out⟩
        case measure => simp [intOf]; omega
      | false =>
        have H9 := Lib.hid (show brokenF (size, rs) (fa, ft) = (k : Int) by rw [HQ.out]; exact HYS.out (by rw [hh]; rfl))
        have HE := Lib.hid hh
        clear hh
        go_upto_region 4 with fail
        refine wp_region_noPanic (wp_region_tree4 (fun w' => w'.cell? ⟨tb, 0, none⟩ = some (.int .i64 size) ∧ w'.cell? ⟨tb, 1, none⟩ = some (.slice (some ⟨b, o, none⟩) rs.length ct0) ∧ w'.cell? ⟨fb, 0, none⟩ = some (.int .i64 fa) ∧ w'.cell? ⟨fb, 1, none⟩ = some (.slice af ft.length cf) ∧ w'.cell? ⟨b, o + k * 2, none⟩ = some (.int .i64 ra) ∧ w'.cell? ⟨b, o + k * 2 + 1, none⟩ = some (.slice a1 rt.length c1)) (.float 0 (.float 1 (.float 2 (.float 3 (.float 4 (.float 5 (.float 6 (.float 7 (.float 8 (.float 9 (.float 10 (.hard 11 (.float 12 .nil))))))))))))) (by kernel_rfl) (by kernel_rfl) (by kernel_rfl) rfl ?_ (fun _ _ _ _ _ h => h) ?_)
        · exact ⟨cellL (hs1.drew).bel tc0, cellL (hs1.drew).bel tc1, cellL (hs1.drew).bel fc0, cellL (hs1.drew).bel fc1, cellL (hs1.drew).bel p0, cellL (hs1.drew).bel p1⟩
        have hs7 := hs1.drew
        have HB_8 := Lib.hid (HB.out.trans (((belowD _)).mono HB.out.size))
        clear HB
        clear tc0_ tc1_ fc0_ fc1_ p0_ p1_
        have hz_wd9 : wr.heap.size ≤ (wr.drew).heap.size := by simp
        generalize hgen_wd9 : wr.drew = wd9 at *
        have HG_wd9 := Lib.hid hgen_wd9
        clear hgen_wd9
        (repeat (first | (apply t4_skip rfl (by rfl); try simp only [Act.put, List.setIfInBounds_toArray, List.set_cons_zero, List.set_cons_succ]) | (apply t4_float rfl (by rfl); (· (intro w' hS; go_simp <;> with_reducible rfl)); (try simp only [Act.put, List.setIfInBounds_toArray, List.set_cons_zero, List.set_cons_succ]))))
        refine t4_hard rfl (by rfl) (fun K hK => ?_)
        go_wp2_with (go_at_call 113; refine (l02Keeps_c size (fa, ft) (ra, rt) fb 0 b (o + k * 2) _ _ _ _ _ (Rd.mono HF.out hs7.bel) (cellL hs7.bel fc0) (cellL hs7.bel fc1) (Rd.mono HY.out hs7.bel) (cellL hs7.bel p0) (cellL hs7.bel p1) HOK.out HRK.out).mono ?_; rintro e w10 ⟨rfl, hbw10⟩)
        have hz_w10 : wd9.heap.size ≤ w10.heap.size := by have h9 := hbw10.size; (try simp at h9); omega
        have hs11 := hs7.step hbw10
        have HB_12 := Lib.hid (HB_8.out.trans ((hbw10).mono HB_8.out.size))
        clear HB_8
        rw [HE.out]
        refine ⟨⟨cellL hs11.bel tc0, cellL hs11.bel tc1, cellL hs11.bel fc0, cellL hs11.bel fc1, cellL hs11.bel p0, cellL hs11.bel p1⟩, ?_⟩
        (repeat (first | (apply t4_skip rfl (by rfl); try simp only [Act.put, List.setIfInBounds_toArray, List.set_cons_zero, List.set_cons_succ]) | (apply t4_float rfl (by rfl); (· (intro w' hS; go_simp <;> with_reducible rfl)); (try simp only [Act.put, List.setIfInBounds_toArray, List.set_cons_zero, List.set_cons_succ]))))
        have tc0_ := cellL hs11.bel tc0
        have tc1_ := cellL hs11.bel tc1
        have fc0_ := cellL hs11.bel fc0
        have fc1_ := cellL hs11.bel fc1
        have p0_ := cellL hs11.bel p0
        have p1_ := cellL hs11.bel p1
        refine t4_nil (NoPanic.normal ?_)
        go_wp2_with fail
        go_ret
        exact ⟨ret_int H9.out.symm, hs11.bel⟩
    · obtain rfl : k = rs.length := by omega
      have hnl : ¬ ((rs.length : Int) < rs.length) := by omega
      have H9 := Lib.hid (show brokenF (size, rs) (fa, ft) = -1 by rw [HQ.out]; exact firstI_no hr.out)
      have HBF := Lib.hid HB.out
      go_wp2_with fail
      go_ret
      exact ⟨ret_int H9.out.symm, HBF.out⟩

end Go.Proofs.YtbbmadmnmlljmaaGreat
