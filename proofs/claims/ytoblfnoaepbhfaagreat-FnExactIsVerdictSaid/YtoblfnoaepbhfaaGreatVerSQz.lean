import Derived.Test.YtoblfnoaepbhfaaGreatVerIQz
import Derived.Test.YtoblfnoaepbhfaaGreatReplayQSQz
import Derived.Test.YtoblfnoaepbhfaaGreatReplaySQz
import Derived.Test.YtoblfnoaepbhfaaGreatIsRefSQz
set_option linter.unusedSimpArgs false
set_option linter.unusedVariables false
set_option maxHeartbeats 16000000
set_option maxRecDepth 100000
namespace Go.Proofs.YtoblfnoaepbhfaaGreat
open Go.Proofs.Tryz
open Go.RowKit Go.Shelf Go.IntWalk
open Rep (Rd Own sz)
theorem YT (ds : List bH) (vd : Value) (w : World) (hd : Rd w [vd] ds) :
 Calls prog 52 #[vd] w fun e w' => e = .returned (.bool (y7 ds)) ∧ Below w.heap.size w w' := by
 obtain ⟨ad, cd, rfl, hdr⟩ := ah hd
 have hb0 := (aN hdr).2
 unfold maxLen at hb0
 have HDR := qH hdr
 clear hd hdr
 go_enter func52, ntmps52
 go_wp2_with fail
 go_loopw [3] (fun iv wl => ∃ k : Nat, k ≤ ds.length ∧ iv = .int .i64 k ∧ Hid (Below w.heap.size w wl) ∧ Hid (∀ q (hq : q < ds.length), q < k → ds[q].2.length ≠ 0)) (fun iv _ => ds.length - (intOf iv).toNat)
 case atStart => exact ⟨0, Nat.zero_le _, rfl, Below.refl _ _, fun q hq h => absurd h (Nat.not_lt_zero _)⟩
 obtain ⟨k, hk, rfl, hbl, hr⟩ := hrel
 by_cases hlt : k < ds.length
 rotate_left
 · obtain rfl : k = ds.length := by omega
   have hnl : ¬ ((ds.length : Int) < ds.length) := by omega
   have H9 := qH (show y7 ds = false from by
    unfold y7
    rw [List.any_eq_false]
    intro d hd
    obtain ⟨q, hq, rfl⟩ := List.getElem_of_mem hd
    have := hr.out q hq hq
    simpa using this)
   have lu := qH hbl.out
   go_wp2_with fail
   go_ret
   exact ⟨ak H9.out.symm, lu.out⟩
 have QH : (k : Int) < ds.length := by omega
 obtain ⟨b4, o4, u3, u4, rfl, qd0, qd, hdn⟩ := dL rfl (Wq HDR.out) k hlt
 have zdn := au rfl hdn
 obtain ⟨rfl, _⟩ := aG zdn.1
 obtain ⟨a5, c5, rfl, _⟩ := ah zdn.2
 have qd2 := qC hbl.out qd
 have HYS := qH (fun (h : ds[k].2.length = 0) => show y7 ds = true from by
  unfold y7
  rw [List.any_eq_true]
  exact ⟨ds[k], List.getElem_mem hlt, decide_eq_true h⟩)
 have pW := qH (fun (h : ds[k].2.length ≠ 0) => show ∀ q (hq : q < ds.length), q < k + 1 → ds[q].2.length ≠ 0 from fun q hq hqk => by
  rcases Nat.lt_or_ge q k with h1 | h1
  · exact hr.out q hq h1
  · obtain rfl : q = k := by omega
    exact h)
 clear hdn qd qd0 zdn
 generalize ds[k] = D at *
 by_cases h0 : D.2.length = 0
 · have hbb : ((D.2.length : Int) == 0) = true := by rw [h0]; rfl
   have H9 := qH (HYS.out h0)
   have lu := qH hbl.out
   clear h0
   go_wp2_with fail
   go_ret
   exact ⟨ak H9.out.symm, lu.out⟩
 have hbb : ((D.2.length : Int) == 0) = false := by rw [beq_eq_false_iff_ne]; omega
 have H9 := qH (pW.out h0)
 have lu := qH hbl.out
 clear h0
 go_wp2_with fail
 go_roundw
 case rel => exact ⟨k + 1, by omega, by go_num, lu.out, H9.out⟩
 simp [intOf]; omega
theorem YU (v : oW) (vb : Nat) (v0 v1 v2 v3 v4 : Value) (w : World) (hv : Rd w [v0, v1, v2, v3, v4] v) (CQ : w.cell? ⟨vb, 0, none⟩ = some v0) (Ea : w.cell? ⟨vb, 1, none⟩ = some v1) (FQ : w.cell? ⟨vb, 2, none⟩ = some v2) (Hl : w.cell? ⟨vb, 3, none⟩ = some v3) (J5 : w.cell? ⟨vb, 4, none⟩ = some v4) :
 Calls prog 164 #[.pointer (some ⟨vb, 0, none⟩)] w fun e w' => e = .returned (.bool (fP v)) ∧ Below w.heap.size w w' := by
 obtain ⟨k, vs, ar, pr, nu⟩ := v
 have y0 := au rfl hv
 obtain ⟨rfl, hIk⟩ := aG y0.1
 have y1 := au rfl y0.2
 obtain ⟨a1, c1, rfl, _⟩ := ah y1.1
 have y2 := au rfl y1.2
 obtain ⟨a2, c2, rfl, _⟩ := ah y2.1
 have y3 := au rfl y2.2
 obtain ⟨a3, c3, rfl, _⟩ := ah y3.1
 obtain ⟨a4, c4, rfl, _⟩ := ah y3.2
 clear hv y0 y1 y2 y3 hIk
 have kZ := qC (St.start w).bel CQ
 clear kZ
 obtain ⟨kZ, nD⟩ := iQ (St.start w).bel CQ Ea
 clear kZ nD
 obtain ⟨kZ, nD, oK⟩ := fQ (St.start w).bel CQ Ea FQ
 clear kZ nD oK
 obtain ⟨kZ, nD, oK, qZ⟩ := jc (St.start w).bel CQ Ea FQ Hl
 clear kZ nD oK qZ
 obtain ⟨kZ, nD, oK, qZ, uY⟩ := zI (St.start w).bel CQ Ea FQ Hl J5
 go_enter func164, ntmps164
 by_cases hk0 : k = 0
 · subst hk0
   by_cases hl1 : ar.length = 0
   rotate_left
   · have hc1 : ((ar.length : Int) == 0) = false := by rw [beq_eq_false_iff_ne]; omega
     have H9 := qH (show fP (0, vs, ar, pr, nu) = false by rw [G9]; exact decide_eq_false (fun h => hl1 (by rw [h.1]; rfl)))
     clear hl1
     go_wp2_with fail
     go_ret
     exact ⟨ak H9.out.symm, (St.start w).bel⟩
   have hc1 : ((ar.length : Int) == 0) = true := by rw [hl1]; rfl
   by_cases hl2 : pr.length = 0
   rotate_left
   · have hc2 : ((pr.length : Int) == 0) = false := by rw [beq_eq_false_iff_ne]; omega
     have H9 := qH (show fP (0, vs, ar, pr, nu) = false by rw [G9]; exact decide_eq_false (fun h => hl2 (by rw [h.2.1]; rfl)))
     clear hl1 hl2
     go_wp2_with fail
     go_ret
     exact ⟨ak H9.out.symm, (St.start w).bel⟩
   have hc2 : ((pr.length : Int) == 0) = true := by rw [hl2]; rfl
   by_cases hl3 : nu.length = 0
   · have hc3 : ((nu.length : Int) == 0) = true := by rw [hl3]; rfl
     have H9 := qH (show fP (0, vs, ar, pr, nu) = true by rw [G9]; exact decide_eq_true ⟨List.eq_nil_of_length_eq_zero hl1, List.eq_nil_of_length_eq_zero hl2, List.eq_nil_of_length_eq_zero hl3⟩)
     clear hl1 hl2 hl3
     go_wp2_with fail
     go_ret
     exact ⟨ak H9.out.symm, (St.start w).bel⟩
   have hc3 : ((nu.length : Int) == 0) = false := by rw [beq_eq_false_iff_ne]; omega
   have H9 := qH (show fP (0, vs, ar, pr, nu) = false by rw [G9]; exact decide_eq_false (fun h => hl3 (by rw [h.2.2]; rfl)))
   clear hl1 hl2 hl3
   go_wp2_with fail
   go_ret
   exact ⟨ak H9.out.symm, (St.start w).bel⟩
 have hb0 : (k == 0) = false := by rw [beq_eq_false_iff_ne]; exact hk0
 by_cases hk1 : k = 1
 · subst hk1
   by_cases hl0 : vs.length = 0
   rotate_left
   · have hc0 : ((vs.length : Int) == 0) = false := by rw [beq_eq_false_iff_ne]; omega
     have H9 := qH (show fP (1, vs, ar, pr, nu) = false by rw [He]; exact decide_eq_false (fun h => hl0 (by rw [h.1]; rfl)))
     clear hl0
     go_wp2_with fail
     go_ret
     exact ⟨ak H9.out.symm, (St.start w).bel⟩
   have hc0 : ((vs.length : Int) == 0) = true := by rw [hl0]; rfl
   by_cases hl2 : pr.length = 0
   rotate_left
   · have hc2 : ((pr.length : Int) == 0) = false := by rw [beq_eq_false_iff_ne]; omega
     have H9 := qH (show fP (1, vs, ar, pr, nu) = false by rw [He]; exact decide_eq_false (fun h => hl2 (by rw [h.2.1]; rfl)))
     clear hl0 hl2
     go_wp2_with fail
     go_ret
     exact ⟨ak H9.out.symm, (St.start w).bel⟩
   have hc2 : ((pr.length : Int) == 0) = true := by rw [hl2]; rfl
   by_cases hl3 : nu.length = 0
   · have hc3 : ((nu.length : Int) == 0) = true := by rw [hl3]; rfl
     have H9 := qH (show fP (1, vs, ar, pr, nu) = true by rw [He]; exact decide_eq_true ⟨List.eq_nil_of_length_eq_zero hl0, List.eq_nil_of_length_eq_zero hl2, List.eq_nil_of_length_eq_zero hl3⟩)
     clear hl0 hl2 hl3
     go_wp2_with fail
     go_ret
     exact ⟨ak H9.out.symm, (St.start w).bel⟩
   have hc3 : ((nu.length : Int) == 0) = false := by rw [beq_eq_false_iff_ne]; omega
   have H9 := qH (show fP (1, vs, ar, pr, nu) = false by rw [He]; exact decide_eq_false (fun h => hl3 (by rw [h.2.2]; rfl)))
   clear hl0 hl2 hl3
   go_wp2_with fail
   go_ret
   exact ⟨ak H9.out.symm, (St.start w).bel⟩
 have hb1 : (k == 1) = false := by rw [beq_eq_false_iff_ne]; exact hk1
 by_cases hk2 : k = 2
 · subst hk2
   by_cases hl0 : vs.length = 0
   rotate_left
   · have hc0 : ((vs.length : Int) == 0) = false := by rw [beq_eq_false_iff_ne]; omega
     have H9 := qH (show fP (2, vs, ar, pr, nu) = false by rw [Hf]; exact decide_eq_false (fun h => hl0 (by rw [h.1]; rfl)))
     clear hl0
     go_wp2_with fail
     go_ret
     exact ⟨ak H9.out.symm, (St.start w).bel⟩
   have hc0 : ((vs.length : Int) == 0) = true := by rw [hl0]; rfl
   by_cases hl1 : ar.length = 0
   rotate_left
   · have hc1 : ((ar.length : Int) == 0) = false := by rw [beq_eq_false_iff_ne]; omega
     have H9 := qH (show fP (2, vs, ar, pr, nu) = false by rw [Hf]; exact decide_eq_false (fun h => hl1 (by rw [h.2.1]; rfl)))
     clear hl0 hl1
     go_wp2_with fail
     go_ret
     exact ⟨ak H9.out.symm, (St.start w).bel⟩
   have hc1 : ((ar.length : Int) == 0) = true := by rw [hl1]; rfl
   by_cases hl3 : nu.length = 0
   · have hc3 : ((nu.length : Int) == 0) = true := by rw [hl3]; rfl
     have H9 := qH (show fP (2, vs, ar, pr, nu) = true by rw [Hf]; exact decide_eq_true ⟨List.eq_nil_of_length_eq_zero hl0, List.eq_nil_of_length_eq_zero hl1, List.eq_nil_of_length_eq_zero hl3⟩)
     clear hl0 hl1 hl3
     go_wp2_with fail
     go_ret
     exact ⟨ak H9.out.symm, (St.start w).bel⟩
   have hc3 : ((nu.length : Int) == 0) = false := by rw [beq_eq_false_iff_ne]; omega
   have H9 := qH (show fP (2, vs, ar, pr, nu) = false by rw [Hf]; exact decide_eq_false (fun h => hl3 (by rw [h.2.2]; rfl)))
   clear hl0 hl1 hl3
   go_wp2_with fail
   go_ret
   exact ⟨ak H9.out.symm, (St.start w).bel⟩
 have hb2 : (k == 2) = false := by rw [beq_eq_false_iff_ne]; exact hk2
 by_cases hk3 : k = 3
 · subst hk3
   by_cases hl0 : vs.length = 0
   rotate_left
   · have hc0 : ((vs.length : Int) == 0) = false := by rw [beq_eq_false_iff_ne]; omega
     have H9 := qH (show fP (3, vs, ar, pr, nu) = false by rw [Hg]; exact decide_eq_false (fun h => hl0 (by rw [h.1]; rfl)))
     clear hl0
     go_wp2_with fail
     go_ret
     exact ⟨ak H9.out.symm, (St.start w).bel⟩
   have hc0 : ((vs.length : Int) == 0) = true := by rw [hl0]; rfl
   by_cases hl1 : ar.length = 0
   rotate_left
   · have hc1 : ((ar.length : Int) == 0) = false := by rw [beq_eq_false_iff_ne]; omega
     have H9 := qH (show fP (3, vs, ar, pr, nu) = false by rw [Hg]; exact decide_eq_false (fun h => hl1 (by rw [h.2.1]; rfl)))
     clear hl0 hl1
     go_wp2_with fail
     go_ret
     exact ⟨ak H9.out.symm, (St.start w).bel⟩
   have hc1 : ((ar.length : Int) == 0) = true := by rw [hl1]; rfl
   by_cases hl2 : pr.length = 0
   · have hc2 : ((pr.length : Int) == 0) = true := by rw [hl2]; rfl
     have H9 := qH (show fP (3, vs, ar, pr, nu) = true by rw [Hg]; exact decide_eq_true ⟨List.eq_nil_of_length_eq_zero hl0, List.eq_nil_of_length_eq_zero hl1, List.eq_nil_of_length_eq_zero hl2⟩)
     clear hl0 hl1 hl2
     go_wp2_with fail
     go_ret
     exact ⟨ak H9.out.symm, (St.start w).bel⟩
   have hc2 : ((pr.length : Int) == 0) = false := by rw [beq_eq_false_iff_ne]; omega
   have H9 := qH (show fP (3, vs, ar, pr, nu) = false by rw [Hg]; exact decide_eq_false (fun h => hl2 (by rw [h.2.2]; rfl)))
   clear hl0 hl1 hl2
   go_wp2_with fail
   go_ret
   exact ⟨ak H9.out.symm, (St.start w).bel⟩
 have hb3 : (k == 3) = false := by rw [beq_eq_false_iff_ne]; exact hk3
 by_cases hl0 : vs.length = 0
 rotate_left
 · have hc0 : ((vs.length : Int) == 0) = false := by rw [beq_eq_false_iff_ne]; omega
   have H9 := qH (show fP (k, vs, ar, pr, nu) = false by rw [D5 hk0 hk1 hk2 hk3]; exact decide_eq_false (fun h => hl0 (by rw [h.1]; rfl)))
   clear hl0
   go_wp2_with fail
   go_ret
   exact ⟨ak H9.out.symm, (St.start w).bel⟩
 have hc0 : ((vs.length : Int) == 0) = true := by rw [hl0]; rfl
 by_cases hl1 : ar.length = 0
 rotate_left
 · have hc1 : ((ar.length : Int) == 0) = false := by rw [beq_eq_false_iff_ne]; omega
   have H9 := qH (show fP (k, vs, ar, pr, nu) = false by rw [D5 hk0 hk1 hk2 hk3]; exact decide_eq_false (fun h => hl1 (by rw [h.2.1]; rfl)))
   clear hl0 hl1
   go_wp2_with fail
   go_ret
   exact ⟨ak H9.out.symm, (St.start w).bel⟩
 have hc1 : ((ar.length : Int) == 0) = true := by rw [hl1]; rfl
 by_cases hl2 : pr.length = 0
 rotate_left
 · have hc2 : ((pr.length : Int) == 0) = false := by rw [beq_eq_false_iff_ne]; omega
   have H9 := qH (show fP (k, vs, ar, pr, nu) = false by rw [D5 hk0 hk1 hk2 hk3]; exact decide_eq_false (fun h => hl2 (by rw [h.2.2.1]; rfl)))
   clear hl0 hl1 hl2
   go_wp2_with fail
   go_ret
   exact ⟨ak H9.out.symm, (St.start w).bel⟩
 have hc2 : ((pr.length : Int) == 0) = true := by rw [hl2]; rfl
 by_cases hl3 : nu.length = 0
 · have hc3 : ((nu.length : Int) == 0) = true := by rw [hl3]; rfl
   have H9 := qH (show fP (k, vs, ar, pr, nu) = true by rw [D5 hk0 hk1 hk2 hk3]; exact decide_eq_true ⟨List.eq_nil_of_length_eq_zero hl0, List.eq_nil_of_length_eq_zero hl1, List.eq_nil_of_length_eq_zero hl2, List.eq_nil_of_length_eq_zero hl3⟩)
   clear hl0 hl1 hl2 hl3
   go_wp2_with fail
   go_ret
   exact ⟨ak H9.out.symm, (St.start w).bel⟩
 have hc3 : ((nu.length : Int) == 0) = false := by rw [beq_eq_false_iff_ne]; omega
 have H9 := qH (show fP (k, vs, ar, pr, nu) = false by rw [D5 hk0 hk1 hk2 hk3]; exact decide_eq_false (fun h => hl3 (by rw [h.2.2.2]; rfl)))
 clear hl0 hl1 hl2 hl3
 go_wp2_with fail
 go_ret
 exact ⟨ak H9.out.symm, (St.start w).bel⟩
theorem VY (t : dB) (x : Inst) (vals : List Int) (tb xb : Nat) (t0 t1 x0 x1 vv : Value) (w : World) (ht : Rd w [t0, t1] t) (hx : Rd w [x0, x1] x) (hv : Rd w [vv] vals) (hok : cu t x = true) (jr : w.cell? ⟨tb, 0, none⟩ = some t0) (jD : w.cell? ⟨tb, 1, none⟩ = some t1) (xc0 : w.cell? ⟨xb, 0, none⟩ = some x0) (gJ : w.cell? ⟨xb, 1, none⟩ = some x1) :
 Calls prog 165 #[.pointer (some ⟨tb, 0, none⟩), .pointer (some ⟨xb, 0, none⟩), vv] w fun e w' => e = .returned (.int .i64 (if bG t.1 vals x.1 = true then 0 else 2)) ∧ Below w.heap.size w w' := by
 have hsz := (dV (aX hok).1).1
 obtain ⟨size, rs⟩ := t
 obtain ⟨vars, cs⟩ := x
 simp only at hsz
 have HT := qH ht
 have HX := qH hx
 have HVS := qH hv
 have vW := qH hok
 have zt := au rfl ht
 obtain ⟨rfl, _⟩ := aG zt.1
 obtain ⟨at0, ct0, rfl, _⟩ := ah zt.2
 have zx := au rfl hx
 obtain ⟨rfl, _⟩ := aG zx.1
 obtain ⟨ax, cx, rfl, _⟩ := ah zx.2
 obtain ⟨a1, c1, rfl, _⟩ := ah hv
 clear ht hx hv hok zt zx
 generalize hrr : (if bG ((size, rs) : dB).1 vals ((vars, cs) : Inst).1 = true then (0 : Int) else 2) = rr
 have HRR := qH hrr
 clear hrr
 have bU := qC (St.start w).bel jr
 clear bU
 obtain ⟨bU, cO⟩ := iQ (St.start w).bel jr jD
 clear bU cO
 obtain ⟨bU, cO, bg⟩ := fQ (St.start w).bel jr jD xc0
 clear bU cO bg
 obtain ⟨bU, cO, bg, bI⟩ := jc (St.start w).bel jr jD xc0 gJ
 go_enter func165, ntmps165
 go_wp2_with fail
 refine (G5 (size, rs) (vars, cs) tb xb _ _ _ _ _ (Rd.mono HT.out (St.start w).bel) (Rd.mono HX.out (St.start w).bel) (qC (St.start w).bel jr) (qC (St.start w).bel jD) (qC (St.start w).bel xc0) (qC (St.start w).bel gJ)).mono ?_
 rintro e w1 ⟨rfl, ab4⟩
 have afV : w.heap.size ≤ w1.heap.size := hZ ab4
 have hs2 := (St.start w).step ab4
 clear bU cO bg bI
 obtain ⟨bU, cO, bg, bI⟩ := jc hs2.bel jr jD xc0 gJ
 rw [vW.out]
 go_upto_region 3 with fail
 cases AX : bG size vals vars
 · have HVO := qH AX
   clear AX
   refine iT (fun w' => cI w' tb 0 size ∧ cV w' tb 1 (.slice at0 rs.length ct0) ∧ cI w' xb 0 vars ∧ cV w' xb 1 (.slice ax cs.length cx)) (.z [0,1,2,3,4,5,6,7,8] (.hard 9 (.float 10 .nil))) ?_ ?_
   · exact (jc (hs2.drew).bel jr jD xc0 gJ:)
   have hs3 := hs2.drew
   clear bU cO bg bI
   have Uo : w1.heap.size ≤ (w1.drew).heap.size := by simp
   generalize w1.drew = wd4 at *
   refine aV ?_
   refine gX fun K hK => ?_
   go_wp2_with (go_at_call 287; refine (qN size vars vals _ _ (Rd.mono HVS.out hs3.bel) (by omega) (by omega)).mono ?_; rintro e w5 ⟨rfl, rfl⟩)
   rw [HVO.out]
   refine ⟨(jc hs3.bel jr jD xc0 gJ:), ?_⟩
   refine aV ?_
   obtain ⟨bU, cO, bg, bI⟩ := jc hs3.bel jr jD xc0 gJ
   refine iF ?_
   go_wp2_with fail
   go_ret
   exact ⟨aU ((if_neg (show ¬ (bG size vals vars = true) from by rw [HVO.out]; exact Bool.false_ne_true)).symm.trans HRR.out), hs3.bel⟩
 have HVO := qH AX
 clear AX
 refine iT (fun w' => cI w' tb 0 size ∧ cV w' tb 1 (.slice at0 rs.length ct0) ∧ cI w' xb 0 vars ∧ cV w' xb 1 (.slice ax cs.length cx)) (.z [0,1,2,3,4,5,6,7,8] (.hard 9 (.float 10 .nil))) ?_ ?_
 · exact (jc (hs2.drew).bel jr jD xc0 gJ:)
 have hs6 := hs2.drew
 clear bU cO bg bI
 have atN : w1.heap.size ≤ (w1.drew).heap.size := by simp
 generalize w1.drew = wd7 at *
 refine aV ?_
 refine gX fun K hK => ?_
 go_wp2_with (go_at_call 287; refine (qN size vars vals _ _ (Rd.mono HVS.out hs6.bel) (by omega) (by omega)).mono ?_; rintro e w8 ⟨rfl, rfl⟩)
 rw [HVO.out]
 refine ⟨(jc hs6.bel jr jD xc0 gJ:), ?_⟩
 refine aV ?_
 obtain ⟨bU, cO, bg, bI⟩ := jc hs6.bel jr jD xc0 gJ
 refine iF ?_
 go_wp2_with fail
 go_ret
 exact ⟨aU ((if_pos HVO.out).symm.trans HRR.out), hs6.bel⟩
theorem VZ (t : dB) (x : Inst) (v : oW) (tb xb vb : Nat) (t0 t1 x0 x1 v0 v1 v2 v3 v4 : Value) (w : World) (ht : Rd w [t0, t1] t) (hx : Rd w [x0, x1] x) (hv : Rd w [v0, v1, v2, v3, v4] v) (hok : cu t x = true) (hz1 : v.2.2.1.length ≤ 1048576) (hz2 : v.2.2.2.1.length ≤ 1048576) (jr : w.cell? ⟨tb, 0, none⟩ = some t0) (jD : w.cell? ⟨tb, 1, none⟩ = some t1) (xc0 : w.cell? ⟨xb, 0, none⟩ = some x0) (gJ : w.cell? ⟨xb, 1, none⟩ = some x1) (CQ : w.cell? ⟨vb, 0, none⟩ = some v0) (Ea : w.cell? ⟨vb, 1, none⟩ = some v1) (FQ : w.cell? ⟨vb, 2, none⟩ = some v2) (Hl : w.cell? ⟨vb, 3, none⟩ = some v3) (J5 : w.cell? ⟨vb, 4, none⟩ = some v4) :
 Calls prog 92 #[.pointer (some ⟨tb, 0, none⟩), .pointer (some ⟨xb, 0, none⟩), .pointer (some ⟨vb, 0, none⟩)] w fun e w' => e = .returned (.bool (gZ t x v)) ∧ Below w.heap.size w w' := by
 have hsz := (dV (aX hok).1).1
 have hvz := (aX hok).2.1
 obtain ⟨size, rs⟩ := t
 obtain ⟨vars, cs⟩ := x
 obtain ⟨k, vs, ar, pr, nu⟩ := v
 simp only at hsz hvz hz1 hz2
 obtain ⟨sn, rfl⟩ : ∃ n : Nat, size = (n : Int) := ⟨size.toNat, by omega⟩
 obtain ⟨V, rfl⟩ : ∃ n : Nat, vars = (n : Int) := ⟨vars.toNat, by omega⟩
 have vW := qH hok
 have HT := qH ht
 have HX := qH hx
 have Xy := qH hv
 have zt := au rfl ht
 obtain ⟨rfl, _⟩ := aG zt.1
 obtain ⟨at0, ct0, rfl, _⟩ := ah zt.2
 have zx := au rfl hx
 obtain ⟨rfl, _⟩ := aG zx.1
 obtain ⟨ax, cx, rfl, _⟩ := ah zx.2
 have y0 := au rfl hv
 obtain ⟨rfl, hIk⟩ := aG y0.1
 have y1 := au rfl y0.2
 have HVS := qH y1.1
 obtain ⟨a1, c1, rfl, _⟩ := ah y1.1
 have y2 := au rfl y1.2
 have HAR := qH y2.1
 obtain ⟨a2, c2, rfl, _⟩ := ah y2.1
 have y3 := au rfl y2.2
 have KD := qH y3.1
 obtain ⟨a3, c3, rfl, _⟩ := ah y3.1
 have HNU := qH y3.2
 obtain ⟨a4, c4, rfl, _⟩ := ah y3.2
 have HFU := qH (JO (sn := sn) (V := V) (by omega))
 clear hok ht hx hv zt zx y0 y1 y2 y3 hIk
 have bU := qC (St.start w).bel jr
 clear bU
 obtain ⟨bU, cO⟩ := iQ (St.start w).bel jr jD
 clear bU cO
 obtain ⟨bU, cO, bg⟩ := fQ (St.start w).bel jr jD xc0
 clear bU cO bg
 obtain ⟨bU, cO, bg, bI⟩ := jc (St.start w).bel jr jD xc0 gJ
 clear bU cO bg bI
 obtain ⟨bU, cO, bg, bI, kZ⟩ := zI (St.start w).bel jr jD xc0 gJ CQ
 clear bU cO bg bI kZ
 obtain ⟨bU, cO, bg, bI, kZ, nD⟩ := uZ (St.start w).bel jr jD xc0 gJ CQ Ea
 clear bU cO bg bI kZ nD
 obtain ⟨bU, cO, bg, bI, kZ, nD, oK⟩ := JX (St.start w).bel jr jD xc0 gJ CQ Ea FQ
 clear bU cO bg bI kZ nD oK
 obtain ⟨bU, cO, bg, bI, kZ, nD, oK, qZ⟩ := sN (St.start w).bel jr jD xc0 gJ CQ Ea FQ Hl
 clear bU cO bg bI kZ nD oK qZ
 obtain ⟨bU, cO, bg, bI, kZ, nD, oK, qZ⟩ := sN (St.start w).bel jr jD xc0 gJ CQ Ea FQ Hl
 have uY := qC (St.start w).bel J5
 go_enter func92, ntmps92
 go_wp2_with fail
 refine (YU (k, vs, ar, pr, nu) vb _ _ _ _ _ _ (Rd.mono Xy.out (St.start w).bel) (qC (St.start w).bel CQ) (qC (St.start w).bel Ea) (qC (St.start w).bel FQ) (qC (St.start w).bel Hl) (qC (St.start w).bel J5)).mono ?_
 rintro e w9 ⟨rfl, aci⟩
 have anq : w.heap.size ≤ w9.heap.size := hZ aci
 have hs10 := (St.start w).step aci
 clear bU cO bg bI kZ nD oK qZ uY
 obtain ⟨bU, cO, bg, bI, kZ, nD, oK, qZ⟩ := sN hs10.bel jr jD xc0 gJ CQ Ea FQ Hl
 have uY := qC hs10.bel J5
 cases hbr : fP (k, vs, ar, pr, nu)
 · have H9 := qH (show gZ ((sn : Int), rs) ((V : Int), cs) (k, vs, ar, pr, nu) = false from VJ hbr)
   clear hbr
   go_wp2_with fail
   go_ret
   exact ⟨ak H9.out.symm, hs10.bel⟩
 have HRT := qH (show gZ ((sn : Int), rs) ((V : Int), cs) (k, vs, ar, pr, nu) = ni ((sn : Int), rs) ((V : Int), cs) (k, vs, ar, pr, nu) from SK hbr)
 clear hbr
 by_cases hk0 : k = 0
 · subst hk0
   go_wp2_with fail
   refine (VY ((sn : Int), rs) ((V : Int), cs) vs tb xb _ _ _ _ _ _ (Rd.mono HT.out hs10.bel) (Rd.mono HX.out hs10.bel) (Rd.mono HVS.out hs10.bel) vW.out (qC hs10.bel jr) (qC hs10.bel jD) (qC hs10.bel xc0) (qC hs10.bel gJ)).mono ?_
   rintro e w11 ⟨rfl, FM⟩
   have abM : w9.heap.size ≤ w11.heap.size := hZ FM
   have kT := hs10.step FM
   clear bU cO bg bI kZ nD oK qZ uY
   obtain ⟨bU, cO, bg, bI, kZ, nD, oK, qZ⟩ := sN kT.bel jr jD xc0 gJ CQ Ea FQ Hl
   have uY := qC kT.bel J5
   cases AX : bG (sn : Int) vs (V : Int)
   · have H9 := qH (show gZ ((sn : Int), rs) ((V : Int), cs) (0, vs, ar, pr, nu) = false by rw [HRT.out, xK]; simp only; rw [AX]; rfl)
     clear AX
     go_wp2_with fail
     go_ret
     exact ⟨ak H9.out.symm, kT.bel⟩
   have HVL := qH (iR AX).1
   have HVO := qH AX
   clear AX
   go_wp2_with fail
   refine (Pm ((sn : Int), rs) ((V : Int), cs) vs tb xb _ _ _ _ _ _ (Rd.mono HT.out kT.bel) (Rd.mono HX.out kT.bel) (Rd.mono HVS.out kT.bel) vW.out HVL.out (qC kT.bel jD) (qC kT.bel gJ)).mono ?_
   rintro e w13 ⟨rfl, Rx⟩
   have ai5 : w11.heap.size ≤ w13.heap.size := hZ Rx
   have eU := kT.step Rx
   clear bU cO bg bI kZ nD oK qZ uY
   obtain ⟨bU, cO, bg, bI, kZ, nD, oK, qZ⟩ := sN eU.bel jr jD xc0 gJ CQ Ea FQ Hl
   have uY := qC eU.bel J5
   have hge := YS (fun c => !oI ((sn : Int), rs) vs c) cs
   have hfd : xI ((sn : Int), rs) ((V : Int), cs) vs = dN (fun c => !oI ((sn : Int), rs) vs c) cs := rfl
   by_cases hf : xI ((sn : Int), rs) ((V : Int), cs) vs < 0
   · have hfe : xI ((sn : Int), rs) ((V : Int), cs) vs = -1 := by omega
     have hfb : (xI ((sn : Int), rs) ((V : Int), cs) vs == -1) = true := by rw [hfe]; rfl
     have H9 := qH (show gZ ((sn : Int), rs) ((V : Int), cs) (0, vs, ar, pr, nu) = true by rw [HRT.out, xK]; simp only; rw [HVO.out, decide_eq_true hf]; rfl)
     clear hfe hf hfd hge
     go_wp2_with fail
     go_ret
     exact ⟨ak H9.out.symm, eU.bel⟩
   have hfb : (xI ((sn : Int), rs) ((V : Int), cs) vs == -1) = false := by rw [beq_eq_false_iff_ne]; omega
   have H9 := qH (show gZ ((sn : Int), rs) ((V : Int), cs) (0, vs, ar, pr, nu) = false by rw [HRT.out, xK]; simp only; rw [HVO.out, decide_eq_false hf]; rfl)
   clear hf hfd hge
   go_wp2_with fail
   go_ret
   exact ⟨ak H9.out.symm, eU.bel⟩
 have hb0 : (k == 0) = false := by rw [beq_eq_false_iff_ne]; exact hk0
 by_cases hk1 : k = 1
 · subst hk1
   go_upto_region 7 with fail
   refine iT (fun w' => cI w' tb 0 sn ∧ cV w' tb 1 (.slice at0 rs.length ct0) ∧ cI w' xb 0 V ∧ cV w' xb 1 (.slice ax cs.length cx) ∧ cI w' vb 0 1 ∧ cV w' vb 1 (.slice a1 vs.length c1) ∧ cV w' vb 2 (.slice a2 ar.length c2) ∧ cV w' vb 3 (.slice a3 pr.length c3) ∧ cV w' vb 4 (.slice a4 nu.length c4)) (.z [0,1,2,3,4,5,6,7,9,10,11,12] (.hard 8 (.hard 13 (.z [14,15,16,17,18,19,20] .nil)))) ?_ ?_
   · exact ⟨qC (hs10.drew).bel jr, qC (hs10.drew).bel jD, qC (hs10.drew).bel xc0, qC (hs10.drew).bel gJ, qC (hs10.drew).bel CQ, qC (hs10.drew).bel Ea, qC (hs10.drew).bel FQ, qC (hs10.drew).bel Hl, qC (hs10.drew).bel J5⟩
   have nZ := hs10.drew
   clear bU cO bg bI kZ nD oK qZ uY
   have GI : w9.heap.size ≤ (w9.drew).heap.size := by simp
   generalize w9.drew = I9 at *
   refine aV ?_
   refine gX fun K hK => ?_
   go_wp2_with (go_at_call 47; refine (YL sn V tb xb _ (qC nZ.bel jr) (qC nZ.bel xc0) (by omega) (by omega)).mono ?_; rintro e PU ⟨v9, rfl, jG, Aa⟩)
   have Vb : I9.heap.size ≤ PU.heap.size := hZ Aa
   have jP := nZ.step Aa
   have HD9 := qH jG.rd
   clear jG
   refine ⟨⟨qC jP.bel jr, qC jP.bel jD, qC jP.bel xc0, qC jP.bel gJ, qC jP.bel CQ, qC jP.bel Ea, qC jP.bel FQ, qC jP.bel Hl, qC jP.bel J5⟩, ?_⟩
   refine aV ?_
   refine gX fun K hK => ?_
   go_wp2_with (go_at_call 167; refine (KQ ((sn : Int), rs) _ _ ((V : Int), cs) _ _ (jW sn V) _ ar _ _ (Rd.mono HT.out jP.bel) (Rd.mono HX.out jP.bel) HD9.out (Rd.mono HAR.out jP.bel) HFU.out hz1).mono ?_; rintro e YZ ⟨u0, rfl, yQ, vZ⟩)
   have Vt : PU.heap.size ≤ YZ.heap.size := hZ vZ
   have jC := jP.step vZ
   have PG := qH (Rd.mono HD9.out vZ)
   clear HD9
   have Dn := qH (show ∀ l (b : List (Int × Int × Int)) n, ni ((sn : Int), rs) ((V : Int), cs) (1, l, ar, b, n) = (decide ((eX ((sn : Int), rs) ((V : Int), cs) (jW sn V) ar).2.2 = 0) && y5 (eX ((sn : Int), rs) ((V : Int), cs) (jW sn V) ar).1) from fun l b n => by rw [SE]; simp only [Int.toNat_natCast])
   generalize eX ((sn : Int), rs) ((V : Int), cs) (jW sn V) ar = RF at *
   obtain ⟨VL, ri9, rc9⟩ := RF
   obtain ⟨a9, c9, rfl, _⟩ := ah yQ.rd
   have BZ := qH yQ.rd
   clear yQ
   simp only at BZ Dn
   refine ⟨⟨qC jC.bel jr, qC jC.bel jD, qC jC.bel xc0, qC jC.bel gJ, qC jC.bel CQ, qC jC.bel Ea, qC jC.bel FQ, qC jC.bel Hl, qC jC.bel J5⟩, ?_⟩
   refine aV ?_
   obtain ⟨bU, cO, bg, bI, kZ, nD, oK, qZ⟩ := sN jC.bel jr jD xc0 gJ CQ Ea FQ Hl
   have uY := qC jC.bel J5
   refine iF ?_
   by_cases hc0 : rc9 = 0
   rotate_left
   · have hcb : (rc9 == 0) = false := by rw [beq_eq_false_iff_ne]; exact hc0
     have H9 := qH (show gZ ((sn : Int), rs) ((V : Int), cs) (1, vs, ar, pr, nu) = false by rw [HRT.out, Dn.out, decide_eq_false hc0]; rfl)
     clear hc0
     go_wp2_with fail
     go_ret
     exact ⟨ak H9.out.symm, jC.bel⟩
   subst hc0
   go_wp2_with fail
   refine (YM VL _ _ BZ.out).mono ?_
   rintro e w22 ⟨rfl, Ah⟩
   have aco : YZ.heap.size ≤ w22.heap.size := hZ Ah
   have nR := jC.step Ah
   clear PG
   clear BZ
   clear bU cO bg bI kZ nD oK qZ uY
   obtain ⟨bU, cO, bg, bI, kZ, nD, oK, qZ⟩ := sN nR.bel jr jD xc0 gJ CQ Ea FQ Hl
   have uY := qC nR.bel J5
   have H9 := qH (show gZ ((sn : Int), rs) ((V : Int), cs) (1, vs, ar, pr, nu) = y5 VL by rw [HRT.out, Dn.out]; rfl)
   go_wp2_with fail
   go_ret
   exact ⟨ak H9.out.symm, nR.bel⟩
 have hb1 : (k == 1) = false := by rw [beq_eq_false_iff_ne]; exact hk1
 by_cases hk2 : k = 2
 · subst hk2
   go_upto_region 10 with fail
   refine iT (fun w' => cI w' tb 0 sn ∧ cV w' tb 1 (.slice at0 rs.length ct0) ∧ cI w' xb 0 V ∧ cV w' xb 1 (.slice ax cs.length cx) ∧ cI w' vb 0 2 ∧ cV w' vb 1 (.slice a1 vs.length c1) ∧ cV w' vb 2 (.slice a2 ar.length c2) ∧ cV w' vb 3 (.slice a3 pr.length c3) ∧ cV w' vb 4 (.slice a4 nu.length c4)) (.z [0,1,2,3,4,5,6,7,8,9] (.hard 10 (.z [11,12,13,14,15,16,17] .nil))) ?_ ?_
   · exact ⟨qC (hs10.drew).bel jr, qC (hs10.drew).bel jD, qC (hs10.drew).bel xc0, qC (hs10.drew).bel gJ, qC (hs10.drew).bel CQ, qC (hs10.drew).bel Ea, qC (hs10.drew).bel FQ, qC (hs10.drew).bel Hl, qC (hs10.drew).bel J5⟩
   have y9 := hs10.drew
   clear bU cO bg bI kZ nD oK qZ uY
   have Xm : w9.heap.size ≤ (w9.drew).heap.size := by simp
   generalize w9.drew = UD at *
   refine aV ?_
   refine gX fun K hK => ?_
   go_wp2_with (go_at_call 168; refine (JV ((sn : Int), rs) _ _ ((V : Int), cs) _ _ pr _ _ (Rd.mono HT.out y9.bel) (Rd.mono HX.out y9.bel) (Rd.mono KD.out y9.bel) hz2).mono ?_; rintro e w28 ⟨u0, rfl, yQ, DZ⟩)
   have ace : UD.heap.size ≤ w28.heap.size := hZ DZ
   have pz := y9.step DZ
   have Dn := qH (show ∀ l (a : List (Int × Int × Int)) n, ni ((sn : Int), rs) ((V : Int), cs) (2, l, a, pr, n) = (decide ((dJ ((sn : Int), rs) ((V : Int), cs) pr).2.2 = 0) && y7 (dJ ((sn : Int), rs) ((V : Int), cs) pr).1) from fun l a n => SG _ _ _ _ _ _)
   generalize dJ ((sn : Int), rs) ((V : Int), cs) pr = RF at *
   obtain ⟨VL, ri9, rc9⟩ := RF
   obtain ⟨a9, c9, rfl, _⟩ := ah yQ.rd
   have BZ := qH yQ.rd
   clear yQ
   simp only at BZ Dn
   refine ⟨⟨qC pz.bel jr, qC pz.bel jD, qC pz.bel xc0, qC pz.bel gJ, qC pz.bel CQ, qC pz.bel Ea, qC pz.bel FQ, qC pz.bel Hl, qC pz.bel J5⟩, ?_⟩
   refine aV ?_
   obtain ⟨bU, cO, bg, bI, kZ, nD, oK, qZ⟩ := sN pz.bel jr jD xc0 gJ CQ Ea FQ Hl
   have uY := qC pz.bel J5
   refine iF ?_
   by_cases hc0 : rc9 = 0
   · subst hc0
     go_wp2_with fail
     refine (YT VL _ _ BZ.out).mono ?_
     rintro e w30 ⟨rfl, QC⟩
     have ahs : w28.heap.size ≤ w30.heap.size := hZ QC
     have kM := pz.step QC
     clear BZ
     clear bU cO bg bI kZ nD oK qZ uY
     obtain ⟨bU, cO, bg, bI, kZ, nD, oK, qZ⟩ := sN kM.bel jr jD xc0 gJ CQ Ea FQ Hl
     have uY := qC kM.bel J5
     have H9 := qH (show gZ ((sn : Int), rs) ((V : Int), cs) (2, vs, ar, pr, nu) = y7 VL by rw [HRT.out, Dn.out]; rfl)
     go_wp2_with fail
     go_ret
     exact ⟨ak H9.out.symm, kM.bel⟩
   have hcb : (rc9 == 0) = false := by rw [beq_eq_false_iff_ne]; exact hc0
   have H9 := qH (show gZ ((sn : Int), rs) ((V : Int), cs) (2, vs, ar, pr, nu) = false by rw [HRT.out, Dn.out, decide_eq_false hc0]; rfl)
   clear hc0
   go_wp2_with fail
   go_ret
   exact ⟨ak H9.out.symm, pz.bel⟩
 have hb2 : (k == 2) = false := by rw [beq_eq_false_iff_ne]; exact hk2
 by_cases hk3 : k = 3
 rotate_left
 · have hb3 : (k == 3) = false := by rw [beq_eq_false_iff_ne]; exact hk3
   have H9 := qH (show gZ ((sn : Int), rs) ((V : Int), cs) (k, vs, ar, pr, nu) = false by rw [HRT.out, SI hk0 hk1 hk2 hk3])
   clear hk0 hk1 hk2 hk3
   go_wp2_with fail
   go_ret
   exact ⟨ak H9.out.symm, hs10.bel⟩
 subst hk3
 go_wp2_with fail
 refine (QZ ((sn : Int), rs) ((V : Int), cs) tb xb _ _ _ _ _ (Rd.mono HT.out hs10.bel) (Rd.mono HX.out hs10.bel) vW.out (qC hs10.bel jr) (qC hs10.bel jD) (qC hs10.bel xc0) (qC hs10.bel gJ)).mono ?_
 rintro e w33 ⟨u0, u1, u2, rfl, yQ, agz⟩
 have atO : w9.heap.size ≤ w33.heap.size := hZ agz
 have xA := hs10.step agz
 clear bU cO bg bI kZ nD oK qZ uY
 obtain ⟨bU, cO, bg, bI, kZ, nD, oK, qZ⟩ := sN xA.bel jr jD xc0 gJ CQ Ea FQ Hl
 have uY := qC xA.bel J5
 have Dn := qH (show ∀ l (a b : List (Int × Int × Int)), ni ((sn : Int), rs) ((V : Int), cs) (3, l, a, b, nu) = (decide ((pq ((sn : Int), rs) ((V : Int), cs)).2 = 0) && (kS (pq ((sn : Int), rs) ((V : Int), cs)).1 nu).1) from fun l a b => SH _ _ _ _ _ _)
 have z9 := yQ.rd
 generalize pq ((sn : Int), rs) ((V : Int), cs) = SF at *
 obtain ⟨⟨p9, n9, l9⟩, cd9⟩ := SF
 have z8 := au rfl z9
 obtain ⟨rfl, _⟩ := aG z8.1
 have z7 := au rfl z8.2
 obtain ⟨rfl, _⟩ := aG z7.1
 obtain ⟨a9, c9, rfl, _⟩ := ah z7.2
 have xw := qH z9
 clear z9 z8 z7 yQ
 simp only at Dn xw
 by_cases hc0 : cd9 = 0
 rotate_left
 · have hcb : (cd9 != 0) = true := by rw [bne_iff_ne]; exact hc0
   have pV := xA.alloc #[.int .i64 p9, .int .i64 n9, .slice a9 l9.length c9] 61 (n := w33.heap.size) (by simp)
   clear xw
   clear bU cO bg bI kZ nD oK qZ uY
   obtain ⟨aF, aH, ig⟩ := pV.c3 0 0 0 1 0 2
   obtain ⟨bU, cO, bg, bI, kZ, nD, oK, qZ⟩ := sN pV.bel jr jD xc0 gJ CQ Ea FQ Hl
   have uY := qC pV.bel J5
   have H9 := qH (show gZ ((sn : Int), rs) ((V : Int), cs) (3, vs, ar, pr, nu) = false by rw [HRT.out, Dn.out, decide_eq_false hc0]; rfl)
   clear hc0
   go_wp2_with fail
   go_ret
   exact ⟨ak H9.out.symm, pV.bel⟩
 subst hc0
 have iY := xA.alloc #[.int .i64 p9, .int .i64 n9, .slice a9 l9.length c9] 61 (n := w33.heap.size) (by simp)
 have acB := qH (Rd.mono xw.out (aB _ (.cells #[.int .i64 p9, .int .i64 n9, .slice a9 l9.length c9] 61)))
 clear xw
 clear bU cO bg bI kZ nD oK qZ uY
 obtain ⟨aF, aH, ig⟩ := iY.c3 0 0 0 1 0 2
 obtain ⟨bU, cO, bg, bI, kZ, nD, oK, qZ⟩ := sN iY.bel jr jD xc0 gJ CQ Ea FQ Hl
 have uY := qC iY.bel J5
 go_upto_region 16 with fail
 refine iT (fun w' => cI w' w33.heap.size 0 p9 ∧ cI w' w33.heap.size 1 n9 ∧ cV w' w33.heap.size 2 (.slice a9 l9.length c9) ∧ cI w' tb 0 sn ∧ cV w' tb 1 (.slice at0 rs.length ct0) ∧ cI w' xb 0 V ∧ cV w' xb 1 (.slice ax cs.length cx) ∧ cI w' vb 0 3 ∧ cV w' vb 1 (.slice a1 vs.length c1) ∧ cV w' vb 2 (.slice a2 ar.length c2) ∧ cV w' vb 3 (.slice a3 pr.length c3) ∧ cV w' vb 4 (.slice a4 nu.length c4)) (.z [0,1,2,3,4] (.hard 5 (.z [6,7,8,9,10] .nil))) ?_ ?_
 · exact ⟨(iY.drew).c 0 0, (iY.drew).c 0 1, (iY.drew).c 0 2, qC (iY.drew).bel jr, qC (iY.drew).bel jD, qC (iY.drew).bel xc0, qC (iY.drew).bel gJ, qC (iY.drew).bel CQ, qC (iY.drew).bel Ea, qC (iY.drew).bel FQ, qC (iY.drew).bel Hl, qC (iY.drew).bel J5⟩
 have nY := iY.drew
 have acC := qH (Rd.mono acB.out (belowD _))
 clear acB
 clear aF aH ig bU cO bg bI kZ nD oK qZ uY
 have GN : w33.heap.size + 1 ≤ ((w33.alloc (.cells #[.int .i64 p9, .int .i64 n9, .slice a9 l9.length c9] 61)).drew).heap.size := by simp
 generalize (w33.alloc (.cells #[.int .i64 p9, .int .i64 n9, .slice a9 l9.length c9] 61)).drew = Dw at *
 refine aV ?_
 refine gX fun K hK => ?_
 go_wp2_with (go_at_call 169; refine (Gs (p9, n9, l9) _ _ _ nu _ _ acC.out (Rd.mono HNU.out nY.bel)).mono ?_; rintro e w40 ⟨rfl, MN⟩)
 have air : Dw.heap.size ≤ w40.heap.size := hZ MN
 have mY := nY.step MN
 clear acC
 refine ⟨⟨mY.c 0 0, mY.c 0 1, mY.c 0 2, qC mY.bel jr, qC mY.bel jD, qC mY.bel xc0, qC mY.bel gJ, qC mY.bel CQ, qC mY.bel Ea, qC mY.bel FQ, qC mY.bel Hl, qC mY.bel J5⟩, ?_⟩
 refine aV ?_
 obtain ⟨aF, aH, ig⟩ := mY.c3 0 0 0 1 0 2
 obtain ⟨bU, cO, bg, bI, kZ, nD, oK, qZ⟩ := sN mY.bel jr jD xc0 gJ CQ Ea FQ Hl
 have uY := qC mY.bel J5
 refine iF ?_
 have H9 := qH (show gZ ((sn : Int), rs) ((V : Int), cs) (3, vs, ar, pr, nu) = (kS (p9, n9, l9) nu).1 by rw [HRT.out, Dn.out]; rfl)
 go_wp2_with fail
 go_ret
 exact ⟨ak H9.out.symm, mY.bel⟩
theorem PL (t : dB) (t0 t1 : Value) (x : Inst) (x0 x1 : Value) (v : oW) (v0 v1 v2 v3 v4 : Value) (w : World) (ht : Rd w [t0, t1] t) (hx : Rd w [x0, x1] x) (hv : Rd w [v0, v1, v2, v3, v4] v) (hz1 : v.2.2.1.length ≤ 1048576) (hz2 : v.2.2.2.1.length ≤ 1048576) :
 Calls prog 33 #[.agg #[t0, t1], .agg #[x0, x1], .agg #[v0, v1, v2, v3, v4]] w fun e w' => e = .returned (.tuple #[.bool (kJ t x v).1, .int .i64 (kJ t x v).2]) ∧ Below w.heap.size w w' := by
 have HY := qH (fun h : cu t x = true => show kJ t x v = (gZ t x v, 0) by unfold kJ; rw [if_pos h])
 have HN := qH (fun h : cu t x = false => show kJ t x v = (false, 1) by unfold kJ; rw [h]; rfl)
 obtain ⟨size, rs⟩ := t
 obtain ⟨vars, cs⟩ := x
 have HT := qH ht
 have HX := qH hx
 have Xy := qH hv
 have zt := au rfl ht
 obtain ⟨rfl, _⟩ := aG zt.1
 obtain ⟨at0, ct0, rfl, _⟩ := ah zt.2
 have zx := au rfl hx
 obtain ⟨rfl, _⟩ := aG zx.1
 obtain ⟨ax, cx, rfl, _⟩ := ah zx.2
 clear ht hx hv zt zx
 have A8 := (St.start w).alloc #[.int .i64 size, .slice at0 rs.length ct0] 42 (n := w.heap.size) (by simp)
 have rY := A8.alloc #[.int .i64 vars, .slice ax cs.length cx] 46 (n := w.heap.size + 1) (by simp)
 have rZ := rY.alloc #[v0, v1, v2, v3, v4] 37 (n := w.heap.size + 1 + 1) (by simp)
 obtain ⟨aF, aH, aJ, aK, aW, aY, bn, kF⟩ := rZ.c8 0 0 0 1 1 0 1 1 2 0 2 1 2 2 2 3
 have kG := rZ.c 2 4
 go_enter func33, ntmps33
 go_wp2_with fail
 refine (G5 (size, rs) (vars, cs) (w.heap.size) (w.heap.size + 1) _ _ _ _ _ (Rd.mono HT.out rZ.bel) (Rd.mono HX.out rZ.bel) (rZ.c 0 0) (rZ.c 0 1) (rZ.c 1 0) (rZ.c 1 1)).mono ?_
 rintro e w48 ⟨rfl, Rf⟩
 have aiL : w.heap.size + 1 + 1 + 1 ≤ w48.heap.size := hZ Rf
 have ku := rZ.step Rf
 clear aF aH aJ aK aW aY bn kF kG
 obtain ⟨aF, aH, aJ, aK, aW, aY, bn, kF⟩ := ku.c8 0 0 0 1 1 0 1 1 2 0 2 1 2 2 2 3
 have kG := ku.c 2 4
 cases hok : cu (size, rs) (vars, cs)
 · have H1 := qH (HN.out hok)
   clear hok
   go_wp2_with fail
   refine bodyPost_ret (v := .tuple #[.bool false, .int .i64 1]) (by simp [results, results33, go_sem]) rfl ⟨by rw [H1.out], ku.bel⟩
 have HK := qH hok
 have H1 := qH (HY.out hok)
 clear hok
 go_wp2_with fail
 refine (VZ (size, rs) (vars, cs) v (w.heap.size) (w.heap.size + 1) (w.heap.size + 1 + 1) _ _ _ _ _ _ _ _ _ _ (Rd.mono HT.out ku.bel) (Rd.mono HX.out ku.bel) (Rd.mono Xy.out ku.bel) HK.out hz1 hz2 (ku.c 0 0) (ku.c 0 1) (ku.c 1 0) (ku.c 1 1) (ku.c 2 0) (ku.c 2 1) (ku.c 2 2) (ku.c 2 3) (ku.c 2 4)).mono ?_
 rintro e w50 ⟨rfl, agA⟩
 have atP : w48.heap.size ≤ w50.heap.size := hZ agA
 have OC := ku.step agA
 clear aF aH aJ aK aW aY bn kF kG
 obtain ⟨aF, aH, aJ, aK, aW, aY, bn, kF⟩ := OC.c8 0 0 0 1 1 0 1 1 2 0 2 1 2 2 2 3
 have kG := OC.c 2 4
 go_wp2_with fail
 refine bodyPost_ret (v := .tuple #[.bool (gZ (size, rs) (vars, cs) v), .int .i64 0]) (by simp [results, results33, go_sem]) rfl ⟨by rw [H1.out], OC.bel⟩
end Go.Proofs.YtoblfnoaepbhfaaGreat
