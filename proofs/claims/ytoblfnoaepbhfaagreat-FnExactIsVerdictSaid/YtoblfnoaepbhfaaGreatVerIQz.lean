import Derived.Test.YtoblfnoaepbhfaaGreatVerPQz
import Derived.Test.YtoblfnoaepbhfaaGreatSameVQz
import Derived.Test.YtoblfnoaepbhfaaGreatSysBQz
set_option linter.unusedSimpArgs false
set_option linter.unusedVariables false
set_option maxHeartbeats 16000000
set_option maxRecDepth 100000
namespace Go.Proofs.YtoblfnoaepbhfaaGreat
open Go.Proofs.Tryz
open Go.RowKit Go.Shelf Go.IntWalk
open Rep (Rd Own sz)
theorem sJ {α : Type} [Rep α] {w : World} : Rd w [.slice none 0 0] ([] : List α) := Rep.bP (⟨_, rfl, .inl ⟨rfl, rfl, none, 0, rfl, Nat.zero_le _⟩⟩ : Own [] w [.slice none 0 0] ([] : List α))
theorem VK (w : World) (l : List bH) : Oo 64 #[] w l (fun r => decide (r.2.length = 0)) := by
 intro W y u0 u1 hbel hy hmem
 obtain ⟨ya, yl⟩ := y
 have z := au rfl hy
 obtain ⟨rfl, _⟩ := aG z.1
 obtain ⟨ay, cy, rfl, _⟩ := ah z.2
 show Calls prog 64 #[_] W (fun e w' => e = .returned (.bool (decide (yl.length = 0))) ∧ _)
 clear hy z hbel hmem
 generalize hd : decide (yl.length = 0) = dd
 have HD := qH hd
 clear hd
 have hs1 := (St.start W).alloc #[.int .i64 ya, .slice ay yl.length cy] 118 (n := W.heap.size) (by simp)
 obtain ⟨aF, aH⟩ := hs1.c2 0 0 0 1
 go_enter func64, ntmps64
 by_cases h : yl.length = 0
 · have hb : ((yl.length : Int) == 0) = true := by rw [h]; rfl
   have H9 := qH (show dd = true from HD.out.symm.trans (decide_eq_true h))
   clear h
   go_wp2_with fail
   go_ret
   exact ⟨ak H9.out.symm, hs1.bel⟩
 have hb : ((yl.length : Int) == 0) = false := by rw [beq_eq_false_iff_ne]; omega
 have H9 := qH (show dd = false from HD.out.symm.trans (decide_eq_false h))
 clear h
 go_wp2_with fail
 go_ret
 exact ⟨ak H9.out.symm, hs1.bel⟩
theorem SL (t : dB) (x : Inst) (v : oW) (t0 t1 x0 x1 v0 v1 v2 v3 v4 : Value) (w : World) (ht : Rd w [t0, t1] t) (hx : Rd w [x0, x1] x) (hv : Rd w [v0, v1, v2, v3, v4] v) (hok : cu t x = true) (hz1 : v.2.2.1.length ≤ 1048576) (hz2 : v.2.2.2.1.length ≤ 1048576) :
 Calls prog 95 #[.agg #[t0, t1], .agg #[x0, x1], .agg #[v0, v1, v2, v3, v4]] w fun e w' => e = .returned (.bool (gZ t x v)) ∧ Below w.heap.size w w' := by
 have hsz := (dV (aX hok).1).1
 have hvz := (aX hok).2.1
 obtain ⟨size, rs⟩ := t
 obtain ⟨vars, cs⟩ := x
 obtain ⟨k, vs, ar, pr, nu⟩ := v
 simp only at hsz hvz hz1 hz2
 obtain ⟨sn, rfl⟩ : ∃ n : Nat, size = (n : Int) := ⟨size.toNat, by omega⟩
 obtain ⟨V, rfl⟩ : ∃ n : Nat, vars = (n : Int) := ⟨vars.toNat, by omega⟩
 have vW := qH hok
 have HT := qH ht
 have HX := qH hx
 have Xy := qH hv
 have zt := au rfl ht
 obtain ⟨rfl, _⟩ := aG zt.1
 have HRS := qH zt.2
 obtain ⟨at0, ct0, rfl, _⟩ := ah zt.2
 have zx := au rfl hx
 obtain ⟨rfl, _⟩ := aG zx.1
 have PW := qH zx.2
 obtain ⟨ax, cx, rfl, _⟩ := ah zx.2
 have y0 := au rfl hv
 obtain ⟨rfl, hIk⟩ := aG y0.1
 have y1 := au rfl y0.2
 have HVS := qH y1.1
 obtain ⟨a1, c1, rfl, _⟩ := ah y1.1
 have y2 := au rfl y1.2
 have HAR := qH y2.1
 obtain ⟨a2, c2, rfl, _⟩ := ah y2.1
 have y3 := au rfl y2.2
 have KD := qH y3.1
 obtain ⟨a3, c3, rfl, _⟩ := ah y3.1
 have HNU := qH y3.2
 obtain ⟨a4, c4, rfl, _⟩ := ah y3.2
 have HFU := qH (JO (sn := sn) (V := V) (by omega))
 clear hok ht hx hv zt zx y0 y1 y2 y3 hIk
 have hs2 := (St.start w).alloc #[.int .i64 sn, .slice at0 rs.length ct0] 42 (n := w.heap.size) (by simp)
 have hs3 := hs2.alloc #[.int .i64 V, .slice ax cs.length cx] 46 (n := w.heap.size + 1) (by simp)
 have hs4 := hs3.alloc #[.int .i64 k, .slice a1 vs.length c1, .slice a2 ar.length c2, .slice a3 pr.length c3, .slice a4 nu.length c4] 37 (n := w.heap.size + 1 + 1) (by simp)
 have p0 := (hs4.c 2 0)
 have hs5 := hs4.alloc #[.int .i64 k, .slice none 0 0, .slice none 0 0, .slice none 0 0, .slice none 0 0] 37 (n := w.heap.size + 1 + 1 + 1) (by simp)
 obtain ⟨aF, aH, aJ, aK, aW, aY, bn, kF⟩ := hs5.c8 0 0 0 1 1 0 1 1 2 0 2 1 2 2 2 3
 obtain ⟨kG, dM, fF, gY, og, oh⟩ := hs5.c6 2 4 3 0 3 1 3 2 3 3 3 4
 go_enter func95, ntmps95
 go_upto_region 3 with fail
 clear p0
 have afX : w.heap.size + 1 + 1 + 1 + 1 ≤ (((((w.alloc (.cells #[.int .i64 sn, .slice at0 rs.length ct0] 42)).alloc (.cells #[.int .i64 V, .slice ax cs.length cx] 46)).alloc (.cells #[.int .i64 k, .slice a1 vs.length c1, .slice a2 ar.length c2, .slice a3 pr.length c3, .slice a4 nu.length c4] 37)).alloc (.cells #[.int .i64 k, .slice none 0 0, .slice none 0 0, .slice none 0 0, .slice none 0 0] 37))).heap.size := by simp
 generalize ((((w.alloc (.cells #[.int .i64 sn, .slice at0 rs.length ct0] 42)).alloc (.cells #[.int .i64 V, .slice ax cs.length cx] 46)).alloc (.cells #[.int .i64 k, .slice a1 vs.length c1, .slice a2 ar.length c2, .slice a3 pr.length c3, .slice a4 nu.length c4] 37)).alloc (.cells #[.int .i64 k, .slice none 0 0, .slice none 0 0, .slice none 0 0, .slice none 0 0] 37)) = wO at *
 by_cases hk0 : k = 0
 · subst hk0
   have ajx := hs5.aC 3 rfl 0
   have ajy := hs5.aC 3 rfl 1
   have ajz := hs5.aC 3 rfl 2
   have ajA := hs5.aC 3 rfl 3
   have ajB := hs5.aC 3 rfl 4
   go_wp2_with fail
   have hs6 := hs5.set (p := [_, _, _]) (by simp <;> omega) 1 (.slice a1 vs.length c1)
   clear aF aH aJ aK aW aY bn kF kG dM fF gY og oh
   have Q5 : wO.heap.size ≤ ((wO.setCell ⟨w.heap.size + 1 + 1 + 1, 1, none⟩ (.slice a1 vs.length c1))).heap.size := by simp [World.setCell]
   generalize (wO.setCell ⟨w.heap.size + 1 + 1 + 1, 1, none⟩ (.slice a1 vs.length c1)) = wP at *
   obtain ⟨aF, aH, aJ, aK, aW, aY, bn, kF⟩ := hs6.c8 0 0 0 1 1 0 1 1 2 0 2 1 2 2 2 3
   obtain ⟨kG, dM, fF, gY, og, oh⟩ := hs6.c6 2 4 3 0 3 1 3 2 3 3 3 4
   go_wp2_with fail
   refine (oQ (sn : Int) vs _ (V : Int) _ (Rd.mono HVS.out hs6.bel) (by omega) (by omega)).mono ?_
   rintro e w7 ⟨rfl, AY⟩
   have Xj : wP.heap.size ≤ w7.heap.size := hZ AY
   have hs8 := hs6.step AY
   clear aF aH aJ aK aW aY bn kF kG dM fF gY og oh
   obtain ⟨aF, aH, aJ, aK, aW, aY, bn, kF⟩ := hs8.c8 0 0 0 1 1 0 1 1 2 0 2 1 2 2 2 3
   obtain ⟨kG, dM, fF, gY, og, oh⟩ := hs8.c6 2 4 3 0 3 1 3 2 3 3 3 4
   cases AX : bG (sn : Int) vs (V : Int)
   · have H9 := qH (show gZ ((sn : Int), rs) ((V : Int), cs) (0, vs, ar, pr, nu) = false from pY (by rw [xK]; simp only; rw [AX]; rfl))
     clear AX
     go_wp2_with fail
     go_ret
     exact ⟨ak H9.out.symm, hs8.bel⟩
   have hvl := (iR AX).1
   have HVO := qH AX
   have HVL := qH hvl
   clear AX hvl
   go_wp2_with fail
   refine (YJ ((sn : Int), rs) ((V : Int), cs) vs _ _ _ _ _ _ (Rd.mono HT.out hs8.bel) (Rd.mono HX.out hs8.bel) (Rd.mono HVS.out hs8.bel) vW.out HVL.out).mono ?_
   rintro e w9 ⟨rfl, aci⟩
   have anq : w7.heap.size ≤ w9.heap.size := hZ aci
   have hs10 := hs8.step aci
   clear aF aH aJ aK aW aY bn kF kG dM fF gY og oh
   obtain ⟨aF, aH, aJ, aK, aW, aY, bn, kF⟩ := hs10.c8 0 0 0 1 1 0 1 1 2 0 2 1 2 2 2 3
   obtain ⟨kG, dM, fF, gY, og, oh⟩ := hs10.c6 2 4 3 0 3 1 3 2 3 3 3 4
   by_cases hf : xI ((sn : Int), rs) ((V : Int), cs) vs < 0
   rotate_left
   · have H9 := qH (show gZ ((sn : Int), rs) ((V : Int), cs) (0, vs, ar, pr, nu) = false from pY (by rw [xK]; simp only; rw [HVO.out, decide_eq_false hf]; rfl))
     go_wp2_with fail
     go_ret
     exact ⟨ak H9.out.symm, hs10.bel⟩
   have HF := qH hf
   have H9 := qH (show gZ ((sn : Int), rs) ((V : Int), cs) (0, vs, ar, pr, nu) = fP (0, vs, ar, pr, nu) from AQ (by rw [xK]; simp only; rw [HVO.out, decide_eq_true HF.out]; rfl))
   have QG := qH (show Nu (0, vs, ar, pr, nu) (0, vs, [], [], []) = fP (0, vs, ar, pr, nu) from rfl)
   have HRO := qH (show Rd w9 [.int .i64 0, .slice a1 vs.length c1, .slice none 0 0, .slice none 0 0, .slice none 0 0] ((0, vs, [], [], []) : oW) from ⟨[_], _, rfl, ⟨rfl, ⟨by dsimp only; decide, by dsimp only; decide⟩⟩, [_], _, rfl, (Rd.mono HVS.out hs10.bel), [_], _, rfl, sJ, [_], _, rfl, sJ, sJ⟩)
   go_wp2_with fail
   refine (rE (0, vs, ar, pr, nu) _ _ _ _ _ (0, vs, [], [], []) _ _ _ _ _ _ (Rd.mono Xy.out hs10.bel) HRO.out).mono ?_
   rintro e w11 ⟨rfl, FM⟩
   have abM : w9.heap.size ≤ w11.heap.size := hZ FM
   have kT := hs10.step FM
   clear HRO
   clear aF aH aJ aK aW aY bn kF kG dM fF gY og oh
   obtain ⟨aF, aH, aJ, aK, aW, aY, bn, kF⟩ := kT.c8 0 0 0 1 1 0 1 1 2 0 2 1 2 2 2 3
   obtain ⟨kG, dM, fF, gY, og, oh⟩ := kT.c6 2 4 3 0 3 1 3 2 3 3 3 4
   rw [QG.out]
   go_wp2_with fail
   go_ret
   exact ⟨ak H9.out.symm, kT.bel⟩
 have hb0 : (k == 0) = false := by rw [beq_eq_false_iff_ne]; exact hk0
 by_cases hk1 : k = 1
 · subst hk1
   have ajx := hs5.aC 3 rfl 0
   have ajy := hs5.aC 3 rfl 1
   have ajz := hs5.aC 3 rfl 2
   have ajA := hs5.aC 3 rfl 3
   have ajB := hs5.aC 3 rfl 4
   go_wp2_with fail
   have eU := hs5.set (p := [_, _, _]) (by simp <;> omega) 2 (.slice a2 ar.length c2)
   clear aF aH aJ aK aW aY bn kF kG dM fF gY og oh
   have Q5 : wO.heap.size ≤ ((wO.setCell ⟨w.heap.size + 1 + 1 + 1, 2, none⟩ (.slice a2 ar.length c2))).heap.size := by simp [World.setCell]
   generalize (wO.setCell ⟨w.heap.size + 1 + 1 + 1, 2, none⟩ (.slice a2 ar.length c2)) = wP at *
   obtain ⟨aF, aH, aJ, aK, aW, aY, bn, kF⟩ := eU.c8 0 0 0 1 1 0 1 1 2 0 2 1 2 2 2 3
   obtain ⟨kG, dM, fF, gY, og, oh⟩ := eU.c6 2 4 3 0 3 1 3 2 3 3 3 4
   go_upto_region 9 with fail
   refine iT (fun w' => cI w' w.heap.size 0 sn ∧ cV w' w.heap.size 1 (.slice at0 rs.length ct0) ∧ cI w' (w.heap.size + 1) 0 V ∧ cV w' (w.heap.size + 1) 1 (.slice ax cs.length cx) ∧ cI w' (w.heap.size + 1 + 1) 0 1 ∧ cV w' (w.heap.size + 1 + 1) 1 (.slice a1 vs.length c1) ∧ cV w' (w.heap.size + 1 + 1) 2 (.slice a2 ar.length c2) ∧ cV w' (w.heap.size + 1 + 1) 3 (.slice a3 pr.length c3) ∧ cV w' (w.heap.size + 1 + 1) 4 (.slice a4 nu.length c4) ∧ cI w' (w.heap.size + 1 + 1 + 1) 0 1 ∧ cV w' (w.heap.size + 1 + 1 + 1) 1 (.slice none 0 0) ∧ cV w' (w.heap.size + 1 + 1 + 1) 2 (.slice a2 ar.length c2) ∧ cV w' (w.heap.size + 1 + 1 + 1) 3 (.slice none 0 0) ∧ cV w' (w.heap.size + 1 + 1 + 1) 4 (.slice none 0 0)) (.z [0,1,2,3,5,6] (.hard 4 (.hard 7 (.z [8,9,10,11,12,13,14] .nil)))) ?_ ?_
   · exact (eU.drew).d6 0 0 0 1 1 0 1 1 2 0 2 1 ((eU.drew).c8 2 2 2 3 2 4 3 0 3 1 3 2 3 3 3 4)
   have nZ := eU.drew
   clear aF aH aJ aK aW aY bn kF kG dM fF gY og oh
   have GI : wP.heap.size ≤ (wP.drew).heap.size := by simp
   generalize wP.drew = I9 at *
   refine aV ?_
   refine gX fun K hK => ?_
   go_wp2_with (go_at_call 58; refine (KJ sn V rs cs _ _ _ (Rd.mono HRS.out nZ.bel) (Rd.mono PW.out nZ.bel) (by omega) (by omega)).mono ?_; rintro e PU ⟨v9, rfl, jG, Aa⟩)
   have Vb : I9.heap.size ≤ PU.heap.size := hZ Aa
   have jP := nZ.step Aa
   have HD9 := qH jG.rd
   clear jG
   refine ⟨(jP.d6 0 0 0 1 1 0 1 1 2 0 2 1 (jP.c8 2 2 2 3 2 4 3 0 3 1 3 2 3 3 3 4)), ?_⟩
   refine aV ?_
   refine gX fun K hK => ?_
   go_wp2_with (go_at_call 173; refine (Pz ((sn : Int), rs) _ _ ((V : Int), cs) _ _ (jW sn V) _ ar _ _ (Rd.mono HT.out jP.bel) (Rd.mono HX.out jP.bel) HD9.out (Rd.mono HAR.out jP.bel) HFU.out hz1).mono ?_; rintro e YZ ⟨u0, rfl, yQ, vZ⟩)
   have Vt : PU.heap.size ≤ YZ.heap.size := hZ vZ
   have jC := jP.step vZ
   have PG := qH (Rd.mono HD9.out vZ)
   clear HD9
   have Dn := qH (show ∀ l (b : List (Int × Int × Int)) n, ni ((sn : Int), rs) ((V : Int), cs) (1, l, ar, b, n) = (decide ((eX ((sn : Int), rs) ((V : Int), cs) (jW sn V) ar).2.2 = 0) && y5 (eX ((sn : Int), rs) ((V : Int), cs) (jW sn V) ar).1) from fun l b n => by rw [SE]; simp only [Int.toNat_natCast])
   generalize eX ((sn : Int), rs) ((V : Int), cs) (jW sn V) ar = RF at *
   obtain ⟨VL, ri9, rc9⟩ := RF
   obtain ⟨a9, c9, rfl, _⟩ := ah yQ.rd
   have BZ := qH yQ.rd
   clear yQ
   simp only at BZ Dn
   refine ⟨(jC.d6 0 0 0 1 1 0 1 1 2 0 2 1 (jC.c8 2 2 2 3 2 4 3 0 3 1 3 2 3 3 3 4)), ?_⟩
   refine aV ?_
   obtain ⟨aF, aH, aJ, aK, aW, aY, bn, kF⟩ := jC.c8 0 0 0 1 1 0 1 1 2 0 2 1 2 2 2 3
   obtain ⟨kG, dM, fF, gY, og, oh⟩ := jC.c6 2 4 3 0 3 1 3 2 3 3 3 4
   refine iF ?_
   by_cases hc0 : rc9 = 0
   rotate_left
   · have hcb : (rc9 == 0) = false := by rw [beq_eq_false_iff_ne]; exact hc0
     have H9 := qH (show gZ ((sn : Int), rs) ((V : Int), cs) (1, vs, ar, pr, nu) = false from pY (by rw [Dn.out, decide_eq_false hc0]; rfl))
     clear hc0
     go_wp2_with fail
     go_ret
     exact ⟨ak H9.out.symm, jC.bel⟩
   subst hc0
   have egE : ∀ args w, (callFunc 175 args).run prog w = .ok (.enter 175 args) w := enters_of func175 (by kernel_rfl) rfl
   go_wp2_with fail
   refine (jR VL _ 175 _ _ _ BZ.out egE (Vw _ _)).mono ?_
   rintro e w22 ⟨rfl, Ah⟩
   have aco : YZ.heap.size ≤ w22.heap.size := hZ Ah
   have nR := jC.step Ah
   have ajD := qH (Rd.mono PG.out Ah)
   clear PG
   have ajE := qH (Rd.mono BZ.out Ah)
   clear BZ
   clear aF aH aJ aK aW aY bn kF kG dM fF gY og oh
   obtain ⟨aF, aH, aJ, aK, aW, aY, bn, kF⟩ := nR.c8 0 0 0 1 1 0 1 1 2 0 2 1 2 2 2 3
   obtain ⟨kG, dM, fF, gY, og, oh⟩ := nR.c6 2 4 3 0 3 1 3 2 3 3 3 4
   cases hg : VL.any (fun d => decide (d.length = 0))
   · have H9 := qH (show gZ ((sn : Int), rs) ((V : Int), cs) (1, vs, ar, pr, nu) = false from pY (by rw [Dn.out, show y5 VL = false from hg]; rfl))
     clear hg
     go_wp2_with fail
     go_ret
     exact ⟨ak H9.out.symm, nR.bel⟩
   have HG := qH hg
   clear hg
   have H9 := qH (show gZ ((sn : Int), rs) ((V : Int), cs) (1, vs, ar, pr, nu) = fP (1, vs, ar, pr, nu) from AQ (by rw [Dn.out, show y5 VL = true from HG.out]; rfl))
   have QG := qH (show Nu (1, vs, ar, pr, nu) (1, [], ar, [], []) = fP (1, vs, ar, pr, nu) from rfl)
   have HRO := qH (show Rd w22 [.int .i64 1, .slice none 0 0, .slice a2 ar.length c2, .slice none 0 0, .slice none 0 0] ((1, [], ar, [], []) : oW) from ⟨[_], _, rfl, ⟨rfl, ⟨by dsimp only; decide, by dsimp only; decide⟩⟩, [_], _, rfl, sJ, [_], _, rfl, (Rd.mono HAR.out nR.bel), [_], _, rfl, sJ, sJ⟩)
   go_wp2_with fail
   refine (rE (1, vs, ar, pr, nu) _ _ _ _ _ (1, [], ar, [], []) _ _ _ _ _ _ (Rd.mono Xy.out nR.bel) HRO.out).mono ?_
   rintro e w26 ⟨rfl, Bv⟩
   have acd : w22.heap.size ≤ w26.heap.size := hZ Bv
   have lZ := nR.step Bv
   clear ajD
   clear ajE
   clear HRO
   clear aF aH aJ aK aW aY bn kF kG dM fF gY og oh
   obtain ⟨aF, aH, aJ, aK, aW, aY, bn, kF⟩ := lZ.c8 0 0 0 1 1 0 1 1 2 0 2 1 2 2 2 3
   obtain ⟨kG, dM, fF, gY, og, oh⟩ := lZ.c6 2 4 3 0 3 1 3 2 3 3 3 4
   rw [QG.out]
   go_wp2_with fail
   go_ret
   exact ⟨ak H9.out.symm, lZ.bel⟩
 have hb1 : (k == 1) = false := by rw [beq_eq_false_iff_ne]; exact hk1
 by_cases hk2 : k = 2
 · subst hk2
   have ajx := hs5.aC 3 rfl 0
   have ajy := hs5.aC 3 rfl 1
   have ajz := hs5.aC 3 rfl 2
   have ajA := hs5.aC 3 rfl 3
   have ajB := hs5.aC 3 rfl 4
   go_wp2_with fail
   have kM := hs5.set (p := [_, _, _]) (by simp <;> omega) 3 (.slice a3 pr.length c3)
   clear aF aH aJ aK aW aY bn kF kG dM fF gY og oh
   have Q5 : wO.heap.size ≤ ((wO.setCell ⟨w.heap.size + 1 + 1 + 1, 3, none⟩ (.slice a3 pr.length c3))).heap.size := by simp [World.setCell]
   generalize (wO.setCell ⟨w.heap.size + 1 + 1 + 1, 3, none⟩ (.slice a3 pr.length c3)) = wP at *
   obtain ⟨aF, aH, aJ, aK, aW, aY, bn, kF⟩ := kM.c8 0 0 0 1 1 0 1 1 2 0 2 1 2 2 2 3
   obtain ⟨kG, dM, fF, gY, og, oh⟩ := kM.c6 2 4 3 0 3 1 3 2 3 3 3 4
   go_wp2_with fail
   refine (KN ((sn : Int), rs) _ _ ((V : Int), cs) _ _ pr _ _ (Rd.mono HT.out kM.bel) (Rd.mono HX.out kM.bel) (Rd.mono KD.out kM.bel) hz2).mono ?_
   rintro e w32 ⟨u0, rfl, yQ, agr⟩
   have atA : wP.heap.size ≤ w32.heap.size := hZ agr
   have vF := kM.step agr
   clear aF aH aJ aK aW aY bn kF kG dM fF gY og oh
   obtain ⟨aF, aH, aJ, aK, aW, aY, bn, kF⟩ := vF.c8 0 0 0 1 1 0 1 1 2 0 2 1 2 2 2 3
   obtain ⟨kG, dM, fF, gY, og, oh⟩ := vF.c6 2 4 3 0 3 1 3 2 3 3 3 4
   have Dn := qH (show ∀ l (a : List (Int × Int × Int)) n, ni ((sn : Int), rs) ((V : Int), cs) (2, l, a, pr, n) = (decide ((dJ ((sn : Int), rs) ((V : Int), cs) pr).2.2 = 0) && y7 (dJ ((sn : Int), rs) ((V : Int), cs) pr).1) from fun l a n => SG _ _ _ _ _ _)
   generalize dJ ((sn : Int), rs) ((V : Int), cs) pr = RF at *
   obtain ⟨VL, ri9, rc9⟩ := RF
   obtain ⟨a9, c9, rfl, _⟩ := ah yQ.rd
   have BZ := qH yQ.rd
   clear yQ
   simp only at BZ Dn
   by_cases hc0 : rc9 = 0
   rotate_left
   · have hcb : (rc9 == 0) = false := by rw [beq_eq_false_iff_ne]; exact hc0
     have H9 := qH (show gZ ((sn : Int), rs) ((V : Int), cs) (2, vs, ar, pr, nu) = false from pY (by rw [Dn.out, decide_eq_false hc0]; rfl))
     clear hc0
     go_wp2_with fail
     go_ret
     exact ⟨ak H9.out.symm, vF.bel⟩
   subst hc0
   have egE : ∀ args w, (callFunc 64 args).run prog w = .ok (.enter 64 args) w := enters_of func64 (by kernel_rfl) rfl
   go_wp2_with fail
   refine (zW VL _ 64 _ _ _ BZ.out egE (VK _ _)).mono ?_
   rintro e w34 ⟨rfl, JQ⟩
   have ajF : w32.heap.size ≤ w34.heap.size := hZ JQ
   have iY := vF.step JQ
   have ajG := qH (Rd.mono BZ.out JQ)
   clear BZ
   clear aF aH aJ aK aW aY bn kF kG dM fF gY og oh
   obtain ⟨aF, aH, aJ, aK, aW, aY, bn, kF⟩ := iY.c8 0 0 0 1 1 0 1 1 2 0 2 1 2 2 2 3
   obtain ⟨kG, dM, fF, gY, og, oh⟩ := iY.c6 2 4 3 0 3 1 3 2 3 3 3 4
   cases hg : VL.any (fun r => decide (r.2.length = 0))
   · have H9 := qH (show gZ ((sn : Int), rs) ((V : Int), cs) (2, vs, ar, pr, nu) = false from pY (by rw [Dn.out, show y7 VL = false from hg]; rfl))
     clear hg
     go_wp2_with fail
     go_ret
     exact ⟨ak H9.out.symm, iY.bel⟩
   have HG := qH hg
   clear hg
   have H9 := qH (show gZ ((sn : Int), rs) ((V : Int), cs) (2, vs, ar, pr, nu) = fP (2, vs, ar, pr, nu) from AQ (by rw [Dn.out, show y7 VL = true from HG.out]; rfl))
   have QG := qH (show Nu (2, vs, ar, pr, nu) (2, [], [], pr, []) = fP (2, vs, ar, pr, nu) from rfl)
   have HRO := qH (show Rd w34 [.int .i64 2, .slice none 0 0, .slice none 0 0, .slice a3 pr.length c3, .slice none 0 0] ((2, [], [], pr, []) : oW) from ⟨[_], _, rfl, ⟨rfl, ⟨by dsimp only; decide, by dsimp only; decide⟩⟩, [_], _, rfl, sJ, [_], _, rfl, sJ, [_], _, rfl, (Rd.mono KD.out iY.bel), sJ⟩)
   go_wp2_with fail
   refine (rE (2, vs, ar, pr, nu) _ _ _ _ _ (2, [], [], pr, []) _ _ _ _ _ _ (Rd.mono Xy.out iY.bel) HRO.out).mono ?_
   rintro e w37 ⟨rfl, ags⟩
   have atB : w34.heap.size ≤ w37.heap.size := hZ ags
   have l7 := iY.step ags
   clear ajG
   clear HRO
   clear aF aH aJ aK aW aY bn kF kG dM fF gY og oh
   obtain ⟨aF, aH, aJ, aK, aW, aY, bn, kF⟩ := l7.c8 0 0 0 1 1 0 1 1 2 0 2 1 2 2 2 3
   obtain ⟨kG, dM, fF, gY, og, oh⟩ := l7.c6 2 4 3 0 3 1 3 2 3 3 3 4
   rw [QG.out]
   go_wp2_with fail
   go_ret
   exact ⟨ak H9.out.symm, l7.bel⟩
 have hb2 : (k == 2) = false := by rw [beq_eq_false_iff_ne]; exact hk2
 by_cases hk3 : k = 3
 rotate_left
 · have hb3 : (k == 3) = false := by rw [beq_eq_false_iff_ne]; exact hk3
   have H9 := qH (show gZ ((sn : Int), rs) ((V : Int), cs) (k, vs, ar, pr, nu) = false from pY (SI hk0 hk1 hk2 hk3 _ _ _ _ _ _))
   clear hk0 hk1 hk2 hk3
   go_wp2_with fail
   go_ret
   exact ⟨ak H9.out.symm, hs5.bel⟩
 subst hk3
 have ajx := hs5.aC 3 rfl 0
 have ajy := hs5.aC 3 rfl 1
 have ajz := hs5.aC 3 rfl 2
 have ajA := hs5.aC 3 rfl 3
 have ajB := hs5.aC 3 rfl 4
 go_wp2_with fail
 have mY := hs5.set (p := [_, _, _]) (by simp <;> omega) 4 (.slice a4 nu.length c4)
 clear aF aH aJ aK aW aY bn kF kG dM fF gY og oh
 have Q5 : wO.heap.size ≤ ((wO.setCell ⟨w.heap.size + 1 + 1 + 1, 4, none⟩ (.slice a4 nu.length c4))).heap.size := by simp [World.setCell]
 generalize (wO.setCell ⟨w.heap.size + 1 + 1 + 1, 4, none⟩ (.slice a4 nu.length c4)) = wP at *
 obtain ⟨aF, aH, aJ, aK, aW, aY, bn, kF⟩ := mY.c8 0 0 0 1 1 0 1 1 2 0 2 1 2 2 2 3
 obtain ⟨kG, dM, fF, gY, og, oh⟩ := mY.c6 2 4 3 0 3 1 3 2 3 3 3 4
 go_wp2_with fail
 refine (UN ((sn : Int), rs) ((V : Int), cs) _ _ _ _ _ (Rd.mono HT.out mY.bel) (Rd.mono HX.out mY.bel) vW.out).mono ?_
 rintro e w42 ⟨u0, u1, u2, rfl, yQ, Ro⟩
 have aiT : wP.heap.size ≤ w42.heap.size := hZ Ro
 have pV := mY.step Ro
 clear aF aH aJ aK aW aY bn kF kG dM fF gY og oh
 have Dn := qH (show ∀ l (a b : List (Int × Int × Int)), ni ((sn : Int), rs) ((V : Int), cs) (3, l, a, b, nu) = (decide ((pq ((sn : Int), rs) ((V : Int), cs)).2 = 0) && (kS (pq ((sn : Int), rs) ((V : Int), cs)).1 nu).1) from fun l a b => SH _ _ _ _ _ _)
 have z9 := yQ.rd
 generalize pq ((sn : Int), rs) ((V : Int), cs) = SF at *
 obtain ⟨⟨p9, n9, l9⟩, cd9⟩ := SF
 have z8 := au rfl z9
 obtain ⟨rfl, _⟩ := aG z8.1
 have z7 := au rfl z8.2
 obtain ⟨rfl, _⟩ := aG z7.1
 obtain ⟨a9, c9, rfl, _⟩ := ah z7.2
 have xw := qH z9
 clear z9 z8 z7 yQ
 simp only at Dn xw
 have p4 := (pV.c 2 4)
 have wQ := pV.alloc #[.int .i64 p9, .int .i64 n9, .slice a9 l9.length c9] 61 (n := w42.heap.size) (by simp)
 have VN := qH (Rd.mono xw.out (aB _ (.cells #[.int .i64 p9, .int .i64 n9, .slice a9 l9.length c9] 61)))
 clear xw
 obtain ⟨aF, aH, aJ, aK, aW, aY, bn, kF⟩ := wQ.c8 0 0 0 1 1 0 1 1 2 0 2 1 2 2 2 3
 obtain ⟨kG, dM, fF, gY, og, oh, nP, qQ⟩ := wQ.c8 2 4 3 0 3 1 3 2 3 3 3 4 4 0 4 1
 have ae6 := wQ.c 4 2
 go_wp2_with fail
 refine (Iw (p9, n9, l9) _ _ _ nu _ _ VN.out (Rd.mono HNU.out wQ.bel)).mono ?_
 rintro e w46 ⟨rfl, DI⟩
 have abw : w42.heap.size + 1 ≤ w46.heap.size := hZ DI
 have rZ := wQ.step DI
 have ajH := qH (Rd.mono VN.out DI)
 clear VN
 clear aF aH aJ aK aW aY bn kF kG dM fF gY og oh nP qQ ae6
 obtain ⟨aF, aH, aJ, aK, aW, aY, bn, kF⟩ := rZ.c8 0 0 0 1 1 0 1 1 2 0 2 1 2 2 2 3
 obtain ⟨kG, dM, fF, gY, og, oh, nP, qQ⟩ := rZ.c8 2 4 3 0 3 1 3 2 3 3 3 4 4 0 4 1
 have ae6 := rZ.c 4 2
 generalize kS (p9, n9, l9) nu = IR at *
 obtain ⟨ib, ic⟩ := IR
 simp only at Dn
 by_cases hc0 : cd9 = 0
 rotate_left
 · have hcb : (cd9 == 0) = false := by rw [beq_eq_false_iff_ne]; exact hc0
   have H9 := qH (show gZ ((sn : Int), rs) ((V : Int), cs) (3, vs, ar, pr, nu) = false from pY (by rw [Dn.out, decide_eq_false hc0]; rfl))
   clear hc0
   go_wp2_with fail
   go_ret
   exact ⟨ak H9.out.symm, rZ.bel⟩
 subst hc0
 cases ib
 · have H9 := qH (show gZ ((sn : Int), rs) ((V : Int), cs) (3, vs, ar, pr, nu) = false from pY (by rw [Dn.out]; rfl))
   go_wp2_with fail
   go_ret
   exact ⟨ak H9.out.symm, rZ.bel⟩
 have H9 := qH (show gZ ((sn : Int), rs) ((V : Int), cs) (3, vs, ar, pr, nu) = fP (3, vs, ar, pr, nu) from AQ (by rw [Dn.out]; rfl))
 have QG := qH (show Nu (3, vs, ar, pr, nu) (3, [], [], [], nu) = fP (3, vs, ar, pr, nu) from rfl)
 have HRO := qH (show Rd w46 [.int .i64 3, .slice none 0 0, .slice none 0 0, .slice none 0 0, .slice a4 nu.length c4] ((3, [], [], [], nu) : oW) from ⟨[_], _, rfl, ⟨rfl, ⟨by dsimp only; decide, by dsimp only; decide⟩⟩, [_], _, rfl, sJ, [_], _, rfl, sJ, [_], _, rfl, sJ, (Rd.mono HNU.out rZ.bel)⟩)
 go_wp2_with fail
 refine (rE (3, vs, ar, pr, nu) _ _ _ _ _ (3, [], [], [], nu) _ _ _ _ _ _ (Rd.mono Xy.out rZ.bel) HRO.out).mono ?_
 rintro e w49 ⟨rfl, RU⟩
 have aje : w46.heap.size ≤ w49.heap.size := hZ RU
 have Ci := rZ.step RU
 clear ajH
 clear HRO
 clear aF aH aJ aK aW aY bn kF kG dM fF gY og oh nP qQ ae6
 obtain ⟨aF, aH, aJ, aK, aW, aY, bn, kF⟩ := Ci.c8 0 0 0 1 1 0 1 1 2 0 2 1 2 2 2 3
 obtain ⟨kG, dM, fF, gY, og, oh, nP, qQ⟩ := Ci.c8 2 4 3 0 3 1 3 2 3 3 3 4 4 0 4 1
 have ae6 := Ci.c 4 2
 rw [QG.out]
 go_wp2_with fail
 go_ret
 exact ⟨ak H9.out.symm, Ci.bel⟩
theorem SN (t : dB) (t0 t1 : Value) (x : Inst) (x0 x1 : Value) (v : oW) (v0 v1 v2 v3 v4 : Value) (w : World) (ht : Rd w [t0, t1] t) (hx : Rd w [x0, x1] x) (hv : Rd w [v0, v1, v2, v3, v4] v) (hz1 : v.2.2.1.length ≤ 1048576) (hz2 : v.2.2.2.1.length ≤ 1048576) :
 Calls prog 35 #[.agg #[t0, t1], .agg #[x0, x1], .agg #[v0, v1, v2, v3, v4]] w fun e w' => e = .returned (.tuple #[.bool (kJ t x v).1, .int .i64 (kJ t x v).2]) ∧ Below w.heap.size w w' := by
 have HY := qH (fun h : cu t x = true => show kJ t x v = (gZ t x v, 0) by unfold kJ; rw [if_pos h])
 have HN := qH (fun h : cu t x = false => show kJ t x v = (false, 1) by unfold kJ; rw [h]; rfl)
 obtain ⟨size, rs⟩ := t
 obtain ⟨vars, cs⟩ := x
 have HT := qH ht
 have HX := qH hx
 have Xy := qH hv
 have zt := au rfl ht
 obtain ⟨rfl, _⟩ := aG zt.1
 obtain ⟨at0, ct0, rfl, _⟩ := ah zt.2
 have zx := au rfl hx
 obtain ⟨rfl, _⟩ := aG zx.1
 obtain ⟨ax, cx, rfl, _⟩ := ah zx.2
 clear ht hx hv zt zx
 have zl := (St.start w).alloc #[.int .i64 size, .slice at0 rs.length ct0] 42 (n := w.heap.size) (by simp)
 have abf := zl.alloc #[.int .i64 vars, .slice ax cs.length cx] 46 (n := w.heap.size + 1) (by simp)
 have Cj := abf.alloc #[v0, v1, v2, v3, v4] 37 (n := w.heap.size + 1 + 1) (by simp)
 obtain ⟨aF, aH, aJ, aK, aW, aY, bn, kF⟩ := Cj.c8 0 0 0 1 1 0 1 1 2 0 2 1 2 2 2 3
 have kG := Cj.c 2 4
 go_enter func35, ntmps35
 go_wp2_with fail
 refine (sH (size, rs) (vars, cs) _ _ _ _ _ (Rd.mono HT.out Cj.bel) (Rd.mono HX.out Cj.bel)).mono ?_
 rintro e w56 ⟨rfl, Rh⟩
 have aiM : w.heap.size + 1 + 1 + 1 ≤ w56.heap.size := hZ Rh
 have O5 := Cj.step Rh
 clear aF aH aJ aK aW aY bn kF kG
 obtain ⟨aF, aH, aJ, aK, aW, aY, bn, kF⟩ := O5.c8 0 0 0 1 1 0 1 1 2 0 2 1 2 2 2 3
 have kG := O5.c 2 4
 cases hok : cu (size, rs) (vars, cs)
 · have H1 := qH (HN.out hok)
   clear hok
   go_wp2_with fail
   refine bodyPost_ret (v := .tuple #[.bool false, .int .i64 1]) (by simp [results, results35, go_sem]) rfl ⟨by rw [H1.out], O5.bel⟩
 have HK := qH hok
 have H1 := qH (HY.out hok)
 clear hok
 go_wp2_with fail
 refine (SL (size, rs) (vars, cs) v _ _ _ _ _ _ _ _ _ _ (Rd.mono HT.out O5.bel) (Rd.mono HX.out O5.bel) (Rd.mono Xy.out O5.bel) HK.out hz1 hz2).mono ?_
 rintro e w58 ⟨rfl, Rk⟩
 have aiN : w56.heap.size ≤ w58.heap.size := hZ Rk
 have Rl := O5.step Rk
 clear aF aH aJ aK aW aY bn kF kG
 obtain ⟨aF, aH, aJ, aK, aW, aY, bn, kF⟩ := Rl.c8 0 0 0 1 1 0 1 1 2 0 2 1 2 2 2 3
 have kG := Rl.c 2 4
 go_wp2_with fail
 refine bodyPost_ret (v := .tuple #[.bool (gZ (size, rs) (vars, cs) v), .int .i64 0]) (by simp [results, results35, go_sem]) rfl ⟨by rw [H1.out], Rl.bel⟩
end Go.Proofs.YtoblfnoaepbhfaaGreat
