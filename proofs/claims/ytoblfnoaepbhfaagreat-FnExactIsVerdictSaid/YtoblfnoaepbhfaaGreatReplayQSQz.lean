import Derived.Test.YtoblfnoaepbhfaaGreatReplayQQz
import Derived.Test.YtoblfnoaepbhfaaGreatThroughQz
import Derived.Test.YtoblfnoaepbhfaaGreatFirstSQz
set_option linter.unusedSimpArgs false
set_option linter.unusedVariables false
set_option maxHeartbeats 16000000
set_option maxRecDepth 100000
namespace Go.Proofs.YtoblfnoaepbhfaaGreat
open Go.Proofs.Tryz
open Go.RowKit Go.Shelf Go.IntWalk
open Rep (Rd Own sz)
theorem ny {α : Type} [Rep α] {H : Nat} {w : World} {a : Option Addr} {c : Nat} (hc : c ≤ maxLen) : aQ H w [.slice a 0 c] ([] : List α) := by
 exact ⟨[], ⟨_, rfl, .inl ⟨rfl, rfl, a, c, rfl, hc⟩⟩, by simp, by simp⟩
theorem JV (t : dB) (t0 t1 : Value) (x : Inst) (x0 x1 : Value) (steps : List (Int × Int × Int)) (vs : Value) (w : World) (ht : Rd w [t0, t1] t) (hx : Rd w [x0, x1] x) (hs : Rd w [vs] steps) (hzs : steps.length ≤ 1048576) :
 Calls prog 168 #[.agg #[t0, t1], .agg #[x0, x1], vs] w fun e w' => ∃ u0, e = .returned (.tuple #[u0, .int .i64 (dJ t x steps).2.1, .int .i64 (dJ t x steps).2.2]) ∧ aQ w.heap.size w' [u0] (dJ t x steps).1 ∧ Below w.heap.size w w' := by
 obtain ⟨size, rs⟩ := t
 obtain ⟨vars, cs⟩ := x
 have HT := qH ht
 have HX := qH hx
 have zt := au rfl ht
 obtain ⟨rfl, _⟩ := aG zt.1
 obtain ⟨at0, ct0, rfl, _⟩ := ah zt.2
 have zx := au rfl hx
 obtain ⟨rfl, _⟩ := aG zx.1
 obtain ⟨ax, cx, rfl, _⟩ := ah zx.2
 obtain ⟨ast, cst, rfl, hsr⟩ := ah hs
 have HSR := qH hsr
 clear ht hx zt zx hs hsr
 have hs1 := (St.start w).alloc #[.int .i64 size, .slice at0 rs.length ct0] 42 (n := w.heap.size) (by simp)
 have hs2 := hs1.alloc #[.int .i64 vars, .slice ax cs.length cx] 46 (n := w.heap.size + 1) (by simp)
 obtain ⟨aF, aH, aJ, aK⟩ := hs2.c4 0 0 0 1 1 0 1 1
 go_enter func168, ntmps168
 go_wp2_with fail
 refine (G5 (size, rs) (vars, cs) _ _ _ _ _ _ _ (Rd.mono HT.out hs2.bel) (Rd.mono HX.out hs2.bel) (hs2.c 0 0) (hs2.c 0 1) (hs2.c 1 0) (hs2.c 1 1)).mono ?_
 rintro e w3 ⟨rfl, hbw3⟩
 have am3 : w.heap.size + 1 + 1 ≤ w3.heap.size := hZ hbw3
 have hs4 := hs2.step hbw3
 clear aF aH aJ aK
 obtain ⟨aF, aH, aJ, aK⟩ := hs4.c4 0 0 0 1 1 0 1 1
 cases h1 : cu (size, rs) (vars, cs)
 · have H1 := qH (show dJ (size, rs) (vars, cs) steps = ([], 0, 1) by unfold dJ; rw [h1]; rfl)
   have Yw := qH (hs4.bel.trans ((aB w3 (.cells #[] 118)).mono hs4.bel.size))
   clear h1
   go_wp2_with fail
   refine bodyPost_ret (v := .tuple #[.slice (some ⟨w3.heap.size, 0, none⟩) 0 0, .int .i64 0, .int .i64 1]) (by simp [results, results168, go_sem]) rfl ⟨_, by rw [H1.out], by rw [H1.out]; exact ny (Nat.zero_le _), Yw.out⟩
 have hv1 := (aX h1).2.1
 have hsz := (dV (aX h1).1).1
 simp only at hv1 hsz
 obtain ⟨V, rfl⟩ : ∃ V : Nat, vars = (V : Int) := ⟨vars.toNat, by omega⟩
 have H1 := qH (show dJ (size, rs) ((V : Int), cs) steps = kX size V steps 0 (ng (size, rs) ((V : Int), cs) V) by unfold dJ; rw [h1]; rfl)
 have Ja := qH (ab1 (t := (size, rs)) (x := ((V : Int), cs)) V)
 have vW := qH h1
 clear h1
 go_wp2_with fail
 refine (VT (size, rs) ((V : Int), cs) V _ _ _ _ _ _ _ (Rd.mono HT.out hs4.bel) (Rd.mono HX.out hs4.bel) vW.out rfl (hs4.c 0 0) (hs4.c 0 1) (hs4.c 1 0) (hs4.c 1 1)).mono ?_
 rintro e w5 ⟨vp, rfl, fr, AZ⟩
 have Fz : w3.heap.size ≤ w5.heap.size := hZ AZ
 have hs6 := hs4.step AZ
 clear aF aH aJ aK
 obtain ⟨aF, aH, aJ, aK⟩ := hs6.c4 0 0 0 1 1 0 1 1
 have HW := qH (show QW w vp [(w.heap.size, #[.int .i64 size, .slice at0 rs.length ct0], 42), (w.heap.size + 1, #[.int .i64 V, .slice ax cs.length cx], 46)] w5 (ng (size, rs) ((V : Int), cs) V) from
  ⟨hs6.up hs6.hi (Nat.le_refl _), fr.ip.wk (fun z hz => by
   have h8 := hz.1
   have h9 := hs6.hi
   have h7 := Fz
   (try simp at h8)
   refine ⟨by omega, fun x hx => ?_⟩
   simp at hx
   rcases hx with rfl | rfl <;> (simp only; omega))⟩)
 clear fr
 generalize ng (size, rs) ((V : Int), cs) V = P0 at *
 go_wp2_with fail
 go_loopw [10] (fun i wl => ∃ (k : Nat) (P : List bH), k ≤ steps.length ∧ i = .int .i64 k ∧ Hid (QW w vp [(w.heap.size, #[.int .i64 size, .slice at0 rs.length ct0], 42), (w.heap.size + 1, #[.int .i64 V, .slice ax cs.length cx], 46)] wl P) ∧ Hid (nU size V P) ∧ Hid (kX size V steps 0 P0 = kX size V (steps.drop k) k P)) (fun i _ => steps.length - (intOf i).toNat)
 case atStart => exact ⟨0, P0, Nat.zero_le _, rfl, HW.out, Ja.out, rfl⟩
 clear HW Ja
 obtain ⟨k, P, hk, rfl, hw, hpk, hrun⟩ := hrel
 have hs1 := hw.out.st
 have PZ := qH (Below.refl wr.heap.size wr)
 have ew : IntKind.i64.wrap ((V : Int) - 1) = (V : Int) - 1 := i64_in _ (by omega)
 obtain ⟨aF, aH, aJ, aK⟩ := hs1.c4 0 0 0 1 1 0 1 1
 by_cases hlt : k < steps.length
 rotate_left
 · obtain rfl : k = steps.length := by omega
   have hnl : ¬ ((steps.length : Int) < steps.length) := by omega
   have H2 := qH (show dJ (size, rs) ((V : Int), cs) steps = (P, 0, 0) by rw [H1.out, hrun.out, List.drop_length]; rfl)
   have D8 := qH (show aQ w.heap.size wr [vp] P from hw.out.dom.fresh (fun z hz => hz.1))
   have lu := qH hw.out.st.bel
   go_wp2_with fail
   refine bodyPost_ret (v := .tuple #[vp, .int .i64 0, .int .i64 0]) (by simp [results, results168, go_sem]) rfl ⟨_, by rw [H2.out], by rw [H2.out]; exact D8.out, lu.out⟩
 have hkl : (k : Int) < steps.length := by omega
 obtain ⟨b, o, u0, u1, u2, rfl, p0, p1, p2, hy⟩ := gU rfl HSR.out k hlt
 have HDR := qH (DL (size := size) (V := V) hlt k P)
 have hy0 := au rfl hy
 have hy1 := au rfl hy0.2
 obtain ⟨rfl, _⟩ := aG hy0.1
 obtain ⟨rfl, _⟩ := aG hy1.1
 obtain ⟨rfl, _⟩ := aG hy1.2
 clear hy hy0 hy1
 generalize hss : steps[k] = SS at *
 obtain ⟨va, vb, vc⟩ := SS
 simp only at p0 p1 p2 HDR
 clear hss
 have HFL := qH (fun (h : rD size V P (va, vb, vc) = false) => show dJ (size, rs) ((V : Int), cs) steps = ([], (k : Int), 8) by rw [H1.out, hrun.out, HDR.out, h]; rfl)
 have RX := qH (fun (h : fZ V (va, vb, vc) = false) => show rD size V P (va, vb, vc) = false by unfold rD; rw [h]; rfl)
 generalize hwb : IntKind.i64.wrap (vb - 1) = WB at *
 have Xn := qH hwb
 clear aF aH aJ aK
 obtain ⟨aF, aH, aJ, aK⟩ := hs1.c4 0 0 0 1 1 0 1 1
 obtain ⟨pF, qx, FP⟩ := fQ hs1.bel p0 p1 p2
 cases h1 : inB va 0 WB
 · have H2 := qH (HFL.out (RX.out (DR (by rw [Xn.out]; exact h1))))
   have HE := qH h1
   clear h1
   go_upto_region 8 with fail
   refine iT (fun w' => cI w' w.heap.size 0 size ∧ cV w' w.heap.size 1 (.slice at0 rs.length ct0) ∧ cI w' (w.heap.size + 1) 0 V ∧ cV w' (w.heap.size + 1) 1 (.slice ax cs.length cx) ∧ cI w' b (o + k * 3) va ∧ cI w' b (o + k * 3 + 1) vb ∧ cI w' b (o + k * 3 + 2) vc) (.z [0,1,2,3,4,5,6,7,8] (.hard 9 (.z [10,11,12,13,14,15,16,17] (.hard 18 (.z [19,20,21,22,23,24,25,26,27] (.hard 28 (.z [29,30,31,32,33,34,35,36,37,38,39,40,41,42,43,44,45,46,47,48,49,50,51,52] .nil))))))) ?_ ?_
   · exact (hs1.drew).d4 0 0 0 1 1 0 1 1 (fQ (hs1.drew).bel p0 p1 p2:)
   have hs7 := hs1.drew
   have anE := qH (PZ.out.trans (((belowD _)).mono PZ.out.size))
   clear PZ
   clear aF aH aJ aK pF qx FP
   have ajN : wr.heap.size ≤ (wr.drew).heap.size := by simp
   generalize wr.drew = wd9 at *
   refine aV ?_
   refine gX fun K hK => ?_
   go_wp2_with (go_at_call 137; refine (dw va 0 WB _).mono ?_; rintro e w10 ⟨rfl, rfl, rfl⟩)
   rw [HE.out]
   refine ⟨(hs7.d4 0 0 0 1 1 0 1 1 (fQ hs7.bel p0 p1 p2:)), ?_⟩
   refine aV ?_
   refine eG rfl (by rfl) ?_ ?_
   · exact hs7.d4 0 0 0 1 1 0 1 1 (fQ hs7.bel p0 p1 p2:)
   (try simp only [Act.put, sI, sZ, sS])
   refine aV ?_
   refine eG rfl (by rfl) ?_ ?_
   · exact hs7.d4 0 0 0 1 1 0 1 1 (fQ hs7.bel p0 p1 p2:)
   (try simp only [Act.put, sI, sZ, sS])
   refine aV ?_
   obtain ⟨aF, aH, aJ, aK⟩ := hs7.c4 0 0 0 1 1 0 1 1
   obtain ⟨pF, qx, FP⟩ := fQ hs7.bel p0 p1 p2
   refine iF ?_
   go_upto_region 9 with fail
   refine iT (fun w' => cI w' w.heap.size 0 size ∧ cV w' w.heap.size 1 (.slice at0 rs.length ct0) ∧ cI w' (w.heap.size + 1) 0 V ∧ cV w' (w.heap.size + 1) 1 (.slice ax cs.length cx) ∧ cI w' b (o + k * 3) va ∧ cI w' b (o + k * 3 + 1) vb ∧ cI w' b (o + k * 3 + 2) vc) (.z [0,1,2,3,4,5,6,7,8,9,10,11,12,13,14,15,16,17] (.hard 18 (.z [19,20] .nil))) ?_ ?_
   · exact (hs7.drew).d4 0 0 0 1 1 0 1 1 (fQ (hs7.drew).bel p0 p1 p2:)
   have hs11 := hs7.drew
   clear anE
   clear aF aH aJ aK pF qx FP
   have aeG : wd9.heap.size ≤ (wd9.drew).heap.size := by simp
   generalize wd9.drew = aiR at *
   refine aV ?_
   refine eG rfl (by rfl) ?_ ?_
   · exact hs11.d4 0 0 0 1 1 0 1 1 (fQ hs11.bel p0 p1 p2:)
   (try simp only [Act.put, sI, sZ, sS])
   refine aV ?_
   obtain ⟨aF, aH, aJ, aK⟩ := hs11.c4 0 0 0 1 1 0 1 1
   obtain ⟨pF, qx, FP⟩ := fQ hs11.bel p0 p1 p2
   have lu := qH (hs11.bel.trans ((aB aiR (.cells #[] 118)).mono hs11.bel.size))
   refine iF ?_
   go_wp2_with fail
   refine bodyPost_ret (v := .tuple #[.slice (some ⟨aiR.heap.size, 0, none⟩) 0 0, .int .i64 k, .int .i64 8]) (by simp [results, results168, go_sem]) rfl ⟨_, by rw [H2.out], by rw [H2.out]; exact ny (Nat.zero_le _), lu.out⟩
 have HE := qH h1
 cases h2 : inB vb 0 ((V : Int) - 1)
 · have H2 := qH (HFL.out (RX.out (DT h2)))
   have HE2 := qH h2
   clear h1 h2
   go_upto_region 8 with fail
   refine iT (fun w' => cI w' w.heap.size 0 size ∧ cV w' w.heap.size 1 (.slice at0 rs.length ct0) ∧ cI w' (w.heap.size + 1) 0 V ∧ cV w' (w.heap.size + 1) 1 (.slice ax cs.length cx) ∧ cI w' b (o + k * 3) va ∧ cI w' b (o + k * 3 + 1) vb ∧ cI w' b (o + k * 3 + 2) vc) (.z [0,1,2,3,4,5,6,7,8] (.hard 9 (.z [10,11,12,13,14,15,16,17] (.hard 18 (.z [19,20,21,22,23,24,25,26,27] (.hard 28 (.z [29,30,31,32,33,34,35,36,37,38,39,40,41,42,43,44,45,46,47,48,49,50,51,52] .nil))))))) ?_ ?_
   · exact (hs1.drew).d4 0 0 0 1 1 0 1 1 (fQ (hs1.drew).bel p0 p1 p2:)
   have eU := hs1.drew
   have ajO := qH (PZ.out.trans (((belowD _)).mono PZ.out.size))
   clear PZ
   clear aF aH aJ aK pF qx FP
   have GI : wr.heap.size ≤ (wr.drew).heap.size := by simp
   generalize wr.drew = I9 at *
   refine aV ?_
   refine gX fun K hK => ?_
   go_wp2_with (go_at_call 137; refine (dw va 0 WB _).mono ?_; rintro e PU ⟨rfl, rfl, rfl⟩)
   rw [HE.out]
   refine ⟨(eU.d4 0 0 0 1 1 0 1 1 (fQ eU.bel p0 p1 p2:)), ?_⟩
   refine aV ?_
   refine gX fun K hK => ?_
   go_wp2_with (go_at_call 137; refine (dw vb 0 ((V : Int) - 1) _).mono ?_; rintro e Xk ⟨rfl, rfl, rfl⟩)
   rw [HE2.out]
   refine ⟨(eU.d4 0 0 0 1 1 0 1 1 (fQ eU.bel p0 p1 p2:)), ?_⟩
   refine aV ?_
   refine eG rfl (by rfl) ?_ ?_
   · exact eU.d4 0 0 0 1 1 0 1 1 (fQ eU.bel p0 p1 p2:)
   (try simp only [Act.put, sI, sZ, sS])
   refine aV ?_
   obtain ⟨aF, aH, aJ, aK⟩ := eU.c4 0 0 0 1 1 0 1 1
   obtain ⟨pF, qx, FP⟩ := fQ eU.bel p0 p1 p2
   refine iF ?_
   go_upto_region 9 with fail
   refine iT (fun w' => cI w' w.heap.size 0 size ∧ cV w' w.heap.size 1 (.slice at0 rs.length ct0) ∧ cI w' (w.heap.size + 1) 0 V ∧ cV w' (w.heap.size + 1) 1 (.slice ax cs.length cx) ∧ cI w' b (o + k * 3) va ∧ cI w' b (o + k * 3 + 1) vb ∧ cI w' b (o + k * 3 + 2) vc) (.z [0,1,2,3,4,5,6,7,8,9,10,11,12,13,14,15,16,17] (.hard 18 (.z [19,20] .nil))) ?_ ?_
   · exact (eU.drew).d4 0 0 0 1 1 0 1 1 (fQ (eU.drew).bel p0 p1 p2:)
   have kD := eU.drew
   clear ajO
   clear aF aH aJ aK pF qx FP
   have afa : I9.heap.size ≤ (I9.drew).heap.size := by simp
   generalize I9.drew = afb at *
   refine aV ?_
   refine eG rfl (by rfl) ?_ ?_
   · exact kD.d4 0 0 0 1 1 0 1 1 (fQ kD.bel p0 p1 p2:)
   (try simp only [Act.put, sI, sZ, sS])
   refine aV ?_
   obtain ⟨aF, aH, aJ, aK⟩ := kD.c4 0 0 0 1 1 0 1 1
   obtain ⟨pF, qx, FP⟩ := fQ kD.bel p0 p1 p2
   have lu := qH (kD.bel.trans ((aB afb (.cells #[] 118)).mono kD.bel.size))
   refine iF ?_
   go_wp2_with fail
   refine bodyPost_ret (v := .tuple #[.slice (some ⟨afb.heap.size, 0, none⟩) 0 0, .int .i64 k, .int .i64 8]) (by simp [results, results168, go_sem]) rfl ⟨_, by rw [H2.out], by rw [H2.out]; exact ny (Nat.zero_le _), lu.out⟩
 have HE2 := qH h2
 cases h3 : inB vc 0 ((V : Int) - 1)
 · have H2 := qH (HFL.out (RX.out (DU h3)))
   have YA := qH h3
   clear h1 h2 h3
   go_upto_region 8 with fail
   refine iT (fun w' => cI w' w.heap.size 0 size ∧ cV w' w.heap.size 1 (.slice at0 rs.length ct0) ∧ cI w' (w.heap.size + 1) 0 V ∧ cV w' (w.heap.size + 1) 1 (.slice ax cs.length cx) ∧ cI w' b (o + k * 3) va ∧ cI w' b (o + k * 3 + 1) vb ∧ cI w' b (o + k * 3 + 2) vc) (.z [0,1,2,3,4,5,6,7,8] (.hard 9 (.z [10,11,12,13,14,15,16,17] (.hard 18 (.z [19,20,21,22,23,24,25,26,27] (.hard 28 (.z [29,30,31,32,33,34,35,36,37,38,39,40,41,42,43,44,45,46,47,48,49,50,51,52] .nil))))))) ?_ ?_
   · exact (hs1.drew).d4 0 0 0 1 1 0 1 1 (fQ (hs1.drew).bel p0 p1 p2:)
   have je := hs1.drew
   have ajP := qH (PZ.out.trans (((belowD _)).mono PZ.out.size))
   clear PZ
   clear aF aH aJ aK pF qx FP
   have apg : wr.heap.size ≤ (wr.drew).heap.size := by simp
   generalize wr.drew = ajQ at *
   refine aV ?_
   refine gX fun K hK => ?_
   go_wp2_with (go_at_call 137; refine (dw va 0 WB _).mono ?_; rintro e w25 ⟨rfl, rfl, rfl⟩)
   rw [HE.out]
   refine ⟨(je.d4 0 0 0 1 1 0 1 1 (fQ je.bel p0 p1 p2:)), ?_⟩
   refine aV ?_
   refine gX fun K hK => ?_
   go_wp2_with (go_at_call 137; refine (dw vb 0 ((V : Int) - 1) _).mono ?_; rintro e w26 ⟨rfl, rfl, rfl⟩)
   rw [HE2.out]
   refine ⟨(je.d4 0 0 0 1 1 0 1 1 (fQ je.bel p0 p1 p2:)), ?_⟩
   refine aV ?_
   refine gX fun K hK => ?_
   go_wp2_with (go_at_call 137; refine (dw vc 0 ((V : Int) - 1) _).mono ?_; rintro e ML ⟨rfl, rfl, rfl⟩)
   rw [YA.out]
   refine ⟨(je.d4 0 0 0 1 1 0 1 1 (fQ je.bel p0 p1 p2:)), ?_⟩
   refine aV ?_
   obtain ⟨aF, aH, aJ, aK⟩ := je.c4 0 0 0 1 1 0 1 1
   obtain ⟨pF, qx, FP⟩ := fQ je.bel p0 p1 p2
   refine iF ?_
   go_upto_region 9 with fail
   refine iT (fun w' => cI w' w.heap.size 0 size ∧ cV w' w.heap.size 1 (.slice at0 rs.length ct0) ∧ cI w' (w.heap.size + 1) 0 V ∧ cV w' (w.heap.size + 1) 1 (.slice ax cs.length cx) ∧ cI w' b (o + k * 3) va ∧ cI w' b (o + k * 3 + 1) vb ∧ cI w' b (o + k * 3 + 2) vc) (.z [0,1,2,3,4,5,6,7,8,9,10,11,12,13,14,15,16,17] (.hard 18 (.z [19,20] .nil))) ?_ ?_
   · exact (je.drew).d4 0 0 0 1 1 0 1 1 (fQ (je.drew).bel p0 p1 p2:)
   have yN := je.drew
   clear ajP
   clear aF aH aJ aK pF qx FP
   have aeX : ajQ.heap.size ≤ (ajQ.drew).heap.size := by simp
   generalize ajQ.drew = ajc at *
   refine aV ?_
   refine eG rfl (by rfl) ?_ ?_
   · exact yN.d4 0 0 0 1 1 0 1 1 (fQ yN.bel p0 p1 p2:)
   (try simp only [Act.put, sI, sZ, sS])
   refine aV ?_
   obtain ⟨aF, aH, aJ, aK⟩ := yN.c4 0 0 0 1 1 0 1 1
   obtain ⟨pF, qx, FP⟩ := fQ yN.bel p0 p1 p2
   have lu := qH (yN.bel.trans ((aB ajc (.cells #[] 118)).mono yN.bel.size))
   refine iF ?_
   go_wp2_with fail
   refine bodyPost_ret (v := .tuple #[.slice (some ⟨ajc.heap.size, 0, none⟩) 0 0, .int .i64 k, .int .i64 8]) (by simp [results, results168, go_sem]) rfl ⟨_, by rw [H2.out], by rw [H2.out]; exact ny (Nat.zero_le _), lu.out⟩
 have YA := qH h3
 by_cases h4 : vc = va
 · have H2 := qH (HFL.out (RX.out (DV h4)))
   have HD4 := qH (show (vc != va) = false by simp [h4])
   clear h1 h2 h3 h4
   go_upto_region 8 with fail
   refine iT (fun w' => cI w' w.heap.size 0 size ∧ cV w' w.heap.size 1 (.slice at0 rs.length ct0) ∧ cI w' (w.heap.size + 1) 0 V ∧ cV w' (w.heap.size + 1) 1 (.slice ax cs.length cx) ∧ cI w' b (o + k * 3) va ∧ cI w' b (o + k * 3 + 1) vb ∧ cI w' b (o + k * 3 + 2) vc) (.z [0,1,2,3,4,5,6,7,8] (.hard 9 (.z [10,11,12,13,14,15,16,17] (.hard 18 (.z [19,20,21,22,23,24,25,26,27] (.hard 28 (.z [29,30,31,32,33,34,35,36,37,38,39,40,41,42,43,44,45,46,47,48,49,50,51,52] .nil))))))) ?_ ?_
   · exact (hs1.drew).d4 0 0 0 1 1 0 1 1 (fQ (hs1.drew).bel p0 p1 p2:)
   have kM := hs1.drew
   have ajR := qH (PZ.out.trans (((belowD _)).mono PZ.out.size))
   clear PZ
   clear aF aH aJ aK pF qx FP
   have Xg : wr.heap.size ≤ (wr.drew).heap.size := by simp
   generalize wr.drew = Ut at *
   refine aV ?_
   (try (rw [HD4.out]; refine aV ?_))
   refine gX fun K hK => ?_
   go_wp2_with (go_at_call 137; refine (dw va 0 WB _).mono ?_; rintro e w34 ⟨rfl, rfl, rfl⟩)
   rw [HE.out]
   refine ⟨(kM.d4 0 0 0 1 1 0 1 1 (fQ kM.bel p0 p1 p2:)), ?_⟩
   refine aV ?_
   (try (rw [HD4.out]; refine aV ?_))
   refine gX fun K hK => ?_
   go_wp2_with (go_at_call 137; refine (dw vb 0 ((V : Int) - 1) _).mono ?_; rintro e w35 ⟨rfl, rfl, rfl⟩)
   rw [HE2.out]
   refine ⟨(kM.d4 0 0 0 1 1 0 1 1 (fQ kM.bel p0 p1 p2:)), ?_⟩
   refine aV ?_
   (try (rw [HD4.out]; refine aV ?_))
   refine gX fun K hK => ?_
   go_wp2_with (go_at_call 137; refine (dw vc 0 ((V : Int) - 1) _).mono ?_; rintro e w36 ⟨rfl, rfl, rfl⟩)
   rw [YA.out]
   refine ⟨(kM.d4 0 0 0 1 1 0 1 1 (fQ kM.bel p0 p1 p2:)), ?_⟩
   refine aV ?_
   (try (rw [HD4.out]; refine aV ?_))
   obtain ⟨aF, aH, aJ, aK⟩ := kM.c4 0 0 0 1 1 0 1 1
   obtain ⟨pF, qx, FP⟩ := fQ kM.bel p0 p1 p2
   refine iF ?_
   go_upto_region 9 with fail
   refine iT (fun w' => cI w' w.heap.size 0 size ∧ cV w' w.heap.size 1 (.slice at0 rs.length ct0) ∧ cI w' (w.heap.size + 1) 0 V ∧ cV w' (w.heap.size + 1) 1 (.slice ax cs.length cx) ∧ cI w' b (o + k * 3) va ∧ cI w' b (o + k * 3 + 1) vb ∧ cI w' b (o + k * 3 + 2) vc) (.z [0,1,2,3,4,5,6,7,8,9,10,11,12,13,14,15,16,17] (.hard 18 (.z [19,20] .nil))) ?_ ?_
   · exact (kM.drew).d4 0 0 0 1 1 0 1 1 (fQ (kM.drew).bel p0 p1 p2:)
   have nY := kM.drew
   clear ajR
   clear aF aH aJ aK pF qx FP
   have GN : Ut.heap.size ≤ (Ut.drew).heap.size := by simp
   generalize Ut.drew = Dw at *
   refine aV ?_
   (try (rw [HD4.out]; refine aV ?_))
   refine eG rfl (by rfl) ?_ ?_
   · exact nY.d4 0 0 0 1 1 0 1 1 (fQ nY.bel p0 p1 p2:)
   (try simp only [Act.put, sI, sZ, sS])
   refine aV ?_
   (try (rw [HD4.out]; refine aV ?_))
   obtain ⟨aF, aH, aJ, aK⟩ := nY.c4 0 0 0 1 1 0 1 1
   obtain ⟨pF, qx, FP⟩ := fQ nY.bel p0 p1 p2
   have lu := qH (nY.bel.trans ((aB Dw (.cells #[] 118)).mono nY.bel.size))
   refine iF ?_
   go_wp2_with fail
   refine bodyPost_ret (v := .tuple #[.slice (some ⟨Dw.heap.size, 0, none⟩) 0 0, .int .i64 k, .int .i64 8]) (by simp [results, results168, go_sem]) rfl ⟨_, by rw [H2.out], by rw [H2.out]; exact ny (Nat.zero_le _), lu.out⟩
 have HD4 := qH (show (vc != va) = true by simp [h4])
 by_cases h5 : vc = vb
 · have H2 := qH (HFL.out (RX.out (DW h5)))
   have HD5 := qH (show (vc != vb) = false by simp [h5])
   clear h1 h2 h3 h4 h5
   go_upto_region 8 with fail
   refine iT (fun w' => cI w' w.heap.size 0 size ∧ cV w' w.heap.size 1 (.slice at0 rs.length ct0) ∧ cI w' (w.heap.size + 1) 0 V ∧ cV w' (w.heap.size + 1) 1 (.slice ax cs.length cx) ∧ cI w' b (o + k * 3) va ∧ cI w' b (o + k * 3 + 1) vb ∧ cI w' b (o + k * 3 + 2) vc) (.z [0,1,2,3,4,5,6,7,8] (.hard 9 (.z [10,11,12,13,14,15,16,17] (.hard 18 (.z [19,20,21,22,23,24,25,26,27] (.hard 28 (.z [29,30,31,32,33,34,35,36,37,38,39,40,41,42,43,44,45,46,47,48,49,50,51,52] .nil))))))) ?_ ?_
   · exact (hs1.drew).d4 0 0 0 1 1 0 1 1 (fQ (hs1.drew).bel p0 p1 p2:)
   have sF := hs1.drew
   have ajS := qH (PZ.out.trans (((belowD _)).mono PZ.out.size))
   clear PZ
   clear aF aH aJ aK pF qx FP
   have aph : wr.heap.size ≤ (wr.drew).heap.size := by simp
   generalize wr.drew = ajT at *
   refine aV ?_
   (try (rw [HD4.out]; refine aV ?_))
   (try (rw [HD5.out]; refine aV ?_))
   refine gX fun K hK => ?_
   go_wp2_with (go_at_call 137; refine (dw va 0 WB _).mono ?_; rintro e w43 ⟨rfl, rfl, rfl⟩)
   rw [HE.out]
   refine ⟨(sF.d4 0 0 0 1 1 0 1 1 (fQ sF.bel p0 p1 p2:)), ?_⟩
   refine aV ?_
   (try (rw [HD4.out]; refine aV ?_))
   (try (rw [HD5.out]; refine aV ?_))
   refine gX fun K hK => ?_
   go_wp2_with (go_at_call 137; refine (dw vb 0 ((V : Int) - 1) _).mono ?_; rintro e w44 ⟨rfl, rfl, rfl⟩)
   rw [HE2.out]
   refine ⟨(sF.d4 0 0 0 1 1 0 1 1 (fQ sF.bel p0 p1 p2:)), ?_⟩
   refine aV ?_
   (try (rw [HD4.out]; refine aV ?_))
   (try (rw [HD5.out]; refine aV ?_))
   refine gX fun K hK => ?_
   go_wp2_with (go_at_call 137; refine (dw vc 0 ((V : Int) - 1) _).mono ?_; rintro e w45 ⟨rfl, rfl, rfl⟩)
   rw [YA.out]
   refine ⟨(sF.d4 0 0 0 1 1 0 1 1 (fQ sF.bel p0 p1 p2:)), ?_⟩
   refine aV ?_
   (try (rw [HD4.out]; refine aV ?_))
   (try (rw [HD5.out]; refine aV ?_))
   obtain ⟨aF, aH, aJ, aK⟩ := sF.c4 0 0 0 1 1 0 1 1
   obtain ⟨pF, qx, FP⟩ := fQ sF.bel p0 p1 p2
   refine iF ?_
   go_upto_region 9 with fail
   refine iT (fun w' => cI w' w.heap.size 0 size ∧ cV w' w.heap.size 1 (.slice at0 rs.length ct0) ∧ cI w' (w.heap.size + 1) 0 V ∧ cV w' (w.heap.size + 1) 1 (.slice ax cs.length cx) ∧ cI w' b (o + k * 3) va ∧ cI w' b (o + k * 3 + 1) vb ∧ cI w' b (o + k * 3 + 2) vc) (.z [0,1,2,3,4,5,6,7,8,9,10,11,12,13,14,15,16,17] (.hard 18 (.z [19,20] .nil))) ?_ ?_
   · exact (sF.drew).d4 0 0 0 1 1 0 1 1 (fQ (sF.drew).bel p0 p1 p2:)
   have rY := sF.drew
   clear ajS
   clear aF aH aJ aK pF qx FP
   have apj : ajT.heap.size ≤ (ajT.drew).heap.size := by simp
   generalize ajT.drew = anG at *
   refine aV ?_
   (try (rw [HD4.out]; refine aV ?_))
   (try (rw [HD5.out]; refine aV ?_))
   refine eG rfl (by rfl) ?_ ?_
   · exact rY.d4 0 0 0 1 1 0 1 1 (fQ rY.bel p0 p1 p2:)
   (try simp only [Act.put, sI, sZ, sS])
   refine aV ?_
   (try (rw [HD4.out]; refine aV ?_))
   (try (rw [HD5.out]; refine aV ?_))
   obtain ⟨aF, aH, aJ, aK⟩ := rY.c4 0 0 0 1 1 0 1 1
   obtain ⟨pF, qx, FP⟩ := fQ rY.bel p0 p1 p2
   have lu := qH (rY.bel.trans ((aB anG (.cells #[] 118)).mono rY.bel.size))
   refine iF ?_
   go_wp2_with fail
   refine bodyPost_ret (v := .tuple #[.slice (some ⟨anG.heap.size, 0, none⟩) 0 0, .int .i64 k, .int .i64 8]) (by simp [results, results168, go_sem]) rfl ⟨_, by rw [H2.out], by rw [H2.out]; exact ny (Nat.zero_le _), lu.out⟩
 have HD5 := qH (show (vc != vb) = true by simp [h5])
 have hso := DX (V := (V : Int)) (by rw [Xn.out]; exact h1) h2 h3 h4 h5
 have hg := DN hso (by omega)
 have HSO := qH hso
 clear hso h1 h2 h3 h4 h5
 go_upto_region 8 with fail
 refine iT (fun w' => cI w' w.heap.size 0 size ∧ cV w' w.heap.size 1 (.slice at0 rs.length ct0) ∧ cI w' (w.heap.size + 1) 0 V ∧ cV w' (w.heap.size + 1) 1 (.slice ax cs.length cx) ∧ cI w' b (o + k * 3) va ∧ cI w' b (o + k * 3 + 1) vb ∧ cI w' b (o + k * 3 + 2) vc) (.z [0,1,2,3,4,5,6,7,8] (.hard 9 (.z [10,11,12,13,14,15,16,17] (.hard 18 (.z [19,20,21,22,23,24,25,26,27] (.hard 28 (.z [29,30,31,32,33,34,35,36,37,38,39,40,41,42,43,44,45,46,47,48,49,50,51,52] .nil))))))) ?_ ?_
 · exact (hs1.drew).d4 0 0 0 1 1 0 1 1 (fQ (hs1.drew).bel p0 p1 p2:)
 have ku := hs1.drew
 have VU := qH (PZ.out.trans (((belowD _)).mono PZ.out.size))
 clear PZ
 clear aF aH aJ aK pF qx FP
 have XH : wr.heap.size ≤ (wr.drew).heap.size := by simp
 generalize wr.drew = Vf at *
 refine aV ?_
 (try (rw [HD4.out]; refine aV ?_))
 (try (rw [HD5.out]; refine aV ?_))
 refine gX fun K hK => ?_
 go_wp2_with (go_at_call 137; refine (dw va 0 WB _).mono ?_; rintro e w52 ⟨rfl, rfl, rfl⟩)
 rw [HE.out]
 refine ⟨(ku.d4 0 0 0 1 1 0 1 1 (fQ ku.bel p0 p1 p2:)), ?_⟩
 refine aV ?_
 (try (rw [HD4.out]; refine aV ?_))
 (try (rw [HD5.out]; refine aV ?_))
 refine gX fun K hK => ?_
 go_wp2_with (go_at_call 137; refine (dw vb 0 ((V : Int) - 1) _).mono ?_; rintro e w53 ⟨rfl, rfl, rfl⟩)
 rw [HE2.out]
 refine ⟨(ku.d4 0 0 0 1 1 0 1 1 (fQ ku.bel p0 p1 p2:)), ?_⟩
 refine aV ?_
 (try (rw [HD4.out]; refine aV ?_))
 (try (rw [HD5.out]; refine aV ?_))
 refine gX fun K hK => ?_
 go_wp2_with (go_at_call 137; refine (dw vc 0 ((V : Int) - 1) _).mono ?_; rintro e w54 ⟨rfl, rfl, rfl⟩)
 rw [YA.out]
 refine ⟨(ku.d4 0 0 0 1 1 0 1 1 (fQ ku.bel p0 p1 p2:)), ?_⟩
 refine aV ?_
 (try (rw [HD4.out]; refine aV ?_))
 (try (rw [HD5.out]; refine aV ?_))
 obtain ⟨aF, aH, aJ, aK⟩ := ku.c4 0 0 0 1 1 0 1 1
 obtain ⟨pF, qx, FP⟩ := fQ ku.bel p0 p1 p2
 refine iF ?_
 obtain ⟨i, rfl⟩ : ∃ n : Nat, va = (n : Int) := ⟨va.toNat, by omega⟩
 obtain ⟨j, rfl⟩ : ∃ n : Nat, vb = (n : Int) := ⟨vb.toNat, by omega⟩
 obtain ⟨q, rfl⟩ : ∃ n : Nat, vc = (n : Int) := ⟨vc.toNat, by omega⟩
 have hij : i < j := by omega
 have hjV : j < V := by omega
 have hqV : q < V := by omega
 have HQI := qH (show q ≠ i by omega)
 have HQJ := qH (show q ≠ j by omega)
 have HZL := qH (show 0 < P.length from by rw [hpk.out.len]; exact Sz hij hjV)
 have HPO := qH (show rD size V P ((i : Int), (j : Int), (q : Int)) = uX size P i j q by unfold rD; rw [HSO.out]; rfl)
 have Ve := qH (Nr (k := q) hpk.out hij hjV)
 clear hg
 go_upto_region 9 with fail
 refine iT (fun w' => cI w' w.heap.size 0 size ∧ cV w' w.heap.size 1 (.slice at0 rs.length ct0) ∧ cI w' (w.heap.size + 1) 0 V ∧ cV w' (w.heap.size + 1) 1 (.slice ax cs.length cx) ∧ cI w' b (o + k * 3) (i : Int) ∧ cI w' b (o + k * 3 + 1) (j : Int) ∧ cI w' b (o + k * 3 + 2) (q : Int)) (.z [0,1,2,3,4,5,6,7,8,9,10,11,12,13,14,15,16,17] (.hard 18 (.z [19,20] .nil))) ?_ ?_
 · exact (ku.drew).d4 0 0 0 1 1 0 1 1 (fQ (ku.drew).bel p0 p1 p2:)
 have Cj := ku.drew
 have VW := qH (VU.out.trans (((belowD _)).mono VU.out.size))
 clear VU
 clear aF aH aJ aK pF qx FP
 have apk : Vf.heap.size ≤ (Vf.drew).heap.size := by simp
 generalize Vf.drew = azi at *
 refine aV ?_
 (try (rw [HD4.out]; refine aV ?_))
 (try (rw [HD5.out]; refine aV ?_))
 refine gX fun K hK => ?_
 go_wp2_with (go_at_call 113; refine (PI size V P i j q vp _ _ (hw.out.step VW.out).dom hpk.out hsz (by omega) hij hjV hqV HQI.out HQJ.out).mono ?_; rintro e w6 ⟨rfl, hI6, hB6⟩)
 have HW6 := qH ((hw.out.step VW.out).cut HZL.out hB6 hI6)
 have hs6 := HW6.out.st
 clear hI6 hB6
 clear VW
 refine ⟨(hs6.d4 0 0 0 1 1 0 1 1 (fQ hs6.bel p0 p1 p2:)), ?_⟩
 refine aV ?_
 (try (rw [HD4.out]; refine aV ?_))
 (try (rw [HD5.out]; refine aV ?_))
 obtain ⟨aF, aH, aJ, aK⟩ := hs6.c4 0 0 0 1 1 0 1 1
 obtain ⟨pF, qx, FP⟩ := fQ hs6.bel p0 p1 p2
 cases hgb : uX size P i j q
 · have H2 := qH (HFL.out (by rw [HPO.out, hgb]))
   have lu := qH (hs6.bel.trans ((aB w6 (.cells #[] 118)).mono hs6.bel.size))
   clear hgb
   refine iF ?_
   go_wp2_with fail
   refine bodyPost_ret (v := .tuple #[.slice (some ⟨w6.heap.size, 0, none⟩) 0 0, .int .i64 k, .int .i64 8]) (by simp [results, results168, go_sem]) rfl ⟨_, by rw [H2.out], by rw [H2.out]; exact ny (Nat.zero_le _), lu.out⟩
 have pW := qH (show kX size V steps 0 P0 = kX size V (steps.drop (k + 1)) (k + 1) (oC size P i j q) by rw [hrun.out, HDR.out, HPO.out, hgb]; rfl)
 clear hgb
 refine iF ?_
 go_wp2_with fail
 go_roundw
 case rel => exact ⟨k + 1, _, by omega, by go_num, HW6.out, Ve.out, pW.out⟩
 simp [intOf]; omega
end Go.Proofs.YtoblfnoaepbhfaaGreat
