import Derived.Test.YtoblfnoaepbhfaaGreatReplayQz
import Derived.Test.YtoblfnoaepbhfaaGreatRowBQz
set_option linter.unusedSimpArgs false
set_option linter.unusedVariables false
set_option maxHeartbeats 8000000
set_option maxRecDepth 100000
namespace Go.Proofs.YtoblfnoaepbhfaaGreat
open Go.Proofs.Tryz
open Go.RowKit Go.Shelf Go.IntWalk
open Rep (Rd Own sz)
theorem JW {α : Type} [Rep α] {H : Nat} {w : World} {a : Option Addr} {c : Nat} (hc : c ≤ maxLen) : aQ H w [.slice a 0 c] ([] : List α) :=
 ⟨[], ⟨_, rfl, .inl ⟨rfl, rfl, _, _, rfl, hc⟩⟩, List.nodup_nil, fun z hz => by cases hz⟩
theorem VX (t : dB) (x : Inst) (ds : List (List Int)) (va aa ka : Int) (tb xb sb so : Nat) (t0 t1 x0 x1 vd : Value) (w : World) (ht : Rd w [t0, t1] t) (hx : Rd w [x0, x1] x) (hd : Rd w [vd] ds) (hok : cu t x = true) (hl : (ds.length : Int) = x.1)
 (tc : w.cell? ⟨tb, 1, none⟩ = some t1) (xc0 : w.cell? ⟨xb, 0, none⟩ = some x0) (gJ : w.cell? ⟨xb, 1, none⟩ = some x1)
 (sc0 : w.cell? ⟨sb, so, none⟩ = some (.int .i64 va)) (yV : w.cell? ⟨sb, so + 1, none⟩ = some (.int .i64 aa)) (y8 : w.cell? ⟨sb, so + 2, none⟩ = some (.int .i64 ka)) :
 Calls prog 291 #[.pointer (some ⟨tb, 0, none⟩), .pointer (some ⟨xb, 0, none⟩), vd, .pointer (some ⟨sb, so, none⟩)] w fun e w' => e = .returned (.bool (nT t x ds (va, aa, ka))) ∧ Below w.heap.size w w' := by
 obtain ⟨size, rs⟩ := t
 obtain ⟨vars, cs⟩ := x
 simp only at hl
 have zt := au rfl ht
 obtain ⟨rfl, _⟩ := aG zt.1
 obtain ⟨at0, ct0, rfl, _⟩ := ah zt.2
 have zx := au rfl hx
 obtain ⟨rfl, _⟩ := aG zx.1
 obtain ⟨ax, cx, rfl, hcs⟩ := ah zx.2
 obtain ⟨ad, cd, rfl, hdr⟩ := ah hd
 have hv1 := (aX hok).2.1
 have hcl := (aX hok).2.2.1
 simp only at hv1 hcl
 have HR := qH zt.2
 have HD := qH hd
 have PW := qH hcs
 have HDR := qH hdr
 have HFC := qH (fun (k : Nat) (hk : k < cs.length) => xH hok hk)
 have Tn := qH hl
 clear ht hx hd zt zx hcs hdr hok hl
 have ew : IntKind.i64.wrap (vars - 1) = vars - 1 := i64_in _ (by omega)
 have ew2 : IntKind.i64.wrap ((cs.length : Int) - 1) = (cs.length : Int) - 1 := i64_in _ (by omega)
 have qg := qC (St.start w).bel tc
 clear qg
 obtain ⟨qg, bg⟩ := iQ (St.start w).bel tc xc0
 clear qg bg
 obtain ⟨qg, bg, bI⟩ := fQ (St.start w).bel tc xc0 gJ
 clear qg bg bI
 obtain ⟨qg, bg, bI, oJ⟩ := jc (St.start w).bel tc xc0 gJ sc0
 clear qg bg bI oJ
 obtain ⟨qg, bg, bI, oJ, qc⟩ := zI (St.start w).bel tc xc0 gJ sc0 yV
 clear qg bg bI oJ qc
 obtain ⟨qg, bg, bI, oJ, qc, qY⟩ := uZ (St.start w).bel tc xc0 gJ sc0 yV y8
 go_enter func291, ntmps291
 cases h1 : inB va 0 (vars - 1)
 · have H1 := qH (uq (t := (size, rs)) (x := (vars, cs)) (ds := ds) (s := (va, aa, ka)) (by unfold ou; simp only [h1, Bool.false_and]))
   go_upto_region 1 with fail
   refine iT (fun w' => cV w' tb 1 (.slice at0 rs.length ct0) ∧ cI w' xb 0 vars ∧ cV w' xb 1 (.slice ax cs.length cx) ∧ cI w' sb so va ∧ cI w' sb (so + 1) aa ∧ cI w' sb (so + 2) ka) (.z [0,1,2,3,4,5,6,7,8] (.hard 9 (.z [10,11,12,13,14,15,16,17,18,19,20,21] (.hard 22 (.z [23,24,25,26,27,28,29,30,31,32,33,34,35,36] (.hard 37 (.z [38,39] .nil))))))) ?_ ?_
   · exact ⟨qC ((St.start w).drew).bel tc, qC ((St.start w).drew).bel xc0, qC ((St.start w).drew).bel gJ, qC ((St.start w).drew).bel sc0, qC ((St.start w).drew).bel yV, qC ((St.start w).drew).bel y8⟩
   have hs1 := (St.start w).drew
   clear qg bg bI oJ qc qY
   have ahp : w.heap.size ≤ (w.drew).heap.size := by simp
   generalize w.drew = wd2 at *
   refine aV ?_
   refine gX fun K hK => ?_
   go_wp2_with (go_at_call 137; refine (dw va 0 (vars - 1) _).mono ?_; rintro e w3 ⟨rfl, rfl, rfl⟩)
   refine ⟨(uZ hs1.bel tc xc0 gJ sc0 yV y8:), ?_⟩
   refine aV ?_
   refine eG rfl (by rfl) ?_ ?_
   · exact (uZ hs1.bel tc xc0 gJ sc0 yV y8:)
   (try simp only [Act.put, sI, sZ, sS])
   refine aV ?_
   refine eG rfl (by rfl) ?_ ?_
   · exact (uZ hs1.bel tc xc0 gJ sc0 yV y8:)
   (try simp only [Act.put, sI, sZ, sS])
   refine aV ?_
   obtain ⟨qg, bg, bI, oJ, qc, qY⟩ := uZ hs1.bel tc xc0 gJ sc0 yV y8
   refine iF ?_
   go_wp2_with fail
   go_ret
   exact ⟨ak H1.out.symm, hs1.bel⟩
 have h2 := bQ h1
 obtain ⟨vn, rfl⟩ : ∃ vn : Nat, va = (vn : Int) := ⟨va.toNat, by omega⟩
 have hvn : vn < ds.length := by have := Tn.out; omega
 have ajq : (vn : Int) < ds.length := by omega
 cases h3 : inB ka 0 ((cs.length : Int) - 1)
 · have H1 := qH (uq (t := (size, rs)) (x := (vars, cs)) (ds := ds) (s := ((vn : Int), aa, ka)) (by unfold ou; simp only [h3, Bool.and_false, Bool.false_and]))
   go_upto_region 1 with fail
   refine iT (fun w' => cV w' tb 1 (.slice at0 rs.length ct0) ∧ cI w' xb 0 vars ∧ cV w' xb 1 (.slice ax cs.length cx) ∧ cI w' sb so (vn : Int) ∧ cI w' sb (so + 1) aa ∧ cI w' sb (so + 2) ka) (.z [0,1,2,3,4,5,6,7,8] (.hard 9 (.z [10,11,12,13,14,15,16,17,18,19,20,21] (.hard 22 (.z [23,24,25,26,27,28,29,30,31,32,33,34,35,36] (.hard 37 (.z [38,39] .nil))))))) ?_ ?_
   · exact ⟨qC ((St.start w).drew).bel tc, qC ((St.start w).drew).bel xc0, qC ((St.start w).drew).bel gJ, qC ((St.start w).drew).bel sc0, qC ((St.start w).drew).bel yV, qC ((St.start w).drew).bel y8⟩
   have hs4 := (St.start w).drew
   clear qg bg bI oJ qc qY
   have OU : w.heap.size ≤ (w.drew).heap.size := by simp
   generalize w.drew = GY at *
   refine aV ?_
   refine gX fun K hK => ?_
   go_wp2_with (go_at_call 137; refine (dw vn 0 (vars - 1) _).mono ?_; rintro e w6 ⟨rfl, rfl, rfl⟩)
   refine ⟨(uZ hs4.bel tc xc0 gJ sc0 yV y8:), ?_⟩
   refine aV ?_
   refine gX fun K hK => ?_
   go_wp2_with (go_at_call 137; refine (dw ka 0 ((cs.length : Int) - 1) _).mono ?_; rintro e w7 ⟨rfl, rfl, rfl⟩)
   refine ⟨(uZ hs4.bel tc xc0 gJ sc0 yV y8:), ?_⟩
   refine aV ?_
   refine eG rfl (by rfl) ?_ ?_
   · exact (uZ hs4.bel tc xc0 gJ sc0 yV y8:)
   (try simp only [Act.put, sI, sZ, sS])
   refine aV ?_
   obtain ⟨qg, bg, bI, oJ, qc, qY⟩ := uZ hs4.bel tc xc0 gJ sc0 yV y8
   refine iF ?_
   go_wp2_with fail
   go_ret
   exact ⟨ak H1.out.symm, hs4.bel⟩
 have h4 := bQ h3
 obtain ⟨k, rfl⟩ : ∃ k : Nat, ka = (k : Int) := ⟨ka.toNat, by omega⟩
 have hk : k < cs.length := by omega
 have QH : (k : Int) < cs.length := by omega
 obtain ⟨b3, o3, u3, rfl, qd, hdn⟩ := bF rfl HDR.out vn hvn
 obtain ⟨a3, c3, rfl, _⟩ := ah hdn
 have Tt := qH hdn
 have FC := qH (show ds.getD vn [] = ds[vn] by rw [List.getD, List.getElem?_eq_getElem hvn]; rfl)
 have HF := qH (show ou (size, rs) (vars, cs) ds ((vn : Int), aa, (k : Int)) = nS ds[vn] aa by
  unfold ou
  simp only [h1, h3, Bool.true_and, Int.toNat_natCast]
  rw [FC.out])
 clear hdn
 generalize ds[vn] = D at *
 clear qg bg bI oJ qc qY
 obtain ⟨qg, bg, bI, oJ, qc, qY, Ag⟩ := JX (St.start w).bel tc xc0 gJ sc0 yV y8 qd
 clear qg bg bI oJ qc qY Ag
 obtain ⟨qg, bg, bI, oJ, qc, qY, Ag⟩ := JX (St.start w).bel tc xc0 gJ sc0 yV y8 qd
 cases h5 : nS D aa
 · have H1 := qH (uq (t := (size, rs)) (x := (vars, cs)) (ds := ds) (s := ((vn : Int), aa, (k : Int))) (by rw [HF.out, h5]))
   have HE := qH h5
   clear h5
   go_upto_region 1 with fail
   refine iT (fun w' => cV w' tb 1 (.slice at0 rs.length ct0) ∧ cI w' xb 0 vars ∧ cV w' xb 1 (.slice ax cs.length cx) ∧ cI w' sb so (vn : Int) ∧ cI w' sb (so + 1) aa ∧ cI w' sb (so + 2) (k : Int) ∧ cV w' b3 (o3 + vn) (.slice a3 D.length c3)) (.z [0,1,2,3,4,5,6,7,8] (.hard 9 (.z [10,11,12,13,14,15,16,17,18,19,20,21] (.hard 22 (.z [23,24,25,26,27,28,29,30,31,32,33,34,35,36] (.hard 37 (.z [38,39] .nil))))))) ?_ ?_
   · exact ⟨qC ((St.start w).drew).bel tc, qC ((St.start w).drew).bel xc0, qC ((St.start w).drew).bel gJ, qC ((St.start w).drew).bel sc0, qC ((St.start w).drew).bel yV, qC ((St.start w).drew).bel y8, qC ((St.start w).drew).bel qd⟩
   have hs8 := (St.start w).drew
   clear qg bg bI oJ qc qY Ag
   have ajN : w.heap.size ≤ (w.drew).heap.size := by simp
   generalize w.drew = wd9 at *
   refine aV ?_
   refine gX fun K hK => ?_
   go_wp2_with (go_at_call 137; refine (dw vn 0 (vars - 1) _).mono ?_; rintro e w10 ⟨rfl, rfl, rfl⟩)
   refine ⟨(JX hs8.bel tc xc0 gJ sc0 yV y8 qd:), ?_⟩
   refine aV ?_
   refine gX fun K hK => ?_
   go_wp2_with (go_at_call 137; refine (dw k 0 ((cs.length : Int) - 1) _).mono ?_; rintro e w11 ⟨rfl, rfl, rfl⟩)
   refine ⟨(JX hs8.bel tc xc0 gJ sc0 yV y8 qd:), ?_⟩
   refine aV ?_
   refine gX fun K hK => ?_
   go_wp2_with (go_at_call 188; refine (xG D _ aa _ (Rd.mono Tt.out hs8.bel)).mono ?_; rintro e w12 ⟨rfl, uN⟩)
   have Us : wd9.heap.size ≤ w12.heap.size := hZ uN
   have fV := hs8.step uN
   rw [HE.out]
   refine ⟨(JX fV.bel tc xc0 gJ sc0 yV y8 qd:), ?_⟩
   refine aV ?_
   obtain ⟨qg, bg, bI, oJ, qc, qY, Ag⟩ := JX fV.bel tc xc0 gJ sc0 yV y8 qd
   refine iF ?_
   go_wp2_with fail
   go_ret
   exact ⟨ak H1.out.symm, fV.bel⟩
 obtain ⟨nr, hcn, hnr, hyl, hsv, ajr⟩ := HFC.out k hk
 obtain ⟨b, o, u0, u1, rfl, p0, p1, hy⟩ := dP rfl PW.out k hk
 have hyz := au rfl hy
 obtain ⟨rfl, _⟩ := aG hyz.1
 obtain ⟨a1, c1, rfl, _⟩ := ah hyz.2
 have qU := qH hyz.2
 have ae2 := qH hy
 have D9 := qH hyl
 have Y5 := qH hsv
 have HNR := qH hnr
 have ab8 := qH (fun (sc : List Int) (e : cs[k] = ((nr : Int), sc)) => JL (t := (size, rs)) (x := (vars, cs)) (ds := ds) (v := (vn : Int)) (a := aa) (by rw [HF.out, h5]) hk e)
 clear hyl hsv hnr hy hyz
 generalize hCC : cs[k] = CC at *
 obtain ⟨ci, sc⟩ := CC
 simp only at hcn p0 p1 qU ae2 D9 Y5 ajr
 subst hcn
 have HST := qH (ab8.out sc rfl)
 clear hCC ab8
 clear qg bg bI oJ qc qY Ag
 obtain ⟨qg, bg, bI, oJ, qc, qY, Ag, pF⟩ := sN (St.start w).bel tc xc0 gJ sc0 yV y8 qd p0
 clear qg bg bI oJ qc qY Ag pF
 obtain ⟨qg, bg, bI, oJ, qc, qY, Ag, pF⟩ := sN (St.start w).bel tc xc0 gJ sc0 yV y8 qd p0
 have qx := qC (St.start w).bel p1
 clear qg bg bI oJ qc qY Ag pF qx
 obtain ⟨qg, bg, bI, oJ, qc, qY, Ag, pF⟩ := sN (St.start w).bel tc xc0 gJ sc0 yV y8 qd p0
 have qx := qC (St.start w).bel p1
 have HE := qH h5
 clear h5
 go_upto_region 1 with fail
 refine iT (fun w' => cV w' tb 1 (.slice at0 rs.length ct0) ∧ cI w' xb 0 vars ∧ cV w' xb 1 (.slice (some ⟨b, o, none⟩) cs.length cx) ∧ cI w' sb so (vn : Int) ∧ cI w' sb (so + 1) aa ∧ cI w' sb (so + 2) (k : Int) ∧ cV w' b3 (o3 + vn) (.slice a3 D.length c3) ∧ cI w' b (o + k * 2) nr ∧ cV w' b (o + k * 2 + 1) (.slice a1 sc.length c1)) (.z [0,1,2,3,4,5,6,7,8] (.hard 9 (.z [10,11,12,13,14,15,16,17,18,19,20,21] (.hard 22 (.z [23,24,25,26,27,28,29,30,31,32,33,34,35,36] (.hard 37 (.z [38,39] .nil))))))) ?_ ?_
 · exact ⟨qC ((St.start w).drew).bel tc, qC ((St.start w).drew).bel xc0, qC ((St.start w).drew).bel gJ, qC ((St.start w).drew).bel sc0, qC ((St.start w).drew).bel yV, qC ((St.start w).drew).bel y8, qC ((St.start w).drew).bel qd, qC ((St.start w).drew).bel p0, qC ((St.start w).drew).bel p1⟩
 have eU := (St.start w).drew
 clear qg bg bI oJ qc qY Ag pF qx
 have aeZ : w.heap.size ≤ (w.drew).heap.size := by simp
 generalize w.drew = am8 at *
 refine aV ?_
 refine gX fun K hK => ?_
 go_wp2_with (go_at_call 137; refine (dw vn 0 (vars - 1) _).mono ?_; rintro e w16 ⟨rfl, rfl, rfl⟩)
 refine ⟨⟨qC eU.bel tc, qC eU.bel xc0, qC eU.bel gJ, qC eU.bel sc0, qC eU.bel yV, qC eU.bel y8, qC eU.bel qd, qC eU.bel p0, qC eU.bel p1⟩, ?_⟩
 refine aV ?_
 refine gX fun K hK => ?_
 go_wp2_with (go_at_call 137; refine (dw k 0 ((cs.length : Int) - 1) _).mono ?_; rintro e PU ⟨rfl, rfl, rfl⟩)
 refine ⟨⟨qC eU.bel tc, qC eU.bel xc0, qC eU.bel gJ, qC eU.bel sc0, qC eU.bel yV, qC eU.bel y8, qC eU.bel qd, qC eU.bel p0, qC eU.bel p1⟩, ?_⟩
 refine aV ?_
 refine gX fun K hK => ?_
 go_wp2_with (go_at_call 188; refine (xG D _ aa _ (Rd.mono Tt.out eU.bel)).mono ?_; rintro e Xk ⟨rfl, Bo⟩)
 have aaF : am8.heap.size ≤ Xk.heap.size := hZ Bo
 have kD := eU.step Bo
 rw [HE.out]
 refine ⟨⟨qC kD.bel tc, qC kD.bel xc0, qC kD.bel gJ, qC kD.bel sc0, qC kD.bel yV, qC kD.bel y8, qC kD.bel qd, qC kD.bel p0, qC kD.bel p1⟩, ?_⟩
 refine aV ?_
 obtain ⟨qg, bg, bI, oJ, qc, qY, Ag, pF⟩ := sN kD.bel tc xc0 gJ sc0 yV y8 qd p0
 have qx := qC kD.bel p1
 refine iF ?_
 go_wp2_with fail
 go_upto_region 3 with fail
 refine iT (fun w' => cV w' tb 1 (.slice at0 rs.length ct0) ∧ cI w' xb 0 vars ∧ cV w' xb 1 (.slice (some ⟨b, o, none⟩) cs.length cx) ∧ cI w' sb so (vn : Int) ∧ cI w' sb (so + 1) aa ∧ cI w' sb (so + 2) (k : Int) ∧ cV w' b3 (o3 + vn) (.slice a3 D.length c3) ∧ cI w' b (o + k * 2) nr ∧ cV w' b (o + k * 2 + 1) (.slice a1 sc.length c1)) (.z [0,1,2,3,4,5,6,7,8,9] .nil) ?_ ?_
 · exact ⟨qC (kD.drew).bel tc, qC (kD.drew).bel xc0, qC (kD.drew).bel gJ, qC (kD.drew).bel sc0, qC (kD.drew).bel yV, qC (kD.drew).bel y8, qC (kD.drew).bel qd, qC (kD.drew).bel p0, qC (kD.drew).bel p1⟩
 have jC := kD.drew
 clear qg bg bI oJ qc qY Ag pF qx
 have afa : Xk.heap.size ≤ (Xk.drew).heap.size := by simp
 generalize Xk.drew = afb at *
 refine aV ?_
 obtain ⟨qg, bg, bI, oJ, qc, qY, Ag, pF⟩ := sN jC.bel tc xc0 gJ sc0 yV y8 qd p0
 have qx := qC jC.bel p1
 refine iF ?_
 obtain ⟨wA, rfl⟩ : ∃ x, x = afb := ⟨_, rfl⟩
 have Jp := qH jC.bel
 go_wp2_with fail
 go_loopw [10] (fun i wl => ∃ p : Nat, p ≤ sc.length ∧ i = .int .i64 p ∧ Hid (Below wA.heap.size wA wl) ∧ Hid (∀ q, q < p → lY (rs.getD nr (0, [])).2 sc ds vn aa q = false)) (fun i _ => sc.length - (intOf i).toNat)
 case atStart => exact ⟨0, Nat.zero_le _, rfl, Below.refl _ _, fun i hi => absurd hi (Nat.not_lt_zero _)⟩
 obtain ⟨p, hp, rfl, hbl, hr⟩ := hrel
 have hs2 := (St.start w).step (Jp.out.trans (hbl.out.mono Jp.out.size))
 obtain ⟨qg, bg, bI, oJ, qc, qY, Ag, pF⟩ := sN hs2.bel tc xc0 gJ sc0 yV y8 qd p0
 have qx := qC hs2.bel p1
 have HB := hbl
 by_cases hlt : p < sc.length
 rotate_left
 · obtain rfl : p = sc.length := by omega
   have hnl : ¬ ((sc.length : Int) < sc.length) := by omega
   have H9 := qH (show nT (size, rs) (vars, cs) ds ((vn : Int), aa, (k : Int)) = false by rw [HST.out]; exact G6 hr.out)
   have lu := qH hs2.bel
   go_wp2_with fail
   go_ret
   exact ⟨ak H9.out.symm, lu.out⟩
 have hpI : (p : Int) < sc.length := by omega
 obtain ⟨b5, o5, rfl, qk, _⟩ := aI (Rd.mono qU.out hs2.bel) p hlt
 have HPO := qH (show lY (rs.getD nr (0, [])).2 sc ds vn aa p = (decide (sc[p] = (vn : Int)) && !EM (rs.getD nr (0, [])).2 sc ds p aa) by
  unfold lY
  rw [show sc.getD p 0 = sc[p] by rw [List.getD, List.getElem?_eq_getElem hlt]; rfl])
 have pW := qH (fun (h : lY (rs.getD nr (0, [])).2 sc ds vn aa p = false) => show ∀ q, q < p + 1 → lY (rs.getD nr (0, [])).2 sc ds vn aa q = false from fun q hq => by
  rcases Nat.lt_or_ge q p with h1 | h1
  · exact hr.out q h1
  · obtain rfl : q = p := by omega
    exact h)
 have ae3 := qH (show ∀ v, v ∈ sc → 0 ≤ v ∧ v < (ds.length : Int) from fun v hv => by have h1 := Y5.out v hv; have h2 := Tn.out; omega)
 generalize sc[p] = SP at *
 by_cases h6 : SP = (vn : Int)
 rotate_left
 · have h6b : (SP == (vn : Int)) = false := by rw [beq_eq_false_iff_ne]; exact h6
   have H9 := qH (pW.out (by rw [HPO.out, decide_eq_false h6]; rfl))
   clear h6
   go_upto_region 7 with fail
   refine iT (fun w' => cV w' tb 1 (.slice at0 rs.length ct0) ∧ cI w' xb 0 vars ∧ cV w' xb 1 (.slice (some ⟨b, o, none⟩) cs.length cx) ∧ cI w' sb so (vn : Int) ∧ cI w' sb (so + 1) aa ∧ cI w' sb (so + 2) (k : Int) ∧ cV w' b3 (o3 + vn) (.slice a3 D.length c3) ∧ cI w' b (o + k * 2) nr ∧ cV w' b (o + k * 2 + 1) (.slice (some ⟨b5, o5, none⟩) sc.length c1) ∧ cI w' b5 (o5 + p) SP) (.z [0,1,2,3,4,5,6,7,8,9,10,11,12,13,14,15,16,17,18,19,20] (.hard 21 (.z [22,23] .nil))) ?_ ?_
   · exact ⟨qC (hs2.drew).bel tc, qC (hs2.drew).bel xc0, qC (hs2.drew).bel gJ, qC (hs2.drew).bel sc0, qC (hs2.drew).bel yV, qC (hs2.drew).bel y8, qC (hs2.drew).bel qd, qC (hs2.drew).bel p0, qC (hs2.drew).bel p1, qC (belowD _) qk⟩
   have l7 := hs2.drew
   have anH := qC (belowD _) qk
   clear qk
   have anI := qH (HB.out.trans (((belowD _)).mono HB.out.size))
   clear HB
   clear qg bg bI oJ qc qY Ag pF qx
   have XG : wr.heap.size ≤ (wr.drew).heap.size := by simp
   generalize wr.drew = aiI at *
   refine aV ?_
   refine eG rfl (by rfl) ?_ ?_
   · exact ⟨qC l7.bel tc, qC l7.bel xc0, qC l7.bel gJ, qC l7.bel sc0, qC l7.bel yV, qC l7.bel y8, qC l7.bel qd, qC l7.bel p0, qC l7.bel p1, anH⟩
   (try simp only [Act.put, sI, sZ, sS])
   refine aV ?_
   obtain ⟨qg, bg, bI, oJ, qc, qY, Ag, pF⟩ := sN l7.bel tc xc0 gJ sc0 yV y8 qd p0
   have qx := qC l7.bel p1
   refine iF ?_
   go_wp2_with fail
   go_roundw
   case rel => exact ⟨p + 1, by omega, by go_num, anI.out, H9.out⟩
   simp [intOf]; omega
 subst h6
 have ab9 := qH (show lY (rs.getD nr (0, [])).2 sc ds vn aa p = !EM (rs.getD nr (0, [])).2 sc ds p aa by rw [HPO.out, decide_eq_true rfl, Bool.true_and])
 cases hsup : EM (rs.getD nr (0, [])).2 sc ds p aa
 · have H9 := qH (show nT (size, rs) (vars, cs) ds ((vn : Int), aa, (k : Int)) = true by rw [HST.out]; exact G7 hlt (by rw [ab9.out, hsup]; rfl))
   have xw := qH hsup
   clear hsup
   go_upto_region 7 with fail
   refine iT (fun w' => cV w' tb 1 (.slice at0 rs.length ct0) ∧ cI w' xb 0 vars ∧ cV w' xb 1 (.slice (some ⟨b, o, none⟩) cs.length cx) ∧ cI w' sb so (vn : Int) ∧ cI w' sb (so + 1) aa ∧ cI w' sb (so + 2) (k : Int) ∧ cV w' b3 (o3 + vn) (.slice a3 D.length c3) ∧ cI w' b (o + k * 2) nr ∧ cV w' b (o + k * 2 + 1) (.slice (some ⟨b5, o5, none⟩) sc.length c1) ∧ cI w' b5 (o5 + p) (vn : Int)) (.z [0,1,2,3,4,5,6,7,8,9,10,11,12,13,14,15,16,17,18,19,20] (.hard 21 (.z [22,23] .nil))) ?_ ?_
   · exact ⟨qC (hs2.drew).bel tc, qC (hs2.drew).bel xc0, qC (hs2.drew).bel gJ, qC (hs2.drew).bel sc0, qC (hs2.drew).bel yV, qC (hs2.drew).bel y8, qC (hs2.drew).bel qd, qC (hs2.drew).bel p0, qC (hs2.drew).bel p1, qC (belowD _) qk⟩
   have qV := hs2.drew
   have agw := qC (belowD _) qk
   clear qk
   have anJ := qH (HB.out.trans (((belowD _)).mono HB.out.size))
   clear HB
   clear qg bg bI oJ qc qY Ag pF qx
   have Xg : wr.heap.size ≤ (wr.drew).heap.size := by simp
   generalize wr.drew = Ut at *
   refine aV ?_
   refine gX fun K hK => ?_
   go_wp2_with (go_at_call 221; refine (DJ rs sc ds p aa nr tb b (o + k * 2) _ _ _ _ (Rd.mono HR.out qV.bel) (Rd.mono qU.out qV.bel) (Rd.mono HD.out qV.bel) (qC qV.bel tc) (qC qV.bel p0) (qC qV.bel p1) HNR.out hlt D9.out ae3.out).mono ?_; rintro e w34 ⟨rfl, JQ⟩)
   have ajF : Ut.heap.size ≤ w34.heap.size := hZ JQ
   have iY := qV.step JQ
   have anK := qC JQ agw
   clear agw
   clear anJ
   first | rw [xw.out] | (have h9 := xw.out; simp only [List.getD_eq_getElem?_getD] at h9; rw [h9])
   refine ⟨⟨qC iY.bel tc, qC iY.bel xc0, qC iY.bel gJ, qC iY.bel sc0, qC iY.bel yV, qC iY.bel y8, qC iY.bel qd, qC iY.bel p0, qC iY.bel p1, anK⟩, ?_⟩
   refine aV ?_
   obtain ⟨qg, bg, bI, oJ, qc, qY, Ag, pF⟩ := sN iY.bel tc xc0 gJ sc0 yV y8 qd p0
   have qx := qC iY.bel p1
   refine iF ?_
   go_wp2_with fail
   go_ret
   exact ⟨ak H9.out.symm, iY.bel⟩
 have H9 := qH (pW.out (by rw [ab9.out, hsup]; rfl))
 have xw := qH hsup
 clear hsup
 go_upto_region 7 with fail
 refine iT (fun w' => cV w' tb 1 (.slice at0 rs.length ct0) ∧ cI w' xb 0 vars ∧ cV w' xb 1 (.slice (some ⟨b, o, none⟩) cs.length cx) ∧ cI w' sb so (vn : Int) ∧ cI w' sb (so + 1) aa ∧ cI w' sb (so + 2) (k : Int) ∧ cV w' b3 (o3 + vn) (.slice a3 D.length c3) ∧ cI w' b (o + k * 2) nr ∧ cV w' b (o + k * 2 + 1) (.slice (some ⟨b5, o5, none⟩) sc.length c1) ∧ cI w' b5 (o5 + p) (vn : Int)) (.z [0,1,2,3,4,5,6,7,8,9,10,11,12,13,14,15,16,17,18,19,20] (.hard 21 (.z [22,23] .nil))) ?_ ?_
 · exact ⟨qC (hs2.drew).bel tc, qC (hs2.drew).bel xc0, qC (hs2.drew).bel gJ, qC (hs2.drew).bel sc0, qC (hs2.drew).bel yV, qC (hs2.drew).bel y8, qC (hs2.drew).bel qd, qC (hs2.drew).bel p0, qC (hs2.drew).bel p1, qC (belowD _) qk⟩
 have je := hs2.drew
 have agx := qC (belowD _) qk
 clear qk
 have JU := qH (HB.out.trans (((belowD _)).mono HB.out.size))
 clear HB
 clear qg bg bI oJ qc qY Ag pF qx
 have Xf : wr.heap.size ≤ (wr.drew).heap.size := by simp
 generalize wr.drew = ahr at *
 refine aV ?_
 refine gX fun K hK => ?_
 go_wp2_with (go_at_call 221; refine (DJ rs sc ds p aa nr tb b (o + k * 2) _ _ _ _ (Rd.mono HR.out je.bel) (Rd.mono qU.out je.bel) (Rd.mono HD.out je.bel) (qC je.bel tc) (qC je.bel p0) (qC je.bel p1) HNR.out hlt D9.out ae3.out).mono ?_; rintro e w26 ⟨rfl, Bv⟩)
 have acd : ahr.heap.size ≤ w26.heap.size := hZ Bv
 have lZ := je.step Bv
 have anL := qC Bv agx
 clear agx
 have abN := qH (JU.out.trans ((Bv).mono JU.out.size))
 clear JU
 first | rw [xw.out] | (have h9 := xw.out; simp only [List.getD_eq_getElem?_getD] at h9; rw [h9])
 refine ⟨⟨qC lZ.bel tc, qC lZ.bel xc0, qC lZ.bel gJ, qC lZ.bel sc0, qC lZ.bel yV, qC lZ.bel y8, qC lZ.bel qd, qC lZ.bel p0, qC lZ.bel p1, anL⟩, ?_⟩
 refine aV ?_
 obtain ⟨qg, bg, bI, oJ, qc, qY, Ag, pF⟩ := sN lZ.bel tc xc0 gJ sc0 yV y8 qd p0
 have qx := qC lZ.bel p1
 refine iF ?_
 go_wp2_with fail
 go_roundw
 case rel => exact ⟨p + 1, by omega, by go_num, abN.out, H9.out⟩
 simp [intOf]; omega
theorem KQ (t : dB) (t0 t1 : Value) (x : Inst) (x0 x1 : Value) (ds : List (List Int)) (vp : Value) (steps : List (Int × Int × Int)) (vs : Value) (w : World) (ht : Rd w [t0, t1] t) (hx : Rd w [x0, x1] x) (hp : Rd w [vp] ds) (hs : Rd w [vs] steps) (hz : ∀ d, d ∈ ds → d.length ≤ 1048576) (hzs : steps.length ≤ 1048576) :
 Calls prog 167 #[.agg #[t0, t1], .agg #[x0, x1], vp, vs] w fun e w' => ∃ u0, e = .returned (.tuple #[u0, .int .i64 (eX t x ds steps).2.1, .int .i64 (eX t x ds steps).2.2]) ∧ aQ w.heap.size w' [u0] (eX t x ds steps).1 ∧ Below w.heap.size w w' := by
 obtain ⟨size, rs⟩ := t
 obtain ⟨vars, cs⟩ := x
 have HT := qH ht
 have HX := qH hx
 have HP := qH hp
 have HZ := qH hz
 have zt := au rfl ht
 obtain ⟨rfl, _⟩ := aG zt.1
 obtain ⟨at0, ct0, rfl, _⟩ := ah zt.2
 have zx := au rfl hx
 obtain ⟨rfl, _⟩ := aG zx.1
 obtain ⟨ax, cx, rfl, _⟩ := ah zx.2
 obtain ⟨a, c, rfl, _⟩ := ah hp
 obtain ⟨ast, cst, rfl, hsr⟩ := ah hs
 have HSR := qH hsr
 clear ht hx hp zt zx hz hs hsr
 have Jb := (St.start w).alloc #[.int .i64 size, .slice at0 rs.length ct0] 42 (n := w.heap.size) (by simp)
 have pV := Jb.alloc #[.int .i64 vars, .slice ax cs.length cx] 46 (n := w.heap.size + 1) (by simp)
 obtain ⟨aF, aH, aJ, aK⟩ := pV.c4 0 0 0 1 1 0 1 1
 go_enter func167, ntmps167
 go_wp2_with fail
 refine (YE (size, rs) (vars, cs) ds _ _ _ _ _ _ _ _ (Rd.mono HT.out pV.bel) (Rd.mono HX.out pV.bel) (pV.c 0 0) (pV.c 0 1) (pV.c 1 0) (pV.c 1 1) (Rd.mono HP.out pV.bel)).mono ?_
 rintro e w44 ⟨rfl, agy⟩
 have atJ : w.heap.size + 1 + 1 ≤ w44.heap.size := hZ agy
 have A8 := pV.step agy
 clear aF aH aJ aK
 obtain ⟨aF, aH, aJ, aK⟩ := A8.c4 0 0 0 1 1 0 1 1
 cases h1 : mZ (size, rs) (vars, cs) ds
 · have H1 := qH (show eX (size, rs) (vars, cs) ds steps = ([], 0, 1) by unfold eX; rw [h1]; rfl)
   have Yw := qH (A8.bel.trans ((aB w44 (.cells #[] 28)).mono A8.bel.size))
   clear h1
   go_wp2_with fail
   refine bodyPost_ret (v := .tuple #[.slice (some ⟨w44.heap.size, 0, none⟩) 0 0, .int .i64 0, .int .i64 1]) (by simp [results, results167, go_sem]) rfl ⟨_, by rw [H1.out], by rw [H1.out]; exact JW (Nat.zero_le _), Yw.out⟩
 have HF := qH (Nk h1)
 have H1 := qH (show eX (size, rs) (vars, cs) ds steps = kW (size, rs) (vars, cs) steps 0 ds by unfold eX; rw [h1]; rfl)
 have hv1 := (aX HF.out.inst).2.1
 have hdl := HF.out.len
 have hdt := HF.out.ten
 simp only at hv1 hdl
 clear h1
 go_wp2_with fail
 refine (Ru ds _ _ (Rd.mono HP.out A8.bel) (by omega) HZ.out).mono ?_
 rintro e w46 ⟨v2, rfl, hac, DI⟩
 have abw : w44.heap.size ≤ w46.heap.size := hZ DI
 have rZ := A8.step DI
 clear aF aH aJ aK
 obtain ⟨aF, aH, aJ, aK⟩ := rZ.c4 0 0 0 1 1 0 1 1
 obtain ⟨g2, c2, rfl⟩ := Nl hac (by omega)
 have HW := qH (show vI w g2 c2 ds.length [(w.heap.size, #[.int .i64 size, .slice at0 rs.length ct0], 42), (w.heap.size + 1, #[.int .i64 vars, .slice ax cs.length cx], 46)] w46 ds from
  ⟨rZ.up rZ.hi (Nat.le_refl _), hac.ip.wk (fun z hz => by
   have h8 := hz.1
   (try simp at h8)
   refine ⟨by omega, fun x hx => ?_⟩
   simp at hx
   rcases hx with rfl | rfl <;> (simp only; omega))⟩)
 have HDO := qH (show FK ds.length ds from ⟨rfl, HZ.out⟩)
 have Tn := qH hdl
 clear hac hdl
 go_wp2_with fail
 go_loopw [12] (fun i wl => ∃ (k : Nat) (D : List (List Int)), k ≤ steps.length ∧ i = .int .i64 k ∧ Hid (vI w g2 c2 ds.length [(w.heap.size, #[.int .i64 size, .slice at0 rs.length ct0], 42), (w.heap.size + 1, #[.int .i64 vars, .slice ax cs.length cx], 46)] wl D) ∧ Hid (FK ds.length D) ∧ Hid (kW (size, rs) (vars, cs) steps 0 ds = kW (size, rs) (vars, cs) (steps.drop k) k D)) (fun i _ => steps.length - (intOf i).toNat)
 case atStart => exact ⟨0, ds, Nat.zero_le _, rfl, HW.out, HDO.out, rfl⟩
 clear HW HDO
 obtain ⟨k, D, hk, rfl, hw, hdo, hrun⟩ := hrel
 have hs1 := hw.out.st
 obtain ⟨aF, aH, aJ, aK⟩ := hs1.c4 0 0 0 1 1 0 1 1
 by_cases hlt : k < steps.length
 rotate_left
 · obtain rfl : k = steps.length := by omega
   have hnl : ¬ ((steps.length : Int) < steps.length) := by omega
   have H2 := qH (show eX (size, rs) (vars, cs) ds steps = (D, 0, 0) by rw [H1.out, hrun.out, List.drop_length]; rfl)
   have D8 := qH (show aQ w.heap.size wr [.slice (some ⟨g2, 0, none⟩) ds.length c2] D from hw.out.dom.fresh (fun z hz => hz.1))
   have lu := qH hw.out.bel
   go_wp2_with fail
   refine bodyPost_ret (v := .tuple #[.slice (some ⟨g2, 0, none⟩) ds.length c2, .int .i64 0, .int .i64 0]) (by simp [results, results167, go_sem]) rfl ⟨_, by rw [H2.out], by rw [H2.out]; exact D8.out, lu.out⟩
 have hkl : (k : Int) < steps.length := by omega
 obtain ⟨b, o, u0, u1, u2, rfl, p0, p1, p2, hy⟩ := gU rfl HSR.out k hlt
 have HDR := qH (DY (t := (size, rs)) (x := (vars, cs)) hlt k D)
 have hy0 := au rfl hy
 have hy1 := au rfl hy0.2
 obtain ⟨rfl, _⟩ := aG hy0.1
 obtain ⟨rfl, _⟩ := aG hy1.1
 obtain ⟨rfl, _⟩ := aG hy1.2
 clear hy hy0 hy1
 generalize hss : steps[k] = SS at *
 obtain ⟨va, aa, ka⟩ := SS
 simp only at p0 p1 p2
 clear hss
 have hlr := hdo.out.len
 clear aF aH aJ aK
 obtain ⟨aF, aH, aJ, aK⟩ := hs1.c4 0 0 0 1 1 0 1 1
 obtain ⟨pF, qx, FP⟩ := fQ hs1.bel p0 p1 p2
 go_wp2_with fail
 refine (VX (size, rs) (vars, cs) D va aa ka w.heap.size (w.heap.size + 1) b (o + k * 3) _ _ _ _ _ _ (Rd.mono HT.out hs1.bel) (Rd.mono HX.out hs1.bel) hw.out.rd HF.out.inst (by rw [hlr]; exact Tn.out) (hs1.c 0 1) (hs1.c 1 0) (hs1.c 1 1) (qC hs1.bel p0) (qC hs1.bel p1) (qC hs1.bel p2)).mono ?_
 rintro e w5 ⟨rfl, hb5⟩
 have SA := qH (hw.out.step hb5)
 cases hso : nT (size, rs) (vars, cs) D (va, aa, ka)
 · have H2 := qH (show eX (size, rs) (vars, cs) ds steps = ([], (k : Int), 8) by rw [H1.out, hrun.out, HDR.out, hso]; rfl)
   have lu := qH (SA.out.bel.trans ((aB w5 (.cells #[] 28)).mono SA.out.bel.size))
   clear hso hb5
   go_wp2_with fail
   refine bodyPost_ret (v := .tuple #[.slice (some ⟨w5.heap.size, 0, none⟩) 0 0, .int .i64 k, .int .i64 8]) (by simp [results, results167, go_sem]) rfl ⟨_, by rw [H2.out], by rw [H2.out]; exact JW (Nat.zero_le _), lu.out⟩
 obtain ⟨hva, hha⟩ := JM hso
 simp only at hva
 obtain ⟨vn, rfl⟩ : ∃ vn : Nat, va = (vn : Int) := ⟨va.toNat, by omega⟩
 rw [Int.toNat_natCast] at hha
 have hvn : vn < D.length := by have := Tn.out; omega
 have ajq : (vn : Int) < ds.length := by omega
 have atj : vn < ds.length := by omega
 have FC := qH (show D.getD vn [] = D[vn] by rw [List.getD, List.getElem?_eq_getElem hvn]; rfl)
 have pW := qH (show kW (size, rs) (vars, cs) steps 0 ds = kW (size, rs) (vars, cs) (steps.drop (k + 1)) (k + 1) (D.set vn (D[vn].filter (fun x => x != aa))) by
  rw [hrun.out, HDR.out, hso, ← FC.out]; rfl)
 have ajs := qH (show FK ds.length (D.set vn (D[vn].filter (fun x => x != aa))) by
  rw [← FC.out]
  exact XM (s := ((vn : Int), aa, ka)) hdo.out hvn)
 have hsm := hdo.out.small _ (List.getElem_mem hvn)
 rw [FC.out] at hha
 have hpos := SC hha
 have hs5 := SA.out.st
 obtain ⟨aE, cE, eE, hdE⟩ := ah SA.out.rd
 simp only [Value.slice.injEq, Option.some.injEq] at eE
 obtain ⟨rfl, ajt, rfl⟩ := eE
 obtain ⟨b6, o6, vd6, e6, qd6, VI⟩ := bF rfl hdE vn hvn
 simp only [Option.some.injEq, Addr.mk.injEq, and_true] at e6
 obtain ⟨rfl, rfl⟩ := e6
 obtain ⟨a7, c7, rfl, _⟩ := ah VI
 have aju := qH VI
 have QG := qH hsm
 have HVN := qH hvn
 have Pn := qH (show Below w5.heap.size w5 w5 from Below.refl _ _)
 clear ajt hdE VI hso hha hpos hsm hlr
 generalize D[vn] = D6 at *
 rw [Nat.zero_add] at qd6
 go_upto_region 9 with fail
 refine iT (fun w' => cI w' w.heap.size 0 size ∧ cV w' w.heap.size 1 (.slice at0 rs.length ct0) ∧ cI w' (w.heap.size + 1) 0 vars ∧ cV w' (w.heap.size + 1) 1 (.slice ax cs.length cx) ∧ cI w' b (o + k * 3) (vn : Int) ∧ cI w' b (o + k * 3 + 1) aa ∧ cI w' b (o + k * 3 + 2) ka ∧ cV w' g2 vn (.slice a7 D6.length c7)) (.z [0,1,2,3,4,5,6,7,8,9,10,11,12,13,14,15,16,17,18] (.hard 19 (.float 20 (.last 21 .nil)))) ?_ ?_
 · exact ⟨(hs5.drew).c 0 0, (hs5.drew).c 0 1, (hs5.drew).c 1 0, (hs5.drew).c 1 1, qC (hs5.drew).bel p0, qC (hs5.drew).bel p1, qC (hs5.drew).bel p2, qC (belowD _) qd6⟩
 have xC := hs5.drew
 have acz := qC (belowD _) qd6
 clear qd6
 have PK := qH (Pn.out.trans (((belowD _)).mono Pn.out.size))
 clear Pn
 have XH : w5.heap.size ≤ (w5.drew).heap.size := by simp
 generalize w5.drew = Vf at *
 refine aV ?_
 refine gX fun K hK => ?_
 go_wp2_with (go_at_call 222; refine (Pe D6 _ aa _ (Rd.mono aju.out PK.out) QG.out).mono ?_; rintro e w52 ⟨v6, rfl, hA6, Ju⟩)
 have aiK : Vf.heap.size ≤ w52.heap.size := hZ Ju
 have zl := xC.step Ju
 have ajU := qC Ju acz
 clear acz
 have acA := qH (PK.out.trans ((Ju).mono PK.out.size))
 clear PK
 obtain ⟨a8, c8, rfl, _⟩ := hA6.len
 have HF6 := qH hA6.fresh
 clear hA6
 refine ⟨⟨zl.c 0 0, zl.c 0 1, zl.c 1 0, zl.c 1 1, qC zl.bel p0, qC zl.bel p1, qC zl.bel p2, ajU⟩, ?_⟩
 refine aV ?_
 refine JY fun K hK => ?_
 obtain ⟨aF, aH, aJ, aK⟩ := zl.c4 0 0 0 1 1 0 1 1
 obtain ⟨pF, qx, FP⟩ := fQ zl.bel p0 p1 p2
 have HP := qH (SA.out.put acA.out (v := vn) HVN.out (aQ.lower HF6.out (by omega)))
 have f6 := (SA.out.step acA.out).free (by have := HVN.out; omega) vn
 go_wp2_with fail
 refine iF ?_
 go_wp2_with fail
 go_roundw
 case rel => exact ⟨k + 1, _, by omega, by go_num, HP.out, ajs.out, pW.out⟩
 simp [intOf]; omega
end Go.Proofs.YtoblfnoaepbhfaaGreat
