import Derived.Test.YtoblfnoaepbhfaaGreatPairBQz
set_option linter.unusedSimpArgs false
set_option linter.unusedVariables false
set_option maxHeartbeats 8000000
set_option maxRecDepth 100000
namespace Go.Proofs.YtoblfnoaepbhfaaGreat
open Go.Proofs.Tryz
open Go.RowKit Go.Shelf Go.IntWalk
open Rep (Rd Own sz)
theorem VF (sz V : Nat) (P : List bH) (i j k : Nat) (pb ob sb tb : Nat) (vp : Value) (w : World) (hp : Rd w [vp] P) (hok : nU sz V P) (hs : 1 ≤ (sz : Int) ∧ (sz : Int) ≤ 4) (hV : V ≤ 10) (hij : i < j) (hj : j < V) (hk : k < V) (hki : k ≠ i) (hkj : k ≠ j)
 (c0 : w.cell? ⟨pb, 0, none⟩ = some vp) (c1 : w.cell? ⟨ob, 0, none⟩ = some (.int .i64 (jk i j : Nat))) (c2 : w.cell? ⟨sb, 0, none⟩ = some (.int .i64 sz)) (c3 : w.cell? ⟨tb, 0, none⟩ = some (.int .i64 i)) (c4 : w.cell? ⟨tb, 1, none⟩ = some (.int .i64 j)) (c5 : w.cell? ⟨tb, 2, none⟩ = some (.int .i64 k)) :
 ai7 254 #[.pointer (some ⟨pb, 0, none⟩), .pointer (some ⟨ob, 0, none⟩), .pointer (some ⟨sb, 0, none⟩), .pointer (some ⟨tb, 0, none⟩)] w (sz : Int) 2 (fun y => jH (zy P i j) y && iP sz P i j k y) := by
 intro W y v hb hy hl hmem
 obtain ⟨g0, g1, g2, g3, g4, g5⟩ := uZ hb c0 c1 c2 c3 c4 c5
 have Ja := qH (hok.pairs hs hV)
 have HP := qH (Rd.mono hp hb)
 have HY := qH hy
 have hK : jk i j < P.length := by rw [hok.len]; exact uV hij hj
 have hinc := Ja.out.inc _ (List.getElem_mem hK)
 clear c0 c1 c2 c3 c4 c5 hp hb hmem hok
 show Calls prog 254 #[_, .pointer (some ⟨pb, 0, none⟩), .pointer (some ⟨ob, 0, none⟩), .pointer (some ⟨sb, 0, none⟩), .pointer (some ⟨tb, 0, none⟩)] W _
 obtain ⟨a0, n0, rfl, _⟩ := ah HP.out
 obtain ⟨g, o, u0, u1, rfl, q0, q1, hx⟩ := dL rfl HP.out _ hK
 have HO := qH (show zy P i j = P[jk i j].2 by unfold zy; rw [List.getD, List.getElem?_eq_getElem hK]; rfl)
 have HTY := qH (fun (c : Nat) (hc : c < sz) (h1 : iU P i k (y.getD 0 0) c = true) (h2 : iU P k j c (y.getD 1 0) = true) => show iP sz P i j k y = true by
  unfold iP
  rw [Int.toNat_natCast]
  exact G7 hc (by rw [h1, h2]; rfl))
 have HTN := qH (fun (h : ∀ c : Nat, c < sz → (iU P i k (y.getD 0 0) c && iU P k j c (y.getD 1 0)) = false) => show iP sz P i j k y = false by
  unfold iP
  rw [Int.toNat_natCast]
  exact G6 h)
 have hy0 : 0 < y.length := by omega
 have hy1 : 1 < y.length := by omega
 obtain ⟨ay, cy, rfl, _⟩ := ah HY.out
 obtain ⟨b1, o1, rfl, y0, I0⟩ := aI HY.out 0 hy0
 obtain ⟨b2, o2, e2, y1, I1⟩ := aI HY.out 1 hy1
 simp only [Option.some.injEq, Addr.mk.injEq, and_true] at e2
 obtain ⟨rfl, rfl⟩ := e2
 have hyI : (0 : Int) < y.length := by omega
 have hyJ : (1 : Int) < y.length := by omega
 rw [show y.getD 0 0 = y[0] by rw [List.getD, List.getElem?_eq_getElem hy0]; rfl, show y.getD 1 0 = y[1] by rw [List.getD, List.getElem?_eq_getElem hy1]; rfl] at HTY HTN
 rw [Nat.add_zero] at y0
 have HI0 := qH I0
 have HI1 := qH I1
 clear I0 I1 hy hl
 generalize y[0] = Y0 at *
 generalize y[1] = Y1 at *
 generalize hKK : jk i j = K at *
 generalize hR : P[K] = R at *
 obtain ⟨ar, tl⟩ := R
 have hxz := au rfl hx
 obtain ⟨rfl, _⟩ := aG hxz.1
 obtain ⟨a3, c3, rfl, _⟩ := ah hxz.2
 have HX := qH hx
 have RH := qH hinc
 simp only at HO
 clear hx hxz hinc hR hKK
 have hKl : (K : Int) < P.length := by omega
 have kH := qC (St.start W).bel g0
 clear kH
 obtain ⟨kH, lg⟩ := iQ (St.start W).bel g0 g1
 clear kH lg
 obtain ⟨kH, lg, JJ⟩ := fQ (St.start W).bel g0 g1 g2
 clear kH lg JJ
 obtain ⟨kH, lg, JJ, KL⟩ := jc (St.start W).bel g0 g1 g2 g3
 clear kH lg JJ KL
 obtain ⟨kH, lg, JJ, KL, Pv⟩ := zI (St.start W).bel g0 g1 g2 g3 g4
 clear kH lg JJ KL Pv
 obtain ⟨kH, lg, JJ, KL, Pv, Sv⟩ := uZ (St.start W).bel g0 g1 g2 g3 g4 g5
 clear kH lg JJ KL Pv Sv
 obtain ⟨kH, lg, JJ, KL, Pv, Sv, dW⟩ := JX (St.start W).bel g0 g1 g2 g3 g4 g5 q0
 clear kH lg JJ KL Pv Sv dW
 obtain ⟨kH, lg, JJ, KL, Pv, Sv, dW, dO⟩ := sN (St.start W).bel g0 g1 g2 g3 g4 g5 q0 q1
 clear kH lg JJ KL Pv Sv dW dO
 obtain ⟨kH, lg, JJ, KL, Pv, Sv, dW, dO⟩ := sN (St.start W).bel g0 g1 g2 g3 g4 g5 q0 q1
 have EP := qC (St.start W).bel y0
 clear kH lg JJ KL Pv Sv dW dO EP
 obtain ⟨kH, lg, JJ, KL, Pv, Sv, dW, dO⟩ := sN (St.start W).bel g0 g1 g2 g3 g4 g5 q0 q1
 obtain ⟨EP, Gn⟩ := iQ (St.start W).bel y0 y1
 go_enter func254, ntmps254
 go_wp2_with fail
 refine (XJ (ar, tl) y _ _ _ _ (Rd.mono HX.out (St.start W).bel) (Rd.mono HY.out (St.start W).bel) RH.out.1 RH.out.2).mono ?_
 rintro e w1 ⟨rfl, ab4⟩
 have afV : W.heap.size ≤ w1.heap.size := hZ ab4
 have hs2 := (St.start W).step ab4
 clear kH lg JJ KL Pv Sv dW dO EP Gn
 obtain ⟨kH, lg, JJ, KL, Pv, Sv, dW, dO⟩ := sN hs2.bel g0 g1 g2 g3 g4 g5 q0 q1
 obtain ⟨EP, Gn⟩ := iQ hs2.bel y0 y1
 cases hh : jH (ar, tl).2 y
 · have HQ := qH (show (jH (zy P i j) y && iP sz P i j k y) = false by rw [HO.out, hh]; rfl)
   clear hh
   go_wp2_with fail
   go_ret
   exact ⟨ak HQ.out.symm, hs2.bel⟩
 have HQ := qH (show (jH (zy P i j) y && iP sz P i j k y) = iP sz P i j k y by rw [HO.out, hh]; rfl)
 clear hh
 obtain ⟨wA, rfl⟩ : ∃ x, x = w1 := ⟨_, rfl⟩
 have Jp := qH hs2.bel
 go_wp2_with fail
 go_loopw [16] (fun iv wl => ∃ c : Nat, c ≤ sz ∧ iv = .int .i64 c ∧ Hid (Below wA.heap.size wA wl) ∧ Hid (∀ q : Nat, q < c → (iU P i k Y0 q && iU P k j q Y1) = false)) (fun iv _ => sz - (intOf iv).toNat)
 case atStart => exact ⟨0, Nat.zero_le _, rfl, Below.refl _ _, fun q hq => absurd hq (Nat.not_lt_zero _)⟩
 obtain ⟨c, hc, rfl, hbl, hr⟩ := hrel
 have hs2 := (St.start W).step (Jp.out.trans (hbl.out.mono Jp.out.size))
 obtain ⟨kH, lg, JJ, KL, Pv, Sv, dW, dO⟩ := sN hs2.bel g0 g1 g2 g3 g4 g5 q0 q1
 obtain ⟨EP, Gn⟩ := iQ hs2.bel y0 y1
 have HB := hbl
 by_cases hlt : c < sz
 rotate_left
 · obtain rfl : c = sz := by omega
   have hnl : ¬ ((c : Int) < c) := by omega
   have H8 := qH (show (jH (zy P i j) y && iP c P i j k y) = false by rw [HQ.out]; exact HTN.out hr.out)
   have lu := qH hs2.bel
   go_wp2_with fail
   go_ret
   exact ⟨ak H8.out.symm, lu.out⟩
 have hcI : (c : Int) < sz := by omega
 have pW := qH (fun (h : (iU P i k Y0 c && iU P k j c Y1) = false) => show ∀ q : Nat, q < c + 1 → (iU P i k Y0 q && iU P k j q Y1) = false from fun q hq => by
  rcases Nat.lt_or_ge q c with h1 | h1
  · exact hr.out q h1
  · obtain rfl : q = c := by omega
    exact h)
 have MW := qH (show I64 (c : Int) from jf _ (by omega) (by have := Ja.out.v10; omega))
 cases h1 : iU P i k Y0 c
 · have H9 := qH (pW.out (by rw [h1]; rfl))
   have HE := qH h1
   clear h1
   go_upto_region 6 with fail
   refine iT (fun w' => cV w' pb 0 (.slice (some ⟨g, o, none⟩) P.length n0) ∧ cI w' ob 0 K ∧ cI w' sb 0 sz ∧ cI w' tb 0 i ∧ cI w' tb 1 j ∧ cI w' tb 2 k ∧ cI w' g (o + K * 2) ar ∧ cV w' g (o + K * 2 + 1) (.slice a3 tl.length c3) ∧ cI w' b1 o1 Y0 ∧ cI w' b1 (o1 + 1) Y1) (.z [0,1,2,3,4,5,6,7,8] (.hard 9 (.z [10,11,12,13,14,15,16,17,18,19] (.hard 20 (.float 21 .nil))))) ?_ ?_
   · exact ⟨qC (hs2.drew).bel g0, qC (hs2.drew).bel g1, qC (hs2.drew).bel g2, qC (hs2.drew).bel g3, qC (hs2.drew).bel g4, qC (hs2.drew).bel g5, qC (hs2.drew).bel q0, qC (hs2.drew).bel q1, qC (hs2.drew).bel y0, qC (hs2.drew).bel y1⟩
   have hs3 := hs2.drew
   have VG := qH (HB.out.trans (((belowD _)).mono HB.out.size))
   clear HB
   clear kH lg JJ KL Pv Sv dW dO EP Gn
   have OU : wr.heap.size ≤ (wr.drew).heap.size := by simp
   generalize wr.drew = GY at *
   refine aV ?_
   refine gX fun K hK => ?_
   go_wp2_with (go_at_call 130; refine (Af sz V P i k Y0 c _ _ (Rd.mono HP.out hs3.bel) Ja.out (by omega) (by omega) (by omega) HI0.out MW.out).mono ?_; rintro e w6 ⟨rfl, ajh⟩)
   have av2 : GY.heap.size ≤ w6.heap.size := hZ ajh
   have hs7 := hs3.step ajh
   have aji := qH (VG.out.trans ((ajh).mono VG.out.size))
   clear VG
   rw [HE.out]
   refine ⟨⟨qC hs7.bel g0, qC hs7.bel g1, qC hs7.bel g2, qC hs7.bel g3, qC hs7.bel g4, qC hs7.bel g5, qC hs7.bel q0, qC hs7.bel q1, qC hs7.bel y0, qC hs7.bel y1⟩, ?_⟩
   refine aV ?_
   refine eG rfl (by rfl) ?_ ?_
   · exact ⟨qC hs7.bel g0, qC hs7.bel g1, qC hs7.bel g2, qC hs7.bel g3, qC hs7.bel g4, qC hs7.bel g5, qC hs7.bel q0, qC hs7.bel q1, qC hs7.bel y0, qC hs7.bel y1⟩
   (try simp only [Act.put, sI, sZ, sS])
   refine aV ?_
   obtain ⟨kH, lg, JJ, KL, Pv, Sv, dW, dO⟩ := sN hs7.bel g0 g1 g2 g3 g4 g5 q0 q1
   obtain ⟨EP, Gn⟩ := iQ hs7.bel y0 y1
   refine iF ?_
   go_wp2_with fail
   go_roundw
   case rel => exact ⟨c + 1, by omega, by go_num, aji.out, H9.out⟩
   simp [intOf]; omega
 have HE := qH h1
 cases h2 : iU P k j c Y1
 · have H9 := qH (pW.out (by rw [h1, h2]; rfl))
   have HF := qH h2
   clear h1 h2
   go_upto_region 6 with fail
   refine iT (fun w' => cV w' pb 0 (.slice (some ⟨g, o, none⟩) P.length n0) ∧ cI w' ob 0 K ∧ cI w' sb 0 sz ∧ cI w' tb 0 i ∧ cI w' tb 1 j ∧ cI w' tb 2 k ∧ cI w' g (o + K * 2) ar ∧ cV w' g (o + K * 2 + 1) (.slice a3 tl.length c3) ∧ cI w' b1 o1 Y0 ∧ cI w' b1 (o1 + 1) Y1) (.z [0,1,2,3,4,5,6,7,8] (.hard 9 (.z [10,11,12,13,14,15,16,17,18,19] (.hard 20 (.float 21 .nil))))) ?_ ?_
   · exact ⟨qC (hs2.drew).bel g0, qC (hs2.drew).bel g1, qC (hs2.drew).bel g2, qC (hs2.drew).bel g3, qC (hs2.drew).bel g4, qC (hs2.drew).bel g5, qC (hs2.drew).bel q0, qC (hs2.drew).bel q1, qC (hs2.drew).bel y0, qC (hs2.drew).bel y1⟩
   have hs9 := hs2.drew
   have ab5 := qH (HB.out.trans (((belowD _)).mono HB.out.size))
   clear HB
   clear kH lg JJ KL Pv Sv dW dO EP Gn
   have ao2 : wr.heap.size ≤ (wr.drew).heap.size := by simp
   generalize wr.drew = asY at *
   refine aV ?_
   refine gX fun K hK => ?_
   go_wp2_with (go_at_call 130; refine (Af sz V P i k Y0 c _ _ (Rd.mono HP.out hs9.bel) Ja.out (by omega) (by omega) (by omega) HI0.out MW.out).mono ?_; rintro e w12 ⟨rfl, uN⟩)
   have Us : asY.heap.size ≤ w12.heap.size := hZ uN
   have fV := hs9.step uN
   have RS := qH (ab5.out.trans ((uN).mono ab5.out.size))
   clear ab5
   rw [HE.out]
   refine ⟨⟨qC fV.bel g0, qC fV.bel g1, qC fV.bel g2, qC fV.bel g3, qC fV.bel g4, qC fV.bel g5, qC fV.bel q0, qC fV.bel q1, qC fV.bel y0, qC fV.bel y1⟩, ?_⟩
   refine aV ?_
   refine gX fun K hK => ?_
   go_wp2_with (go_at_call 130; refine (Af sz V P k j c Y1 _ _ (Rd.mono HP.out fV.bel) Ja.out (by omega) (by omega) (by omega) MW.out HI1.out).mono ?_; rintro e w15 ⟨rfl, yZ⟩)
   have Va : w12.heap.size ≤ w15.heap.size := hZ yZ
   have qW := fV.step yZ
   have anc := qH (RS.out.trans ((yZ).mono RS.out.size))
   clear RS
   rw [HF.out]
   refine ⟨⟨qC qW.bel g0, qC qW.bel g1, qC qW.bel g2, qC qW.bel g3, qC qW.bel g4, qC qW.bel g5, qC qW.bel q0, qC qW.bel q1, qC qW.bel y0, qC qW.bel y1⟩, ?_⟩
   refine aV ?_
   obtain ⟨kH, lg, JJ, KL, Pv, Sv, dW, dO⟩ := sN qW.bel g0 g1 g2 g3 g4 g5 q0 q1
   obtain ⟨EP, Gn⟩ := iQ qW.bel y0 y1
   refine iF ?_
   go_wp2_with fail
   go_roundw
   case rel => exact ⟨c + 1, by omega, by go_num, anc.out, H9.out⟩
   simp [intOf]; omega
 have H9 := qH (HTY.out c hlt h1 h2)
 have H8 := qH (show (jH (zy P i j) y && iP sz P i j k y) = true by rw [HQ.out, H9.out])
 have HF := qH h2
 clear h1 h2
 go_upto_region 6 with fail
 refine iT (fun w' => cV w' pb 0 (.slice (some ⟨g, o, none⟩) P.length n0) ∧ cI w' ob 0 K ∧ cI w' sb 0 sz ∧ cI w' tb 0 i ∧ cI w' tb 1 j ∧ cI w' tb 2 k ∧ cI w' g (o + K * 2) ar ∧ cV w' g (o + K * 2 + 1) (.slice a3 tl.length c3) ∧ cI w' b1 o1 Y0 ∧ cI w' b1 (o1 + 1) Y1) (.z [0,1,2,3,4,5,6,7,8] (.hard 9 (.z [10,11,12,13,14,15,16,17,18,19] (.hard 20 (.float 21 .nil))))) ?_ ?_
 · exact ⟨qC (hs2.drew).bel g0, qC (hs2.drew).bel g1, qC (hs2.drew).bel g2, qC (hs2.drew).bel g3, qC (hs2.drew).bel g4, qC (hs2.drew).bel g5, qC (hs2.drew).bel q0, qC (hs2.drew).bel q1, qC (hs2.drew).bel y0, qC (hs2.drew).bel y1⟩
 have jP := hs2.drew
 have RQ := qH (HB.out.trans (((belowD _)).mono HB.out.size))
 clear HB
 clear kH lg JJ KL Pv Sv dW dO EP Gn
 have aeY : wr.heap.size ≤ (wr.drew).heap.size := by simp
 generalize wr.drew = am7 at *
 refine aV ?_
 refine gX fun K hK => ?_
 go_wp2_with (go_at_call 130; refine (Af sz V P i k Y0 c _ _ (Rd.mono HP.out jP.bel) Ja.out (by omega) (by omega) (by omega) HI0.out MW.out).mono ?_; rintro e w21 ⟨rfl, Ns⟩)
 have ajj : am7.heap.size ≤ w21.heap.size := hZ Ns
 have je := jP.step Ns
 have ane := qH (RQ.out.trans ((Ns).mono RQ.out.size))
 clear RQ
 rw [HE.out]
 refine ⟨⟨qC je.bel g0, qC je.bel g1, qC je.bel g2, qC je.bel g3, qC je.bel g4, qC je.bel g5, qC je.bel q0, qC je.bel q1, qC je.bel y0, qC je.bel y1⟩, ?_⟩
 refine aV ?_
 refine gX fun K hK => ?_
 go_wp2_with (go_at_call 130; refine (Af sz V P k j c Y1 _ _ (Rd.mono HP.out je.bel) Ja.out (by omega) (by omega) (by omega) MW.out HI1.out).mono ?_; rintro e w24 ⟨rfl, agp⟩)
 have asZ : w21.heap.size ≤ w24.heap.size := hZ agp
 have qR := je.step agp
 clear ane
 rw [HF.out]
 refine ⟨⟨qC qR.bel g0, qC qR.bel g1, qC qR.bel g2, qC qR.bel g3, qC qR.bel g4, qC qR.bel g5, qC qR.bel q0, qC qR.bel q1, qC qR.bel y0, qC qR.bel y1⟩, ?_⟩
 refine aV ?_
 obtain ⟨kH, lg, JJ, KL, Pv, Sv, dW, dO⟩ := sN qR.bel g0 g1 g2 g3 g4 g5 q0 q1
 obtain ⟨EP, Gn⟩ := iQ qR.bel y0 y1
 refine iF ?_
 go_wp2_with fail
 go_ret
 exact ⟨ak H8.out.symm, qR.bel⟩
theorem ab6 (size : Int) (V : Nat) (P : List bH) (i j k : Nat) (vp : Value) (A : Nat → Prop) (w : World) (hI : Ip A w [vp] P) (hok : nU size V P) (hs : 1 ≤ size ∧ size ≤ 4) (hV : V ≤ 10) (hij : i < j) (hj : j < V) (hk : k < V) (hki : k ≠ i) (hkj : k ≠ j) :
 Calls prog 125 #[.int .i64 size, vp, .agg #[.int .i64 i, .int .i64 j, .int .i64 k]] w fun e w' => e = .returned (.bool (uX size P i j k)) ∧ Ip (fun z => A z ∨ w.heap.size ≤ z) w' [vp] (oC size P i j k) ∧ nN (fun z => vp.ownBlock = some z) w w' := by
 obtain ⟨n, rfl⟩ : ∃ n : Nat, size = (n : Int) := ⟨size.toNat, by omega⟩
 have hK : jk i j < P.length := by rw [hok.len]; exact uV hij hj
 obtain ⟨g, o, c, cur, e0, rfl, _, _, hh, hAg, _⟩ := vP hI (by omega)
 obtain ⟨g', o', u0, u1, eg', q0, q1, hx⟩ := dL rfl hI.rd _ hK
 simp only [Option.some.injEq, Addr.mk.injEq, and_true] at eg'
 obtain ⟨rfl, rfl⟩ := eg'
 have TY := JI hs
 have HI := qH hI
 have HP := qH hI.rd
 have HSQ := qH TY.2.2.1
 have anf := TY.2.1
 have HCT := qH (abZ (k := k) hok hij hj)
 have QG := qH (fun h => Sl (k := k) hok hij hj h)
 have HO := qH (show zy P i j = P[jk i j].2 by unfold zy; rw [List.getD, List.getElem?_eq_getElem hK]; rfl)
 have HGB := qH (show uX n P i j k = decide ((qX n P i j k).length < P[jk i j].2.length) by unfold uX; rw [HO.out])
 have HNP := qH (show oC n P i j k = P.set (jk i j) (2, qX n P i j k) from rfl)
 have HLE := qH (show (qX n P i j k).length ≤ P[jk i j].2.length by rw [← HO.out]; exact List.length_filter_le _ _)
 have HHH := qH hh
 have CO := qH (fun (pb ob sb tb : Nat) (W : World) (hp : Rd W [.slice (some ⟨g, o, none⟩) P.length c] P) => VF n V P i j k pb ob sb tb _ W hp hok hs hV hij hj hk hki hkj)
 have hK9 : jk i j ≤ 1000 := by
  have h1 := G8 hV
  have h2 := uV hij hj
  omega
 have hVj : j ≤ 9 := by omega
 have ajk := (Array.getElem?_eq_some_iff.1 hh).1
 have eg : ∀ args w, (callFunc 254 args).run prog w = .ok (.enter 254 args) w := enters_of func254 (by kernel_rfl) rfl
 have HPI := qH (fun w => Ae i j w hij hVj)
 clear hI hok TY hh hAg HO
 generalize jk i j = K at *
 generalize P[K] = R at *
 obtain ⟨ar, tl⟩ := R
 have hxz := au rfl hx
 obtain ⟨rfl, _⟩ := aG hxz.1
 obtain ⟨a3, c3, rfl, _⟩ := ah hxz.2
 clear hx hxz
 have hKl : (K : Int) < P.length := by omega
 have dW := qC (St.start w).bel q0
 clear dW
 obtain ⟨dW, dO⟩ := iQ (St.start w).bel q0 q1
 have lZ := (St.start w).alloc #[.int .i64 n] 2 (n := w.heap.size) (by simp)
 clear dW dO
 have yN := lZ.alloc #[.slice (some ⟨g, o, none⟩) P.length c] 40 (n := w.heap.size + 1) (by simp)
 have pz := yN.alloc #[.int .i64 i, .int .i64 j, .int .i64 k] 169 (n := w.heap.size + 1 + 1) (by simp)
 obtain ⟨aF, aJ, aW, aY, bn⟩ := pz.c5 0 0 1 0 2 0 2 1 2 2
 obtain ⟨dW, dO⟩ := iQ pz.bel q0 q1
 go_enter func125, ntmps125
 go_wp2_with fail
 refine (HPI.out _).mono ?_
 rintro e w30 ⟨rfl, rfl, rfl⟩
 have kM := pz.alloc #[.int .i64 K] 2 (n := w.heap.size + 1 + 1 + 1) (by simp)
 clear aF aJ aW aY bn dW dO
 obtain ⟨aF, aJ, aW, aY, bn, dM⟩ := kM.c6 0 0 1 0 2 0 2 1 2 2 3 0
 obtain ⟨dW, dO⟩ := iQ kM.bel q0 q1
 go_wp2_with fail
 refine (XL n 2 254 _ _ (CG n) _ (by omega) (by omega) (by omega) HSQ.out (by omega) eg (CO.out (w.heap.size + 1) (w.heap.size + 1 + 1 + 1) (w.heap.size) (w.heap.size + 1 + 1) _ (Rd.mono HP.out kM.bel) (kM.c 1 0) (kM.c 3 0) (kM.c 0 0) (kM.c 2 0) (kM.c 2 1) (kM.c 2 2))).mono ?_
 rintro e w5 ⟨v5, rfl, Qo, hb5⟩
 rw [HCT.out] at Qo
 obtain ⟨a5, c5, rfl, _⟩ := ah Qo.rd
 have HF5 := qH Qo
 have Fz : w.heap.size + 1 + 1 + 1 + 1 ≤ w5.heap.size := hZ hb5
 have rW := kM.step hb5
 clear aF aJ aW aY bn dM dW dO
 clear Qo hb5
 have vF := rW.alloc #[.int .i64 2, .slice a5 (qX n P i j k).length c5] 118 (n := w5.heap.size) (by simp)
 have VH := qH (aQ.mono HF5.out (aB _ (.cells #[.int .i64 2, .slice a5 (qX n P i j k).length c5] 118)))
 clear HF5
 obtain ⟨aF, aJ, aW, aY, bn, dM, nP, qQ⟩ := vF.c8 0 0 1 0 2 0 2 1 2 2 3 0 4 0 4 1
 obtain ⟨dW, dO⟩ := iQ vF.bel q0 q1
 by_cases hg : (qX n P i j k).length < tl.length
 · have FC := qH (show uX n P i j k = true by rw [HGB.out]; exact decide_eq_true hg)
   have hbe : (((qX n P i j k).length : Int) == (tl.length : Int)) = false := by rw [beq_eq_false_iff_ne]; omega
   clear hg
   go_upto_region 3 with fail
   refine iT (fun w' => cI w' w.heap.size 0 n ∧ cV w' (w.heap.size + 1) 0 (.slice (some ⟨g, o, none⟩) P.length c) ∧ cI w' (w.heap.size + 1 + 1) 0 i ∧ cI w' (w.heap.size + 1 + 1) 1 j ∧ cI w' (w.heap.size + 1 + 1) 2 k ∧ cI w' (w.heap.size + 1 + 1 + 1) 0 K ∧ cI w' w5.heap.size 0 2 ∧ cV w' w5.heap.size 1 (.slice a5 (qX n P i j k).length c5) ∧ cI w' g (o + K * 2) ar ∧ cV w' g (o + K * 2 + 1) (.slice a3 tl.length c3)) (.z [0,1,2,3,4,5,6,7,8,9] .nil) ?_ ?_
   · exact (vF.drew).d8 0 0 1 0 2 0 2 1 2 2 3 0 4 0 4 1 (iQ (vF.drew).bel q0 q1:)
   have iY := vF.drew
   have ajl := qH (aQ.mono VH.out (belowD _))
   clear VH
   clear aF aJ aW aY bn dM nP qQ dW dO
   have ao4 : w5.heap.size + 1 ≤ ((w5.alloc (.cells #[.int .i64 2, .slice a5 (qX n P i j k).length c5] 118)).drew).heap.size := by simp
   generalize (w5.alloc (.cells #[.int .i64 2, .slice a5 (qX n P i j k).length c5] 118)).drew = ajm at *
   refine aV ?_
   obtain ⟨aF, aJ, aW, aY, bn, dM, nP, qQ⟩ := iY.c8 0 0 1 0 2 0 2 1 2 2 3 0 4 0 4 1
   obtain ⟨dW, dO⟩ := iQ iY.bel q0 q1
   have HGH := qH (((iY.bel).block g ajk).trans HHH.out)
   have HIW := qH (HI.out.tight.mono iY.bel)
   have HI2 := qH (Pq (jf 2 (by decide) (by decide)) (Ip.wk (aQ.ip ajl.out) (B := fun z => w.heap.size ≤ z) (fun z hz => by have := hz.1; (try simp at this); omega)))
   have Yq := qH (ajg HIW.out K hK HI2.out (fun z h1 h2 => by have h3 := h1.2; omega))
   have HBW := qH ((nN.of (A := fun z => (Value.slice (some ⟨g, o, none⟩) P.length c).ownBlock = some z) iY.bel).trans (Sm ajm g (o + K * 2) (o + K * 2 + 1) (.int .i64 2) (.slice a5 (qX n P i j k).length c5) (vp := .slice (some ⟨g, o, none⟩) P.length c) rfl) (fun z hz => .inl hz))
   have f0 : ajm.frozen? ⟨g, o + K * 2, none⟩ = false := aO HGH.out
   have f1 : ajm.frozen? ⟨g, o + K * 2 + 1, none⟩ = false := aO HGH.out
   refine iF ?_
   go_wp2_with fail
   go_ret
   exact ⟨ak FC.out.symm, by rw [HNP.out]; exact Yq.out.wk (fun z hz => hz.imp (fun h => h.1) id), HBW.out⟩
 have FC := qH (show uX n P i j k = false by rw [HGB.out]; exact decide_eq_false hg)
 have hbe : (((qX n P i j k).length : Int) == (tl.length : Int)) = true := by rw [beq_iff_eq]; have := HLE.out; omega
 clear hg
 go_upto_region 3 with fail
 refine iT (fun w' => cI w' w.heap.size 0 n ∧ cV w' (w.heap.size + 1) 0 (.slice (some ⟨g, o, none⟩) P.length c) ∧ cI w' (w.heap.size + 1 + 1) 0 i ∧ cI w' (w.heap.size + 1 + 1) 1 j ∧ cI w' (w.heap.size + 1 + 1) 2 k ∧ cI w' (w.heap.size + 1 + 1 + 1) 0 K ∧ cI w' w5.heap.size 0 2 ∧ cV w' w5.heap.size 1 (.slice a5 (qX n P i j k).length c5) ∧ cI w' g (o + K * 2) ar ∧ cV w' g (o + K * 2 + 1) (.slice a3 tl.length c3)) (.z [0,1,2,3,4,5,6,7,8,9] .nil) ?_ ?_
 · exact (vF.drew).d8 0 0 1 0 2 0 2 1 2 2 3 0 4 0 4 1 (iQ (vF.drew).bel q0 q1:)
 have l7 := vF.drew
 clear VH
 clear aF aJ aW aY bn dM nP qQ dW dO
 have ao5 : w5.heap.size + 1 ≤ ((w5.alloc (.cells #[.int .i64 2, .slice a5 (qX n P i j k).length c5] 118)).drew).heap.size := by simp
 generalize (w5.alloc (.cells #[.int .i64 2, .slice a5 (qX n P i j k).length c5] 118)).drew = ayM at *
 refine aV ?_
 obtain ⟨aF, aJ, aW, aY, bn, dM, nP, qQ⟩ := l7.c8 0 0 1 0 2 0 2 1 2 2 3 0 4 0 4 1
 obtain ⟨dW, dO⟩ := iQ l7.bel q0 q1
 have HIW := qH (HI.out.mono l7.bel)
 have lu := qH l7.bel
 refine iF ?_
 go_wp2_with fail
 go_ret
 exact ⟨ak FC.out.symm, by rw [QG.out FC.out]; exact HIW.out.wk (fun z hz => .inl hz), nN.of lu.out⟩
end Go.Proofs.YtoblfnoaepbhfaaGreat
