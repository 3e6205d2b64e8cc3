import Derived.Test.YtoblfnoaepbhfaaGreatKindsQz
import Derived.Test.YtoblfnoaepbhfaaGreatVerSQz
set_option linter.unusedSimpArgs false
set_option linter.unusedVariables false
set_option maxHeartbeats 2000000
set_option maxRecDepth 100000
namespace Go.Proofs.YtoblfnoaepbhfaaGreat
open Go.Proofs.Tryz
open Go.RowKit Go.Shelf
open Rep (Rd Own sz)
theorem CJ (x0 : dB) (v00 v01 : Value) (x1 : Inst) (v10 v11 : Value) (x2 : oW) (v20 v21 v22 v23 v24 : Value) (w : World) (h0 : Rd w [v00, v01] x0) (h1 : Rd w [v10, v11] x1) (h2 : Rd w [v20, v21, v22, v23, v24] x2) :
 Calls prog 6 #[.agg #[v00, v01], .agg #[v10, v11], .agg #[v20, v21, v22, v23, v24]] w fun e w' => e = .returned (.bool true) ∧ Below w.heap.size w w' := by
 obtain ⟨x00, x01⟩ := x0
 have z00 := au rfl h0
 obtain ⟨rfl, _⟩ := aG z00.1
 obtain ⟨a01, c01, rfl, _⟩ := ah z00.2
 clear z00
 have H0 := qH h0
 clear h0
 obtain ⟨x10, x11⟩ := x1
 have z10 := au rfl h1
 obtain ⟨rfl, _⟩ := aG z10.1
 obtain ⟨a11, c11, rfl, _⟩ := ah z10.2
 clear z10
 have H1 := qH h1
 clear h1
 obtain ⟨x20, x21, Gt, x23, x24⟩ := x2
 have z20 := au rfl h2
 obtain ⟨rfl, _⟩ := aG z20.1
 have z21 := au rfl z20.2
 obtain ⟨a21, c21, rfl, _⟩ := ah z21.1
 have z22 := au rfl z21.2
 obtain ⟨a22, c22, rfl, _⟩ := ah z22.1
 have z23 := au rfl z22.2
 obtain ⟨a23, c23, rfl, _⟩ := ah z23.1
 obtain ⟨a24, c24, rfl, _⟩ := ah z23.2
 clear z20 z21 z22 z23
 have H2 := qH h2
 clear h2
 have hs := (((St.start w).alloc #[.int .i64 x00, .slice a01 x01.length c01] 24 rfl).alloc #[.int .i64 x10, .slice a11 x11.length c11] 27 (n := w.heap.size + 1) (by simp)).alloc #[.int .i64 x20, .slice a21 x21.length c21, .slice a22 Gt.length c22, .slice a23 x23.length c23, .slice a24 x24.length c24] 71 (n := w.heap.size + 1 + 1) (by simp)
 go_enter func6, ntmps6
 go_wp2_with fail
 refine (NH (x00, x01) _ _ (1048576) _ (Rd.mono H0.out hs.bel) (by omega) (by omega)).mono ?_
 rintro e w1 ⟨rfl, hb1⟩
 have hss := hs.step hb1
 rcases iC (1048576) (fE (x00, x01)) with ⟨e1, g0⟩ | ⟨e1, g0⟩
 · rw [e1]
   clear e1
   go_wp2_with fail
   go_ret
   exact ⟨rfl, hss.bel⟩
 rw [e1]
 clear e1
 obtain ⟨xO, xP, xQ, xR, xU, xW, xX, xY⟩ := hss.c8 0 0 0 1 1 0 1 1 2 0 2 1 2 2 2 3
 have xZ := hss.c 2 4
 go_wp2_with fail
 refine (NI (x10, x11) _ _ (1048576 - (fE (x00, x01))) _ (Rd.mono H1.out hss.bel) (by omega) (by omega)).mono ?_
 rintro e w2 ⟨rfl, hb2⟩
 have Gq := hss.step hb2
 rcases iC (1048576 - (fE (x00, x01))) (iw (x10, x11)) with ⟨e1, g1⟩ | ⟨e1, g1⟩
 · rw [e1]
   clear e1
   go_wp2_with fail
   go_ret
   exact ⟨rfl, Gq.bel⟩
 rw [e1]
 clear e1
 clear xO xP xQ xR xU xW xX xY xZ
 obtain ⟨xO, xP, xQ, xR, xU, xW, xX, xY⟩ := Gq.c8 0 0 0 1 1 0 1 1 2 0 2 1 2 2 2 3
 have xZ := Gq.c 2 4
 go_wp2_with fail
 refine (Qb (x20, x21, Gt, x23, x24) _ _ _ _ _ (1048576 - (fE (x00, x01)) - (iw (x10, x11))) _ (Rd.mono H2.out Gq.bel) (by omega) (by omega)).mono ?_
 rintro e w3 ⟨rfl, hb3⟩
 have xM := Gq.step hb3
 rcases iC (1048576 - (fE (x00, x01)) - (iw (x10, x11))) (dU (x20, x21, Gt, x23, x24)) with ⟨e1, g2⟩ | ⟨e1, g2⟩
 · rw [e1]
   clear e1
   go_wp2_with fail
   go_ret
   exact ⟨rfl, xM.bel⟩
 rw [e1]
 clear e1
 clear xO xP xQ xR xU xW xX xY xZ
 obtain ⟨xO, xP, xQ, xR, xU, xW, xX, xY⟩ := xM.c8 0 0 0 1 1 0 1 1 2 0 2 1 2 2 2 3
 have xZ := xM.c 2 4
 have uU : fE (x00, x01) ≤ 1048576 := by omega
 have vG : iw (x10, x11) ≤ 1048576 := by omega
 have gc2 : dU (x20, x21, Gt, x23, x24) ≤ 1048576 := by omega
 go_wp2_with fail
 refine BG (fun w' => cI w' w.heap.size 0 x00 ∧ cV w' w.heap.size 1 (.slice a01 x01.length c01) ∧ cI w' (w.heap.size + 1) 0 x10 ∧ cV w' (w.heap.size + 1) 1 (.slice a11 x11.length c11) ∧ cI w' (w.heap.size + 1 + 1) 0 x20 ∧ cV w' (w.heap.size + 1 + 1) 1 (.slice a21 x21.length c21) ∧ cV w' (w.heap.size + 1 + 1) 2 (.slice a22 Gt.length c22) ∧ cV w' (w.heap.size + 1 + 1) 3 (.slice a23 x23.length c23) ∧ cV w' (w.heap.size + 1 + 1) 4 (.slice a24 x24.length c24)) [(0, 0), (2, 0), (4, 0), (1, 1), (3, 1), (5, 1), (6, 1), (7, 0), (8, 0), (9, 0), (10, 0), (11, 0)] ?_ ?_
 · exact ⟨(xM.drew).c 0 0, (xM.drew).c8 0 1 1 0 1 1 2 0 2 1 2 2 2 3 2 4⟩
 have hQ0 := xM.drew
 refine nH ?_
 refine wU fun K hK => ?_
 go_wp2_with (go_at_call 12; refine (yx (x00, x01) _ _ _ (Rd.mono H0.out hQ0.bel) uU).mono ?_; rintro e w4 ⟨azm, azn, rfl, anO, hb4⟩)
 have hQ1 := hQ0.step hb4
 have ajW := anO.rd
 have ajX := au rfl ajW
 obtain ⟨rfl, _⟩ := aG ajX.1
 obtain ⟨azo, azp, rfl, _⟩ := ah ajX.2
 clear ajX
 have Rs0 := qH ajW
 clear ajW anO
 refine ⟨⟨hQ1.c 0 0, hQ1.c8 0 1 1 0 1 1 2 0 2 1 2 2 2 3 2 4⟩, ?_⟩
 refine nH ?_
 refine wU fun K hK => ?_
 go_wp2_with (go_at_call 13; refine (yA (x10, x11) _ _ _ (Rd.mono H1.out hQ1.bel) vG).mono ?_; rintro e w5 ⟨azq, azr, rfl, anP, hb5⟩)
 have anQ := qH (Rd.mono Rs0.out hb5)
 clear Rs0
 have hQ2 := hQ1.step hb5
 have ajY := anP.rd
 have ajZ := au rfl ajY
 obtain ⟨rfl, _⟩ := aG ajZ.1
 obtain ⟨azs, azt, rfl, _⟩ := ah ajZ.2
 clear ajZ
 have Rs1 := qH ajY
 clear ajY anP
 refine ⟨⟨hQ2.c 0 0, hQ2.c8 0 1 1 0 1 1 2 0 2 1 2 2 2 3 2 4⟩, ?_⟩
 refine nH ?_
 refine wU fun K hK => ?_
 go_wp2_with (go_at_call 34; refine (zJ (x20, x21, Gt, x23, x24) _ _ _ _ _ _ (Rd.mono H2.out hQ2.bel) gc2).mono ?_; rintro e w6 ⟨azu, azv, azw, azx, azy, rfl, anR, hb6⟩)
 have agC := qH (Rd.mono anQ.out hb6)
 clear anQ
 have anS := qH (Rd.mono Rs1.out hb6)
 clear Rs1
 have hQ3 := hQ2.step hb6
 have aj0 := anR.rd
 have aj1 := au rfl aj0
 obtain ⟨rfl, _⟩ := aG aj1.1
 have aj2 := au rfl aj1.2
 obtain ⟨azz, azA, rfl, _⟩ := ah aj2.1
 have aj3 := au rfl aj2.2
 obtain ⟨azB, azC, rfl, _⟩ := ah aj3.1
 have aj6 := au rfl aj3.2
 obtain ⟨as23, azD, rfl, _⟩ := ah aj6.1
 obtain ⟨azE, azF, rfl, _⟩ := ah aj6.2
 clear aj1 aj2 aj3 aj6
 have Rs2 := qH aj0
 clear aj0 anR
 refine ⟨⟨hQ3.c 0 0, hQ3.c8 0 1 1 0 1 1 2 0 2 1 2 2 2 3 2 4⟩, ?_⟩
 refine nH ?_
 refine wU fun K hK => ?_
 go_wp2_with (go_at_call 33; refine (PL (x00, x01) _ _ (x10, x11) _ _ (x20, x21, Gt, x23, x24) _ _ _ _ _ _ agC.out anS.out Rs2.out (by have h := gc2; unfold dU fD at h; simp only at h ⊢; omega) (by have h := gc2; unfold dU gy at h; simp only at h ⊢; omega)).mono ?_; rintro e w7 ⟨rfl, hb7⟩)
 clear agC
 clear anS
 clear Rs2
 have hQ4 := hQ3.step hb7
 refine ⟨⟨hQ4.c 0 0, hQ4.c8 0 1 1 0 1 1 2 0 2 1 2 2 2 3 2 4⟩, ?_⟩
 refine nH ?_
 refine elN ?_
 clear xO xP xQ xR xU xW xX xY xZ
 obtain ⟨xO, xP, xQ, xR, xU, xW, xX, xY⟩ := hQ4.c8 0 0 0 1 1 0 1 1 2 0 2 1 2 2 2 3
 have xZ := hQ4.c 2 4
 go_wp2_with fail
 refine (yx (x00, x01) _ _ _ (Rd.mono H0.out hQ4.bel) uU).mono ?_
 rintro e w8 ⟨azG, azH, rfl, anT, hb8⟩
 have hQ5 := hQ4.step hb8
 have aj7 := anT.rd
 have aj8 := au rfl aj7
 obtain ⟨rfl, _⟩ := aG aj8.1
 obtain ⟨acD, acE, rfl, _⟩ := ah aj8.2
 clear aj8
 have Rx0 := qH aj7
 clear aj7 anT
 clear xO xP xQ xR xU xW xX xY xZ
 have hz0 := hQ5.hi
 have hQ6 := hQ5.alloc #[.int .i64 x00, .slice acD x01.length acE] 42 rfl
 have anU := qH (Rd.mono Rx0.out (aB _ (.cells #[.int .i64 x00, .slice acD x01.length acE] 42)))
 clear Rx0
 obtain ⟨xO, xP, xQ, xR, xU, xW, xX, xY⟩ := hQ6.c8 0 0 0 1 1 0 1 1 2 0 2 1 2 2 2 3
 obtain ⟨xZ, Gu, Gv⟩ := hQ6.c3 2 4 3 0 3 1
 go_wp2_with fail
 refine (yA (x10, x11) _ _ _ (Rd.mono H1.out hQ6.bel) vG).mono ?_
 rintro e w9 ⟨azI, azJ, rfl, anV, zA⟩
 have agD := qH (Rd.mono anU.out zA)
 clear anU
 have hQ7 := hQ6.step zA
 have aj9 := anV.rd
 have akb := au rfl aj9
 obtain ⟨rfl, _⟩ := aG akb.1
 obtain ⟨YV, YW, rfl, _⟩ := ah akb.2
 clear akb
 have sO := qH aj9
 clear aj9 anV
 clear xO xP xQ xR xU xW xX xY xZ Gu Gv
 have hz1 := hQ7.hi
 have hQ8 := hQ7.alloc #[.int .i64 x10, .slice YV x11.length YW] 46 rfl
 have acF := qH (Rd.mono agD.out (aB _ (.cells #[.int .i64 x10, .slice YV x11.length YW] 46)))
 clear agD
 have anW := qH (Rd.mono sO.out (aB _ (.cells #[.int .i64 x10, .slice YV x11.length YW] 46)))
 clear sO
 obtain ⟨xO, xP, xQ, xR, xU, xW, xX, xY⟩ := hQ8.c8 0 0 0 1 1 0 1 1 2 0 2 1 2 2 2 3
 obtain ⟨xZ, Gu, Gv, KT, KU⟩ := hQ8.c5 2 4 3 0 3 1 4 0 4 1
 go_wp2_with fail
 refine (zJ (x20, x21, Gt, x23, x24) _ _ _ _ _ _ (Rd.mono H2.out hQ8.bel) gc2).mono ?_
 rintro e w10 ⟨azK, azL, azM, azN, azO, rfl, anX, akc⟩
 have acG := qH (Rd.mono acF.out akc)
 clear acF
 have agE := qH (Rd.mono anW.out akc)
 clear anW
 have hQ9 := hQ8.step akc
 have akd := anX.rd
 have ake := au rfl akd
 obtain ⟨rfl, _⟩ := aG ake.1
 have akf := au rfl ake.2
 obtain ⟨V3, V4, rfl, _⟩ := ah akf.1
 have akg := au rfl akf.2
 obtain ⟨V5, V6, rfl, _⟩ := ah akg.1
 have akh := au rfl akg.2
 obtain ⟨V7, V8, rfl, _⟩ := ah akh.1
 obtain ⟨V9, Wh, rfl, _⟩ := ah akh.2
 clear ake akf akg akh
 have Wy := qH akd
 clear akd anX
 clear xO xP xQ xR xU xW xX xY xZ Gu Gv KT KU
 have hz2 := hQ9.hi
 have afc := hQ9.alloc #[.int .i64 x20, .slice V3 x21.length V4, .slice V5 Gt.length V6, .slice V7 x23.length V8, .slice V9 x24.length Wh] 37 rfl
 have Wi := qH (Rd.mono acG.out (aB _ (.cells #[.int .i64 x20, .slice V3 x21.length V4, .slice V5 Gt.length V6, .slice V7 x23.length V8, .slice V9 x24.length Wh] 37)))
 clear acG
 have Wj := qH (Rd.mono agE.out (aB _ (.cells #[.int .i64 x20, .slice V3 x21.length V4, .slice V5 Gt.length V6, .slice V7 x23.length V8, .slice V9 x24.length Wh] 37)))
 clear agE
 have aki := qH (Rd.mono Wy.out (aB _ (.cells #[.int .i64 x20, .slice V3 x21.length V4, .slice V5 Gt.length V6, .slice V7 x23.length V8, .slice V9 x24.length Wh] 37)))
 clear Wy
 obtain ⟨xO, xP, xQ, xR, xU, xW, xX, xY⟩ := afc.c8 0 0 0 1 1 0 1 1 2 0 2 1 2 2 2 3
 obtain ⟨xZ, Gu, Gv, KT, KU, SV, SX, SY⟩ := afc.c8 2 4 3 0 3 1 4 0 4 1 5 0 5 1 5 2
 obtain ⟨S9, Tc⟩ := afc.c2 5 3 5 4
 go_wp2_with fail
 refine (SN (x00, x01) _ _ (x10, x11) _ _ (x20, x21, Gt, x23, x24) _ _ _ _ _ _ Wi.out Wj.out aki.out (by have h := gc2; unfold dU fD at h; simp only at h ⊢; omega) (by have h := gc2; unfold dU gy at h; simp only at h ⊢; omega)).mono ?_
 rintro e w11 ⟨rfl, afd⟩
 have acH := qH (Rd.mono Wi.out afd)
 clear Wi
 have acI := qH (Rd.mono Wj.out afd)
 clear Wj
 have agF := qH (Rd.mono aki.out afd)
 clear aki
 have Wn := afc.step afd
 clear xO xP xQ xR xU xW xX xY xZ Gu Gv KT KU SV SX SY S9 Tc
 obtain ⟨xO, xP, xQ, xR, xU, xW, xX, xY⟩ := Wn.c8 0 0 0 1 1 0 1 1 2 0 2 1 2 2 2 3
 obtain ⟨xZ, Gu, Gv, KT, KU, SV, SX, SY⟩ := Wn.c8 2 4 3 0 3 1 4 0 4 1 5 0 5 1 5 2
 obtain ⟨S9, Tc⟩ := Wn.c2 5 3 5 4
 have hr0 : ((kJ (x00, x01) (x10, x11) (x20, x21, Gt, x23, x24)).1 != (kJ (x00, x01) (x10, x11) (x20, x21, Gt, x23, x24)).1) = false := by simp
 have hr1 : ((kJ (x00, x01) (x10, x11) (x20, x21, Gt, x23, x24)).2 != (kJ (x00, x01) (x10, x11) (x20, x21, Gt, x23, x24)).2) = false := by simp
 go_wp2_with fail
 refine BG (fun w' => cI w' w.heap.size 0 x00 ∧ cV w' w.heap.size 1 (.slice a01 x01.length c01) ∧ cI w' (w.heap.size + 1) 0 x10 ∧ cV w' (w.heap.size + 1) 1 (.slice a11 x11.length c11) ∧ cI w' (w.heap.size + 1 + 1) 0 x20 ∧ cV w' (w.heap.size + 1 + 1) 1 (.slice a21 x21.length c21) ∧ cV w' (w.heap.size + 1 + 1) 2 (.slice a22 Gt.length c22) ∧ cV w' (w.heap.size + 1 + 1) 3 (.slice a23 x23.length c23) ∧ cV w' (w.heap.size + 1 + 1) 4 (.slice a24 x24.length c24) ∧ cI w' w8.heap.size 0 x00 ∧ cV w' w8.heap.size 1 (.slice acD x01.length acE) ∧ cI w' w9.heap.size 0 x10 ∧ cV w' w9.heap.size 1 (.slice YV x11.length YW) ∧ cI w' w10.heap.size 0 x20 ∧ cV w' w10.heap.size 1 (.slice V3 x21.length V4) ∧ cV w' w10.heap.size 2 (.slice V5 Gt.length V6) ∧ cV w' w10.heap.size 3 (.slice V7 x23.length V8) ∧ cV w' w10.heap.size 4 (.slice V9 x24.length Wh)) [(0, 0), (1, 0), (2, 1), (3, 1), (4, 0)] ?_ ?_
 · exact (Wn.drew).d2 0 0 0 1 ((Wn.drew).d8 1 0 1 1 2 0 2 1 2 2 2 3 2 4 3 0 ((Wn.drew).c8 3 1 4 0 4 1 5 0 5 1 5 2 5 3 5 4))
 have acJ := qH (Rd.mono acH.out (belowD _))
 clear acH
 have acK := qH (Rd.mono acI.out (belowD _))
 clear acI
 have acL := qH (Rd.mono agF.out (belowD _))
 clear agF
 have anY := Wn.drew
 refine nH ?_
 refine wU fun K hK => ?_
 go_wp2_with (go_at_call 12; refine (yx (x00, x01) _ _ _ (Rd.mono H0.out anY.bel) uU).mono ?_; rintro e w12 ⟨azP, azQ, rfl, anZ, afe⟩)
 have acM := qH (Rd.mono acJ.out afe)
 clear acJ
 have acN := qH (Rd.mono acK.out afe)
 clear acK
 have acO := qH (Rd.mono acL.out afe)
 clear acL
 have aff := anY.step afe
 have akj := anZ.rd
 have akk := au rfl akj
 obtain ⟨rfl, _⟩ := aG akk.1
 obtain ⟨azR, azS, rfl, _⟩ := ah akk.2
 clear akk
 have Ry0 := qH akj
 clear akj anZ
 refine ⟨(aff.d2 0 0 0 1 (aff.d8 1 0 1 1 2 0 2 1 2 2 2 3 2 4 3 0 (aff.c8 3 1 4 0 4 1 5 0 5 1 5 2 5 3 5 4))), ?_⟩
 refine nH ?_
 refine wU fun K hK => ?_
 go_wp2_with (go_at_call 17; refine (NU (x00, x01) _ _ _ _ _ acM.out Ry0.out).mono ?_; rintro e w13 ⟨rfl, akl⟩)
 clear Ry0
 clear acM
 have acP := qH (Rd.mono acN.out akl)
 clear acN
 have acQ := qH (Rd.mono acO.out akl)
 clear acO
 have KW := aff.step akl
 refine ⟨(KW.d2 0 0 0 1 (KW.d8 1 0 1 1 2 0 2 1 2 2 2 3 2 4 3 0 (KW.c8 3 1 4 0 4 1 5 0 5 1 5 2 5 3 5 4))), ?_⟩
 refine nH ?_
 refine elN ?_
 clear xO xP xQ xR xU xW xX xY xZ Gu Gv KT KU SV SX SY S9 Tc
 obtain ⟨xO, xP, xQ, xR, xU, xW, xX, xY⟩ := KW.c8 0 0 0 1 1 0 1 1 2 0 2 1 2 2 2 3
 obtain ⟨xZ, Gu, Gv, KT, KU, SV, SX, SY⟩ := KW.c8 2 4 3 0 3 1 4 0 4 1 5 0 5 1 5 2
 obtain ⟨S9, Tc⟩ := KW.c2 5 3 5 4
 go_wp2_with fail
 refine BG (fun w' => cI w' w.heap.size 0 x00 ∧ cV w' w.heap.size 1 (.slice a01 x01.length c01) ∧ cI w' (w.heap.size + 1) 0 x10 ∧ cV w' (w.heap.size + 1) 1 (.slice a11 x11.length c11) ∧ cI w' (w.heap.size + 1 + 1) 0 x20 ∧ cV w' (w.heap.size + 1 + 1) 1 (.slice a21 x21.length c21) ∧ cV w' (w.heap.size + 1 + 1) 2 (.slice a22 Gt.length c22) ∧ cV w' (w.heap.size + 1 + 1) 3 (.slice a23 x23.length c23) ∧ cV w' (w.heap.size + 1 + 1) 4 (.slice a24 x24.length c24) ∧ cI w' w8.heap.size 0 x00 ∧ cV w' w8.heap.size 1 (.slice acD x01.length acE) ∧ cI w' w9.heap.size 0 x10 ∧ cV w' w9.heap.size 1 (.slice YV x11.length YW) ∧ cI w' w10.heap.size 0 x20 ∧ cV w' w10.heap.size 1 (.slice V3 x21.length V4) ∧ cV w' w10.heap.size 2 (.slice V5 Gt.length V6) ∧ cV w' w10.heap.size 3 (.slice V7 x23.length V8) ∧ cV w' w10.heap.size 4 (.slice V9 x24.length Wh)) [(0, 0), (1, 0), (2, 1), (3, 1), (4, 0)] ?_ ?_
 · exact (KW.drew).d2 0 0 0 1 ((KW.drew).d8 1 0 1 1 2 0 2 1 2 2 2 3 2 4 3 0 ((KW.drew).c8 3 1 4 0 4 1 5 0 5 1 5 2 5 3 5 4))
 have acR := qH (Rd.mono acP.out (belowD _))
 clear acP
 have acS := qH (Rd.mono acQ.out (belowD _))
 clear acQ
 have an0 := KW.drew
 refine nH ?_
 refine wU fun K hK => ?_
 go_wp2_with (go_at_call 13; refine (yA (x10, x11) _ _ _ (Rd.mono H1.out an0.bel) vG).mono ?_; rintro e w14 ⟨azT, azU, rfl, an1, akm⟩)
 have acT := qH (Rd.mono acR.out akm)
 clear acR
 have acU := qH (Rd.mono acS.out akm)
 clear acS
 have afg := an0.step akm
 have akn := an1.rd
 have ako := au rfl akn
 obtain ⟨rfl, _⟩ := aG ako.1
 obtain ⟨azV, azW, rfl, _⟩ := ah ako.2
 clear ako
 have Lc := qH akn
 clear akn an1
 refine ⟨(afg.d2 0 0 0 1 (afg.d8 1 0 1 1 2 0 2 1 2 2 2 3 2 4 3 0 (afg.c8 3 1 4 0 4 1 5 0 5 1 5 2 5 3 5 4))), ?_⟩
 refine nH ?_
 refine wU fun K hK => ?_
 go_wp2_with (go_at_call 18; refine (NV (x10, x11) _ _ _ _ _ acT.out Lc.out).mono ?_; rintro e w15 ⟨rfl, an2⟩)
 clear Lc
 clear acT
 have acV := qH (Rd.mono acU.out an2)
 clear acU
 have KX := afg.step an2
 refine ⟨(KX.d2 0 0 0 1 (KX.d8 1 0 1 1 2 0 2 1 2 2 2 3 2 4 3 0 (KX.c8 3 1 4 0 4 1 5 0 5 1 5 2 5 3 5 4))), ?_⟩
 refine nH ?_
 refine elN ?_
 clear xO xP xQ xR xU xW xX xY xZ Gu Gv KT KU SV SX SY S9 Tc
 obtain ⟨xO, xP, xQ, xR, xU, xW, xX, xY⟩ := KX.c8 0 0 0 1 1 0 1 1 2 0 2 1 2 2 2 3
 obtain ⟨xZ, Gu, Gv, KT, KU, SV, SX, SY⟩ := KX.c8 2 4 3 0 3 1 4 0 4 1 5 0 5 1 5 2
 obtain ⟨S9, Tc⟩ := KX.c2 5 3 5 4
 go_wp2_with fail
 refine BG (fun w' => cI w' w.heap.size 0 x00 ∧ cV w' w.heap.size 1 (.slice a01 x01.length c01) ∧ cI w' (w.heap.size + 1) 0 x10 ∧ cV w' (w.heap.size + 1) 1 (.slice a11 x11.length c11) ∧ cI w' (w.heap.size + 1 + 1) 0 x20 ∧ cV w' (w.heap.size + 1 + 1) 1 (.slice a21 x21.length c21) ∧ cV w' (w.heap.size + 1 + 1) 2 (.slice a22 Gt.length c22) ∧ cV w' (w.heap.size + 1 + 1) 3 (.slice a23 x23.length c23) ∧ cV w' (w.heap.size + 1 + 1) 4 (.slice a24 x24.length c24) ∧ cI w' w8.heap.size 0 x00 ∧ cV w' w8.heap.size 1 (.slice acD x01.length acE) ∧ cI w' w9.heap.size 0 x10 ∧ cV w' w9.heap.size 1 (.slice YV x11.length YW) ∧ cI w' w10.heap.size 0 x20 ∧ cV w' w10.heap.size 1 (.slice V3 x21.length V4) ∧ cV w' w10.heap.size 2 (.slice V5 Gt.length V6) ∧ cV w' w10.heap.size 3 (.slice V7 x23.length V8) ∧ cV w' w10.heap.size 4 (.slice V9 x24.length Wh)) [(0, 0), (1, 0), (2, 1), (3, 1), (4, 0)] ?_ ?_
 · exact (KX.drew).d2 0 0 0 1 ((KX.drew).d8 1 0 1 1 2 0 2 1 2 2 2 3 2 4 3 0 ((KX.drew).c8 3 1 4 0 4 1 5 0 5 1 5 2 5 3 5 4))
 have acW := qH (Rd.mono acV.out (belowD _))
 clear acV
 have an3 := KX.drew
 refine nH ?_
 refine wU fun K hK => ?_
 go_wp2_with (go_at_call 34; refine (zJ (x20, x21, Gt, x23, x24) _ _ _ _ _ _ (Rd.mono H2.out an3.bel) gc2).mono ?_; rintro e w16 ⟨azX, azY, azZ, az0, az1, rfl, an4, hb16⟩)
 have XP := qH (Rd.mono acW.out hb16)
 clear acW
 have afh := an3.step hb16
 have akp := an4.rd
 have akq := au rfl akp
 obtain ⟨rfl, _⟩ := aG akq.1
 have akr := au rfl akq.2
 obtain ⟨az2, az3, rfl, _⟩ := ah akr.1
 have aks := au rfl akr.2
 obtain ⟨az4, az5, rfl, _⟩ := ah aks.1
 have akt := au rfl aks.2
 obtain ⟨az6, az7, rfl, _⟩ := ah akt.1
 obtain ⟨az8, az9, rfl, _⟩ := ah akt.2
 clear akq akr aks akt
 have Ry2 := qH akp
 clear akp an4
 refine ⟨(afh.d2 0 0 0 1 (afh.d8 1 0 1 1 2 0 2 1 2 2 2 3 2 4 3 0 (afh.c8 3 1 4 0 4 1 5 0 5 1 5 2 5 3 5 4))), ?_⟩
 refine nH ?_
 refine wU fun K hK => ?_
 go_wp2_with (go_at_call 16; refine (Qh (x20, x21, Gt, x23, x24) _ _ _ _ _ _ _ _ _ _ _ XP.out Ry2.out).mono ?_; rintro e PU ⟨rfl, atT⟩)
 clear Ry2
 clear XP
 have Wp := afh.step atT
 refine ⟨(Wp.d2 0 0 0 1 (Wp.d8 1 0 1 1 2 0 2 1 2 2 2 3 2 4 3 0 (Wp.c8 3 1 4 0 4 1 5 0 5 1 5 2 5 3 5 4))), ?_⟩
 refine nH ?_
 refine elN ?_
 clear xO xP xQ xR xU xW xX xY xZ Gu Gv KT KU SV SX SY S9 Tc
 obtain ⟨xO, xP, xQ, xR, xU, xW, xX, xY⟩ := Wp.c8 0 0 0 1 1 0 1 1 2 0 2 1 2 2 2 3
 obtain ⟨xZ, Gu, Gv, KT, KU, SV, SX, SY⟩ := Wp.c8 2 4 3 0 3 1 4 0 4 1 5 0 5 1 5 2
 obtain ⟨S9, Tc⟩ := Wp.c2 5 3 5 4
 go_wp2_with fail
 go_ret
 exact ⟨rfl, Wp.bel⟩
end Go.Proofs.YtoblfnoaepbhfaaGreat
