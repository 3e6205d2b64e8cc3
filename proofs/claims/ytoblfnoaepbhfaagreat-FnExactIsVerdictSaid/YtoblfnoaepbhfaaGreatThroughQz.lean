import Derived.Test.YtoblfnoaepbhfaaGreatPairBQz
set_option linter.unusedSimpArgs false
set_option linter.unusedVariables false
set_option maxHeartbeats 8000000
set_option maxRecDepth 100000
namespace Go.Proofs.YtoblfnoaepbhfaaGreat
open Go.Proofs.Tryz
open Go.RowKit Go.Shelf Go.IntWalk
open Rep (Rd Own sz)
def kY (f : List Int → Bool) (L : List Piece) (n : Nat) : List Piece := (L.take n).filter (fun e => f e.1)
theorem SQ (f : List Int → Bool) (L : List Piece) (n : Nat) (h : n < L.length) : kY f L (n + 1) = kY f L n ++ (if f L[n].1 then [L[n]] else []) := by
 unfold kY
 rw [List.take_succ_eq_append_getElem h, List.filter_append]
 congr 1
 cases hf : f L[n].1 <;> simp [List.filter_cons, hf]
theorem VO (f : List Int → Bool) (L : List Piece) (n : Nat) : (kY f L n).length ≤ n := by
 unfold kY
 refine Nat.le_trans (List.length_filter_le _ _) ?_
 simp
 omega
theorem VP (f : List Int → Bool) (L : List Piece) (n : Nat) : (kY f L n).Sublist L := List.filter_sublist.trans (List.take_sublist _ _)
theorem VQ (f : List Int → Bool) (L : List Piece) : (kY f L L.length).map (·.1) = (L.map (·.1)).filter f := by
 unfold kY
 rw [List.take_length, List.filter_map]
 rfl
theorem PI (size : Int) (V : Nat) (P : List bH) (i j k : Nat) (vp : Value) (A : Nat → Prop) (w : World) (hI : Ip A w [vp] P) (hok : nU size V P) (hs : 1 ≤ size ∧ size ≤ 4) (hV : V ≤ 10) (hij : i < j) (hj : j < V) (hk : k < V) (hki : k ≠ i) (hkj : k ≠ j) :
 Calls prog 113 #[.int .i64 size, vp, .int .i64 i, .int .i64 j, .int .i64 k] w fun e w' => e = .returned (.bool (uX size P i j k)) ∧ Ip (fun z => A z ∨ w.heap.size ≤ z) w' [vp] (oC size P i j k) ∧ nN (fun z => vp.ownBlock = some z) w w' := by
 obtain ⟨sn, rfl⟩ : ∃ n : Nat, size = (n : Int) := ⟨size.toNat, by omega⟩
 have hK : jk i j < P.length := by rw [hok.len]; exact uV hij hj
 have HP := qH hI.rd
 obtain ⟨g, o, c, m, a, cc, rfl, hAg, ⟨cur, e0, hh⟩, hm, q0, q1, hRT, L, hL1, hL2, hL3, hput⟩ := VE hI _ hK
 have Ja := qH (hok.pairs hs hV)
 have HO := qH (show zy P i j = P[jk i j].2 by unfold zy; rw [List.getD, List.getElem?_eq_getElem hK]; rfl)
 have HPU := qH hput
 have HL2 := qH hL2
 have HL3 := qH hL3
 have HHH := qH hh
 have hLl : L.length = P[jk i j].2.length := by rw [← hL1]; simp
 have HLL := qH hLl
 have HY2 := qH (fun (e : Piece) (he : e ∈ L) => show e.1.length = 2 from by
  have h1 : e.1 ∈ P[jk i j].2 := by rw [← hL1]; exact List.mem_map.2 ⟨e, he, rfl⟩
  obtain ⟨q, hq⟩ := hok.sel _ (List.getElem_mem hK)
  rw [hq] at h1
  exact (Nq hs.1 h1).1)
 have HNB := qH (show P[jk i j].2.length ≤ 1000 from by
  obtain ⟨q, hq⟩ := hok.sel _ (List.getElem_mem hK)
  have h1 := JF q sn 2 (CG sn)
  have h2 := (JI hs).2.1
  rw [hq]
  simp only
  omega)
 have HCU := qH (show (kY (iP sn P i j k) L L.length).map (·.1) = qX sn P i j k by rw [VQ, hL1]; unfold qX; rw [HO.out])
 have HGB := qH (show uX sn P i j k = decide ((qX sn P i j k).length < P[jk i j].2.length) by unfold uX; rw [HO.out])
 have HTY := qH (fun (y : List Int) (hy : y.length = 2) (c : Nat) (hc : c < sn) (h1 : iU P i k (y.getD 0 0) c = true) (h2 : iU P k j c (y.getD 1 0) = true) => show iP sn P i j k y = true by
  unfold iP
  rw [Int.toNat_natCast]
  exact G7 hc (by rw [h1, h2]; rfl))
 have HTN := qH (fun (y : List Int) (h : ∀ c : Nat, c < sn → (iU P i k (y.getD 0 0) c && iU P k j c (y.getD 1 0)) = false) => show iP sn P i j k y = false by
  unfold iP
  rw [Int.toNat_natCast]
  exact G6 h)
 have hK9 : jk i j ≤ 1000 := by
  have h1 := G8 hV
  have h2 := uV hij hj
  omega
 have hVj : j ≤ 9 := by omega
 have ajk := (Array.getElem?_eq_some_iff.1 hh).1
 have HPI := qH (fun w => CB i j w hij hVj)
 have HNP := qH (show oC sn P i j k = P.set (jk i j) (2, qX sn P i j k) from rfl)
 clear hI hok hput hL1 hL2 hL3 hh hAg hRT hm hLl
 generalize jk i j = KP at *
 generalize P[KP] = R at *
 obtain ⟨ar, tl⟩ := R
 simp only at q1 HLL HNB HGB
 generalize iP sn P i j k = RZ at *
 have hKl : (KP : Int) < P.length := by omega
 have dW := qC (St.start w).bel q0
 clear dW
 obtain ⟨dW, dO⟩ := iQ (St.start w).bel q0 q1
 have hs1 := (St.start w).alloc #[.int .i64 2, .slice none 0 0] 118 (n := w.heap.size) (by simp)
 clear dW dO
 obtain ⟨aF, aH⟩ := hs1.c2 0 0 0 1
 obtain ⟨dW, dO⟩ := iQ hs1.bel q0 q1
 have Tf := qH hs1
 go_enter func113, ntmps113
 go_wp2_with fail
 refine (HPI.out _).mono ?_
 rintro e w2 ⟨rfl, rfl, rfl⟩
 go_wp2_with fail
 go_loopw [13] (fun iv wl => ∃ (n mo co : Nat) (ao : Option Addr), n ≤ tl.length ∧ iv = .int .i64 n ∧ Hid ((kY RZ L n).length = mo) ∧ Hid (St w (w.heap.size + 1) wl [(w.heap.size, #[.int .i64 2, .slice ao mo co], 118)]) ∧
  Hid (∀ z, (Value.slice ao mo co).ownBlock = some z → w.heap.size + 1 ≤ z ∧ z < wl.heap.size) ∧ Hid (wl.ownsRow 0 28 1 (.slice ao mo co) mo ((kY RZ L n).map (·.2.1)))) (fun iv _ => tl.length - (intOf iv).toNat)
 case atStart => exact ⟨0, 0, 0, none, Nat.zero_le _, rfl, by simp [kY, Hid], Tf.out, fun z hz => (by cases hz), World.ownsRow_nil _ _ _ _⟩
 clear Tf
 obtain ⟨n, mo, co, ao, hn, rfl, hmo, hst, hgo, hrow⟩ := hrel
 have hsr := hst.out
 have ahn := hsr.hi
 have hmn : mo ≤ n := by rw [← hmo.out]; exact VO _ _ _
 have atC : tl.length ≤ 1000 := HNB.out
 obtain ⟨aF, aH⟩ := hsr.c2 0 0 0 1
 obtain ⟨dW, dO⟩ := iQ hsr.bel q0 q1
 by_cases hlt : n < tl.length
 rotate_left
 · obtain rfl : n = tl.length := by omega
   have hnl : ¬ ((tl.length : Int) < tl.length) := by omega
   have HTA := qH (show (kY RZ L tl.length).map (·.1) = qX sn P i j k by rw [← HLL.out]; exact HCU.out)
   have HML := qH (show (qX sn P i j k).length = mo by rw [← HTA.out, List.length_map, hmo.out])
   have FC := qH (show decide (mo < tl.length) = uX sn P i j k by rw [HGB.out, HML.out])
   have HRW := qH hrow.out
   have HGO := qH hgo.out
   clear hrow hgo hst
   go_upto_region 13 with fail
   refine iT (fun w' => cI w' w.heap.size 0 2 ∧ cV w' w.heap.size 1 (.slice ao mo co) ∧ cI w' g (o + KP * 2) m ∧ cV w' g (o + KP * 2 + 1) (.slice a tl.length cc)) (.z [0,1,2,3,4,5,6,7,8,9] .nil) ?_ ?_
   · exact (hsr.drew).d2 0 0 0 1 (iQ (hsr.drew).bel q0 q1:)
   have xA := hsr.drew
   have IQ := qH (ownsRow_below HRW.out (belowD _))
   clear HRW
   clear aF aH dW dO
   have apc : wr.heap.size ≤ (wr.drew).heap.size := by simp
   generalize wr.drew = ajI at *
   refine aV ?_
   obtain ⟨aF, aH⟩ := xA.c2 0 0 0 1
   obtain ⟨dW, dO⟩ := iQ xA.bel q0 q1
   refine iF ?_
   go_upto_region 14 with fail
   refine iT (fun w' => cI w' w.heap.size 0 2 ∧ cV w' w.heap.size 1 (.slice ao mo co) ∧ cI w' g (o + KP * 2) m ∧ cV w' g (o + KP * 2 + 1) (.slice a tl.length cc)) (.z [0,1,2,4] (.hard 3 (.float 5 (.last 6 .nil)))) ?_ ?_
   · exact (xA.drew).d2 0 0 0 1 (iQ (xA.drew).bel q0 q1:)
   have nY := xA.drew
   have ajJ := qH (ownsRow_below IQ.out (belowD _))
   clear IQ
   clear aF aH dW dO
   have GN : ajI.heap.size ≤ (ajI.drew).heap.size := by simp
   generalize ajI.drew = Dw at *
   refine aV ?_
   refine gX fun K hK => ?_
   go_wp2_with (go_at_call 224; refine (HPI.out _).mono ?_; rintro e w40 ⟨rfl, rfl, rfl⟩)
   refine ⟨(nY.d2 0 0 0 1 (iQ nY.bel q0 q1:)), ?_⟩
   refine aV ?_
   refine JY fun K hK => ?_
   obtain ⟨aF, aH⟩ := nY.c2 0 0 0 1
   obtain ⟨dW, dO⟩ := iQ nY.bel q0 q1
   have HGH := qH (((nY.bel).block g ajk).trans HHH.out)
   have Yq := qH (HPU.out (kY RZ L tl.length) Dw 28 (.slice ao mo co) 2 (jf 2 (by decide) (by decide)) (VP _ _ _) nY.bel (by rw [hmo.out]; exact ajJ.out) (fun z hz => by have := (HGO.out z hz).1; omega))
   rw [HTA.out] at Yq
   have HBW := qH ((nN.of (A := fun z => (Value.slice (some ⟨g, o, none⟩) P.length c).ownBlock = some z) nY.bel).trans (Sm Dw g (o + KP * 2) (o + KP * 2 + 1) (.int .i64 2) (.slice ao mo co) (vp := .slice (some ⟨g, o, none⟩) P.length c) rfl) (fun z hz => .inl hz))
   have f0 : Dw.frozen? ⟨g, o + KP * 2, none⟩ = false := aO HGH.out
   have f1 : Dw.frozen? ⟨g, o + KP * 2 + 1, none⟩ = false := aO HGH.out
   go_wp2_with fail
   refine iF ?_
   go_wp2_with fail
   go_ret
   exact ⟨ak FC.out, by rw [HNP.out]; exact Yq.out, HBW.out⟩
 have hnl : (n : Int) < tl.length := by omega
 have hnL : n < L.length := by rw [HLL.out]; exact hlt
 obtain ⟨b, ob, rfl, qe⟩ := HL2.out n hnL
 have hye := HL3.out _ (List.getElem_mem hnL)
 have hy2 := HY2.out _ (List.getElem_mem hnL)
 have Tm := qH (SQ RZ L n hnL)
 generalize L[n] = E at *
 obtain ⟨y, ue, pe⟩ := E
 simp only at qe hye hy2 Tm
 obtain ⟨ay, cy, rfl, _⟩ := ah hye
 have hy0 : 0 < y.length := by omega
 have hy1 : 1 < y.length := by omega
 obtain ⟨b1, o1, rfl, y0, I0⟩ := aI hye 0 hy0
 obtain ⟨b2, o2, e2, y1, I1⟩ := aI hye 1 hy1
 simp only [Option.some.injEq, Addr.mk.injEq, and_true] at e2
 obtain ⟨rfl, rfl⟩ := e2
 have hyI : (0 : Int) < y.length := by omega
 have hyJ : (1 : Int) < y.length := by omega
 have ant := qH (HTY.out y hy2)
 have anu := qH (HTN.out y)
 rw [show y.getD 0 0 = y[0] by rw [List.getD, List.getElem?_eq_getElem hy0]; rfl, show y.getD 1 0 = y[1] by rw [List.getD, List.getElem?_eq_getElem hy1]; rfl] at ant anu
 rw [Nat.add_zero] at y0
 have HI0 := qH I0
 have HI1 := qH I1
 clear I0 I1 hye hy2
 generalize y[0] = Y0 at *
 generalize y[1] = Y1 at *
 clear aF aH dW dO
 obtain ⟨aF, aH⟩ := hsr.c2 0 0 0 1
 obtain ⟨dW, dO, VR, EP, Gn⟩ := zI hsr.bel q0 q1 qe y0 y1
 obtain ⟨wo, hwo⟩ : ∃ x, x = wr := ⟨_, rfl⟩
 have HSO := qH hsr
 rw [← hwo] at HSO hrow hgo
 have HWO := qH hwo
 go_wp2_with fail
 rw [← HWO.out]
 clear hwo
 go_loopw [14, 15] (fun fv cv wl => ∃ (f : Bool) (c : Nat), c ≤ sn ∧ fv = .bool f ∧ cv = .int .i64 c ∧ Hid (Below wo.heap.size wo wl) ∧ Hid ((f = true → RZ y = true) ∧ (f = false → ∀ q : Nat, q < c → (iU P i k Y0 q && iU P k j q Y1) = false))) (fun _ cv _ => sn - (intOf cv).toNat)
 case atStart => exact ⟨false, 0, Nat.zero_le _, rfl, rfl, Below.refl _ _, fun h => (by cases h), fun _ q hq => absurd hq (Nat.not_lt_zero _)⟩
 obtain ⟨f, c, hc, rfl, rfl, hbl, hr⟩ := hrel
 have hs2 := HSO.out.step hbl.out
 have aza := hs2.hi
 obtain ⟨aF, aH⟩ := hs2.c2 0 0 0 1
 obtain ⟨dW, dO, VR, EP, Gn⟩ := zI hs2.bel q0 q1 qe y0 y1
 have HB := hbl
 cases f
 · by_cases hcl : c < sn
   rotate_left
   · obtain rfl : c = sn := by omega
     have hcn : ¬ ((c : Int) < c) := by omega
     have acp := qH (show kY RZ L (n + 1) = kY RZ L n by rw [Tm.out, anu.out (hr.out.2 rfl)]; simp)
     have xw := qH hs2
     have Ux := qH (fun z hz => And.intro (hgo.out z hz).1 (Nat.lt_of_lt_of_le (hgo.out z hz).2 hbl.out.size))
     have BZ := qH (ownsRow_below hrow.out hbl.out)
     clear hr hrow hgo
     go_wp2_with fail
     go_roundw
     case rel => exact ⟨n + 1, mo, co, ao, by omega, by go_num, by rw [acp.out]; exact hmo.out, xw.out, Ux.out, by rw [acp.out]; exact BZ.out⟩
     simp [intOf]; omega
   have hcI : (c : Int) < sn := by omega
   have pW := qH (fun (h : (iU P i k Y0 c && iU P k j c Y1) = false) => show ∀ q : Nat, q < c + 1 → (iU P i k Y0 q && iU P k j q Y1) = false from fun q hq => by
    rcases Nat.lt_or_ge q c with h1 | h1
    · exact hr.out.2 rfl q h1
    · obtain rfl : q = c := by omega
      exact h)
   have MW := qH (show I64 (c : Int) from jf _ (by omega) (by have := Ja.out.v10; omega))
   clear hr
   cases h1 : iU P i k Y0 c
   · have H9 := qH (pW.out (by rw [h1]; rfl))
     have HE := qH h1
     clear h1
     go_wp2_with fail
     refine (xJ sn V P i k Y0 c _ _ (Rd.mono HP.out hs2.bel) Ja.out (by omega) (by omega) (by omega) HI0.out MW.out).mono ?_
     rintro e YZ ⟨rfl, vZ⟩
     have Vt : wr.heap.size ≤ YZ.heap.size := hZ vZ
     have jC := hs2.step vZ
     have anv := qH (HB.out.trans ((vZ).mono HB.out.size))
     clear HB
     clear aF aH dW dO VR EP Gn
     obtain ⟨aF, aH⟩ := jC.c2 0 0 0 1
     obtain ⟨dW, dO, VR, EP, Gn⟩ := zI jC.bel q0 q1 qe y0 y1
     rw [HE.out]
     go_wp2_with fail
     go_roundw
     case rel => exact ⟨false, c + 1, by omega, rfl, by go_num, anv.out, fun h => (by cases h), fun _ => H9.out⟩
     simp [intOf]; omega
   have HE := qH h1
   cases h2 : iU P k j c Y1
   · have H9 := qH (pW.out (by rw [h1, h2]; rfl))
     have HF := qH h2
     clear h1 h2
     go_wp2_with fail
     refine (xJ sn V P i k Y0 c _ _ (Rd.mono HP.out hs2.bel) Ja.out (by omega) (by omega) (by omega) HI0.out MW.out).mono ?_
     rintro e w22 ⟨rfl, Ah⟩
     have aco : wr.heap.size ≤ w22.heap.size := hZ Ah
     have nR := hs2.step Ah
     have JU := qH (HB.out.trans ((Ah).mono HB.out.size))
     clear HB
     clear aF aH dW dO VR EP Gn
     obtain ⟨aF, aH⟩ := nR.c2 0 0 0 1
     obtain ⟨dW, dO, VR, EP, Gn⟩ := zI nR.bel q0 q1 qe y0 y1
     rw [HE.out]
     go_wp2_with fail
     refine (xJ sn V P k j c Y1 _ _ (Rd.mono HP.out nR.bel) Ja.out (by omega) (by omega) (by omega) MW.out HI1.out).mono ?_
     rintro e w25 ⟨rfl, acr⟩
     have atD : w22.heap.size ≤ w25.heap.size := hZ acr
     have y9 := nR.step acr
     have anw := qH (JU.out.trans ((acr).mono JU.out.size))
     clear JU
     clear aF aH dW dO VR EP Gn
     obtain ⟨aF, aH⟩ := y9.c2 0 0 0 1
     obtain ⟨dW, dO, VR, EP, Gn⟩ := zI y9.bel q0 q1 qe y0 y1
     rw [HF.out]
     go_wp2_with fail
     go_roundw
     case rel => exact ⟨false, c + 1, by omega, rfl, by go_num, anw.out, fun h => (by cases h), fun _ => H9.out⟩
     simp [intOf]; omega
   have H9 := qH (ant.out c hcl h1 h2)
   have HF := qH h2
   clear h1 h2
   go_wp2_with fail
   refine (xJ sn V P i k Y0 c _ _ (Rd.mono HP.out hs2.bel) Ja.out (by omega) (by omega) (by omega) HI0.out MW.out).mono ?_
   rintro e w28 ⟨rfl, DZ⟩
   have ace : wr.heap.size ≤ w28.heap.size := hZ DZ
   have pz := hs2.step DZ
   have acs := qH (HB.out.trans ((DZ).mono HB.out.size))
   clear HB
   clear aF aH dW dO VR EP Gn
   obtain ⟨aF, aH⟩ := pz.c2 0 0 0 1
   obtain ⟨dW, dO, VR, EP, Gn⟩ := zI pz.bel q0 q1 qe y0 y1
   rw [HE.out]
   go_wp2_with fail
   refine (xJ sn V P k j c Y1 _ _ (Rd.mono HP.out pz.bel) Ja.out (by omega) (by omega) (by omega) MW.out HI1.out).mono ?_
   rintro e w31 ⟨rfl, Jl⟩
   have ahX : w28.heap.size ≤ w31.heap.size := hZ Jl
   have rW := pz.step Jl
   have anx := qH (acs.out.trans ((Jl).mono acs.out.size))
   clear acs
   clear aF aH dW dO VR EP Gn
   obtain ⟨aF, aH⟩ := rW.c2 0 0 0 1
   obtain ⟨dW, dO, VR, EP, Gn⟩ := zI rW.bel q0 q1 qe y0 y1
   rw [HF.out]
   go_wp2_with fail
   go_roundw
   case rel => exact ⟨true, c + 1, by omega, rfl, by go_num, anx.out, fun _ => H9.out, fun h => (by cases h)⟩
   simp [intOf]; omega
 have acp := qH (show (kY RZ L n).map (·.2.1) ++ [Value.slice (some ⟨b1, o1, none⟩) y.length cy] = (kY RZ L (n + 1)).map (·.2.1) by rw [Tm.out, hr.out.1 rfl]; simp)
 have U0 := qH (show (kY RZ L (n + 1)).length = mo + 1 by rw [Tm.out, hr.out.1 rfl]; simp [hmo.out])
 have HRW := qH (ownsRow_below hrow.out hbl.out)
 have HGO := qH (fun z hz => And.intro (hgo.out z hz).1 (Nat.lt_of_lt_of_le (hgo.out z hz).2 hbl.out.size))
 clear hr hrow hgo
 by_cases hcl : c < sn
 · have hcI : (c : Int) < sn := by omega
   go_upto_region 12 with fail
   refine iT (fun w' => cI w' w.heap.size 0 2 ∧ cV w' w.heap.size 1 (.slice ao mo co) ∧ cI w' g (o + KP * 2) m ∧ cV w' g (o + KP * 2 + 1) (.slice (some ⟨b, ob, none⟩) tl.length cc) ∧ cV w' b (ob + n) (.slice (some ⟨b1, o1, none⟩) y.length cy) ∧ cI w' b1 o1 Y0 ∧ cI w' b1 (o1 + 1) Y1) (.z [0,1,2,3,4,5,6,7,8] (.hard 9 (.hard 10 (.float 11 (.last 12 .nil))))) ?_ ?_
   · exact (hs2.drew).d2 0 0 0 1 (zI (hs2.drew).bel q0 q1 qe y0 y1:)
   have hs3 := hs2.drew
   have VG := qH (HB.out.trans (((belowD _)).mono HB.out.size))
   clear HB
   have agt := qH (ownsRow_below HRW.out (belowD _))
   clear HRW
   clear aF aH dW dO VR EP Gn
   have Uj : wr.heap.size ≤ (wr.drew).heap.size := by simp
   generalize wr.drew = F7 at *
   refine aV ?_
   refine gX fun K hK => ?_
   go_wp2_with fail
   have hs7 := hs3.alloc #[.slice (some ⟨b1, o1, none⟩) y.length cy] 28 (n := F7.heap.size) (by simp)
   have aji := qH (VG.out.trans (((aB _ (.cells #[.slice (some ⟨b1, o1, none⟩) y.length cy] 28))).mono VG.out.size))
   clear VG
   have agu := qH (ownsRow_below agt.out (aB _ (.cells #[.slice (some ⟨b1, o1, none⟩) y.length cy] 28)))
   clear agt
   refine ⟨(hs7.d2 0 0 0 1 (zI hs7.bel q0 q1 qe y0 y1:)), ?_⟩
   refine aV ?_
   refine gX fun K hK => ?_
   refine jZ _ _ _ _ rfl oq (v := .slice ao mo co) rfl agu.out (vs := [.slice (some ⟨b1, o1, none⟩) y.length cy]) rfl (fun u hu => by rw [List.mem_singleton] at hu; subst hu; rfl) ⟨F7.heap.size, 0, none⟩ 1 rfl (qB (hs7.c 1 0)) (by omega) ?_
   intro gN cN w8 hat oV jJ IL
   have hsW := hs7.hi
   have JZ := jJ.lU (A := fun z => w.heap.size + 1 ≤ z ∧ z < wr.heap.size) (fun z hz => HGO.out z (by simpa using hz))
   have hz8 := JZ.size
   have HG8 := qH (show w.heap.size + 1 ≤ gN ∧ gN < w8.heap.size from ⟨by
    rcases hat with h | h
    · exact (HGO.out gN h).1
    · rw [h]; (try simp); omega, IL⟩)
   rw [acp.out] at oV
   have HR8 := qH oV
   have hs8 := hs7.lU JZ (fun z hz => by have := hz.1; omega) (fun x hx hA => by have h1 := hA.1; have h2 := hA.2; simp at hx; rcases hx with rfl | rfl <;> (try simp only at h1 h2) <;> omega)
   clear hat oV jJ IL
   clear agu
   clear aji
   refine hK _ _ ⟨(hs8.d2 0 0 0 1 (zI hs8.bel q0 q1 qe y0 y1:)), ?_⟩
   refine aV ?_
   refine JY fun K hK => ?_
   obtain ⟨aF, aH, aJ⟩ := hs8.c3 0 0 0 1 1 0
   obtain ⟨dW, dO, VR, EP, Gn⟩ := zI hs8.bel q0 q1 qe y0 y1
   have hs10 := hs8.low (B' := w.heap.size + 1) (bx' := [(w.heap.size, #[.int .i64 2, .slice ao mo co], 118)]) (by omega) (by (try simp) <;> omega) (fun x hx => by simp only [List.mem_cons, List.not_mem_nil, or_false] at hx; rcases hx with rfl <;> (refine ⟨?_, ?_⟩ <;> (try simp) <;> (try omega)))
   have f2 := (hs10.aC 0 rfl 1)
   have hq := hs10.set (p := []) (by simp <;> omega) 1 (.slice (some ⟨gN, 0, none⟩) (mo + 1) cN)
   have HQ := qH hq
   have Ux := qH (show ∀ z, (Value.slice (some ⟨gN, 0, none⟩) (mo + 1) cN).ownBlock = some z → w.heap.size + 1 ≤ z ∧ z < (w8.setCell ⟨w.heap.size, 1, none⟩ (.slice (some ⟨gN, 0, none⟩) (mo + 1) cN)).heap.size from fun z hz => by
    simp only [Value.ownBlock, Option.some.injEq] at hz
    subst hz
    simpa [World.setCell] using HG8.out)
   have BZ := qH (lK (w' := w8.setCell ⟨w.heap.size, 1, none⟩ (.slice (some ⟨gN, 0, none⟩) (mo + 1) cN)) HR8.out (fun z hz => Below.heap_setCell _ _ _ _ (fun e => by
    simp only [Value.ownBlock, Option.some.injEq] at hz
    have := HG8.out.1
    simp only at e
    omega)))
   clear hq
   go_wp2_with fail
   refine iF ?_
   go_wp2_with fail
   go_roundw
   case rel => exact ⟨n + 1, mo + 1, cN, some ⟨gN, 0, none⟩, by omega, by go_num, U0.out, HQ.out, Ux.out, BZ.out⟩
   simp [intOf]; omega
 have hcI : ¬ ((c : Int) < sn) := by omega
 go_upto_region 12 with fail
 refine iT (fun w' => cI w' w.heap.size 0 2 ∧ cV w' w.heap.size 1 (.slice ao mo co) ∧ cI w' g (o + KP * 2) m ∧ cV w' g (o + KP * 2 + 1) (.slice (some ⟨b, ob, none⟩) tl.length cc) ∧ cV w' b (ob + n) (.slice (some ⟨b1, o1, none⟩) y.length cy) ∧ cI w' b1 o1 Y0 ∧ cI w' b1 (o1 + 1) Y1) (.z [0,1,2,3,4,5,6,7,8] (.hard 9 (.hard 10 (.float 11 (.last 12 .nil))))) ?_ ?_
 · exact (hs2.drew).d2 0 0 0 1 (zI (hs2.drew).bel q0 q1 qe y0 y1:)
 have hs11 := hs2.drew
 have acu := qH (HB.out.trans (((belowD _)).mono HB.out.size))
 clear HB
 have acv := qH (ownsRow_below HRW.out (belowD _))
 clear HRW
 clear aF aH dW dO VR EP Gn
 have apf : wr.heap.size ≤ (wr.drew).heap.size := by simp
 generalize wr.drew = anA at *
 refine aV ?_
 refine gX fun K hK => ?_
 go_wp2_with fail
 have nZ := hs11.alloc #[.slice (some ⟨b1, o1, none⟩) y.length cy] 28 (n := anA.heap.size) (by simp)
 have anB := qH (acu.out.trans (((aB _ (.cells #[.slice (some ⟨b1, o1, none⟩) y.length cy] 28))).mono acu.out.size))
 clear acu
 have acw := qH (ownsRow_below acv.out (aB _ (.cells #[.slice (some ⟨b1, o1, none⟩) y.length cy] 28)))
 clear acv
 refine ⟨(nZ.d2 0 0 0 1 (zI nZ.bel q0 q1 qe y0 y1:)), ?_⟩
 refine aV ?_
 refine gX fun K hK => ?_
 refine jZ _ _ _ _ rfl oq (v := .slice ao mo co) rfl acw.out (vs := [.slice (some ⟨b1, o1, none⟩) y.length cy]) rfl (fun u hu => by rw [List.mem_singleton] at hu; subst hu; rfl) ⟨anA.heap.size, 0, none⟩ 1 rfl (qB (nZ.c 1 0)) (by omega) ?_
 intro gN cN w8 hat oV jJ IL
 have hsW := nZ.hi
 have JZ := jJ.lU (A := fun z => w.heap.size + 1 ≤ z ∧ z < wr.heap.size) (fun z hz => HGO.out z (by simpa using hz))
 have hz8 := JZ.size
 have HG8 := qH (show w.heap.size + 1 ≤ gN ∧ gN < w8.heap.size from ⟨by
  rcases hat with h | h
  · exact (HGO.out gN h).1
  · rw [h]; (try simp); omega, IL⟩)
 rw [acp.out] at oV
 have HR8 := qH oV
 have hs8 := nZ.lU JZ (fun z hz => by have := hz.1; omega) (fun x hx hA => by have h1 := hA.1; have h2 := hA.2; simp at hx; rcases hx with rfl | rfl <;> (try simp only at h1 h2) <;> omega)
 clear hat oV jJ IL
 clear acw
 clear anB
 refine hK _ _ ⟨(hs8.d2 0 0 0 1 (zI hs8.bel q0 q1 qe y0 y1:)), ?_⟩
 refine aV ?_
 refine JY fun K hK => ?_
 obtain ⟨aF, aH, aJ⟩ := hs8.c3 0 0 0 1 1 0
 obtain ⟨dW, dO, VR, EP, Gn⟩ := zI hs8.bel q0 q1 qe y0 y1
 have jP := hs8.low (B' := w.heap.size + 1) (bx' := [(w.heap.size, #[.int .i64 2, .slice ao mo co], 118)]) (by omega) (by (try simp) <;> omega) (fun x hx => by simp only [List.mem_cons, List.not_mem_nil, or_false] at hx; rcases hx with rfl <;> (refine ⟨?_, ?_⟩ <;> (try simp) <;> (try omega)))
 have f2 := (jP.aC 0 rfl 1)
 have hq := jP.set (p := []) (by simp <;> omega) 1 (.slice (some ⟨gN, 0, none⟩) (mo + 1) cN)
 have HQ := qH hq
 have Ux := qH (show ∀ z, (Value.slice (some ⟨gN, 0, none⟩) (mo + 1) cN).ownBlock = some z → w.heap.size + 1 ≤ z ∧ z < (w8.setCell ⟨w.heap.size, 1, none⟩ (.slice (some ⟨gN, 0, none⟩) (mo + 1) cN)).heap.size from fun z hz => by
  simp only [Value.ownBlock, Option.some.injEq] at hz
  subst hz
  simpa [World.setCell] using HG8.out)
 have BZ := qH (lK (w' := w8.setCell ⟨w.heap.size, 1, none⟩ (.slice (some ⟨gN, 0, none⟩) (mo + 1) cN)) HR8.out (fun z hz => Below.heap_setCell _ _ _ _ (fun e => by
  simp only [Value.ownBlock, Option.some.injEq] at hz
  have := HG8.out.1
  simp only at e
  omega)))
 clear hq
 go_wp2_with fail
 refine iF ?_
 go_wp2_with fail
 go_roundw
 case rel => exact ⟨n + 1, mo + 1, cN, some ⟨gN, 0, none⟩, by omega, by go_num, U0.out, HQ.out, Ux.out, BZ.out⟩
 simp [intOf]; omega
end Go.Proofs.YtoblfnoaepbhfaaGreat
