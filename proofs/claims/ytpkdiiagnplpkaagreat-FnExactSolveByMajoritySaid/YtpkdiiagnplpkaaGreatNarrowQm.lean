import Derived.Test.YtpkdiiagnplpkaaGreatPairBQm
set_option linter.unusedSimpArgs false
set_option linter.unusedVariables false
set_option maxHeartbeats 8000000
set_option maxRecDepth 100000
namespace Go.Proofs.YtpkdiiagnplpkaaGreat
open Go.RowKit Go.Shelf Go.IntWalk
open Rep (Rd Own sz)
theorem narrow1_by (sz V : Nat) (P : List RelT) (i j k : Nat) (pb ob sb tb : Nat) (vp : Value) (w : World) (hp : Rd w [vp] P) (hok : PairOk sz V P) (hs : 1 ≤ (sz : Int) ∧ (sz : Int) ≤ 4) (hV : V ≤ 10) (hij : i < j) (hj : j < V) (hk : k < V) (hki : k ≠ i) (hkj : k ≠ j)
 (c0 : w.cell? ⟨pb, 0, none⟩ = some vp) (c1 : w.cell? ⟨ob, 0, none⟩ = some (.int .i64 (pidx i j : Nat))) (c2 : w.cell? ⟨sb, 0, none⟩ = some (.int .i64 sz)) (c3 : w.cell? ⟨tb, 0, none⟩ = some (.int .i64 i)) (c4 : w.cell? ⟨tb, 1, none⟩ = some (.int .i64 j)) (c5 : w.cell? ⟨tb, 2, none⟩ = some (.int .i64 k)) :
 RelC 147 #[.pointer (some ⟨pb, 0, none⟩), .pointer (some ⟨ob, 0, none⟩), .pointer (some ⟨sb, 0, none⟩), .pointer (some ⟨tb, 0, none⟩)] w (sz : Int) 2 (fun y => hasT (ownT P i j) y && throughB sz P i j k y) := by
 intro W y v hb hy hl hmem
 obtain ⟨g0, g1, g2, g3, g4, g5⟩ := cL6 hb c0 c1 c2 c3 c4 c5
 have HPK := qH (hok.pairs hs hV)
 have HP := qH (Rd.mono hp hb)
 have HY := qH hy
 have hK : pidx i j < P.length := by rw [hok.len]; exact pidx_lt2 hij hj
 have hinc := HPK.out.inc _ (List.getElem_mem hK)
 clear c0 c1 c2 c3 c4 c5 hp hb hmem hok
 show Calls Tryz.prog 147 #[_, .pointer (some ⟨pb, 0, none⟩), .pointer (some ⟨ob, 0, none⟩), .pointer (some ⟨sb, 0, none⟩), .pointer (some ⟨tb, 0, none⟩)] W _
 obtain ⟨a0, n0, rfl, _⟩ := rd_list HP.out
 obtain ⟨g, o, u0, u1, rfl, q0, q1, hx⟩ := rd_two_at rfl HP.out _ hK
 have HO := qH (show ownT P i j = P[pidx i j].2 by unfold ownT; rw [List.getD, List.getElem?_eq_getElem hK]; rfl)
 have HTY := qH (fun (c : Nat) (hc : c < sz) (h1 : leftP P i k (y.getD 0 0) c = true) (h2 : leftP P k j c (y.getD 1 0) = true) => show throughB sz P i j k y = true by
  unfold throughB
  rw [Int.toNat_natCast]
  exact any_has hc (by rw [h1, h2]; rfl))
 have HTN := qH (fun (h : ∀ c : Nat, c < sz → (leftP P i k (y.getD 0 0) c && leftP P k j c (y.getD 1 0)) = false) => show throughB sz P i j k y = false by
  unfold throughB
  rw [Int.toNat_natCast]
  exact any_not h)
 have hy0 : 0 < y.length := by omega
 have hy1 : 1 < y.length := by omega
 obtain ⟨ay, cy, rfl, _⟩ := rd_list HY.out
 obtain ⟨b1, o1, rfl, y0, I0⟩ := rd_int_at HY.out 0 hy0
 obtain ⟨b2, o2, e2, y1, I1⟩ := rd_int_at HY.out 1 hy1
 simp only [Option.some.injEq, Addr.mk.injEq, and_true] at e2
 obtain ⟨rfl, rfl⟩ := e2
 have hyI : (0 : Int) < y.length := by omega
 have hyJ : (1 : Int) < y.length := by omega
 rw [show y.getD 0 0 = y[0] by rw [List.getD, List.getElem?_eq_getElem hy0]; rfl, show y.getD 1 0 = y[1] by rw [List.getD, List.getElem?_eq_getElem hy1]; rfl] at HTY HTN
 rw [Nat.add_zero] at y0
 have HI0 := qH I0
 have HI1 := qH I1
 clear I0 I1 hy hl
 generalize y[0] = Y0 at *
 generalize y[1] = Y1 at *
 generalize hKK : pidx i j = K at *
 generalize hR : P[K] = R at *
 obtain ⟨ar, tl⟩ := R
 have hxz := rd_cons rfl hx
 obtain ⟨rfl, _⟩ := rd_i1 hxz.1
 obtain ⟨a3, c3, rfl, _⟩ := rd_list hxz.2
 have HX := qH hx
 have HINC := qH hinc
 simp only at HO
 clear hx hxz hinc hR hKK
 have hKl : (K : Int) < P.length := by omega
 have g0_ := qC (St.start W).bel g0
 clear g0_
 obtain ⟨g0_, g1_⟩ := cL2 (St.start W).bel g0 g1
 clear g0_ g1_
 obtain ⟨g0_, g1_, g2_⟩ := cL3 (St.start W).bel g0 g1 g2
 clear g0_ g1_ g2_
 obtain ⟨g0_, g1_, g2_, g3_⟩ := cL4 (St.start W).bel g0 g1 g2 g3
 clear g0_ g1_ g2_ g3_
 obtain ⟨g0_, g1_, g2_, g3_, g4_⟩ := cL5 (St.start W).bel g0 g1 g2 g3 g4
 clear g0_ g1_ g2_ g3_ g4_
 obtain ⟨g0_, g1_, g2_, g3_, g4_, g5_⟩ := cL6 (St.start W).bel g0 g1 g2 g3 g4 g5
 clear g0_ g1_ g2_ g3_ g4_ g5_
 obtain ⟨g0_, g1_, g2_, g3_, g4_, g5_, q0_⟩ := cL7 (St.start W).bel g0 g1 g2 g3 g4 g5 q0
 clear g0_ g1_ g2_ g3_ g4_ g5_ q0_
 obtain ⟨g0_, g1_, g2_, g3_, g4_, g5_, q0_, q1_⟩ := cL8 (St.start W).bel g0 g1 g2 g3 g4 g5 q0 q1
 clear g0_ g1_ g2_ g3_ g4_ g5_ q0_ q1_
 obtain ⟨g0_, g1_, g2_, g3_, g4_, g5_, q0_, q1_⟩ := cL8 (St.start W).bel g0 g1 g2 g3 g4 g5 q0 q1
 have y0_ := qC (St.start W).bel y0
 clear g0_ g1_ g2_ g3_ g4_ g5_ q0_ q1_ y0_
 obtain ⟨g0_, g1_, g2_, g3_, g4_, g5_, q0_, q1_⟩ := cL8 (St.start W).bel g0 g1 g2 g3 g4 g5 q0 q1
 obtain ⟨y0_, y1_⟩ := cL2 (St.start W).bel y0 y1
 go_enter Tryz.func147, Tryz.ntmps147
 go_wp2_with fail
 refine (has_c (ar, tl) y _ _ _ _ (Rd.mono HX.out (St.start W).bel) (Rd.mono HY.out (St.start W).bel) HINC.out.1 HINC.out.2).mono ?_
 rintro e w1 ⟨rfl, hbw1⟩
 have hz_w1 : W.heap.size ≤ w1.heap.size := by have h9 := hbw1.size; (try simp at h9); omega
 have hs2 := (St.start W).step hbw1
 clear g0_ g1_ g2_ g3_ g4_ g5_ q0_ q1_ y0_ y1_
 obtain ⟨g0_, g1_, g2_, g3_, g4_, g5_, q0_, q1_⟩ := cL8 hs2.bel g0 g1 g2 g3 g4 g5 q0 q1
 obtain ⟨y0_, y1_⟩ := cL2 hs2.bel y0 y1
 cases hh : hasT (ar, tl).2 y with
 | false =>
  have HQ := qH (show (hasT (ownT P i j) y && throughB sz P i j k y) = false by rw [HO.out, hh]; rfl)
  clear hh
  go_wp2_with fail
  go_ret
  exact ⟨ret_bool HQ.out.symm, hs2.bel⟩
 | true =>
  have HQ := qH (show (hasT (ownT P i j) y && throughB sz P i j k y) = throughB sz P i j k y by rw [HO.out, hh]; rfl)
  clear hh
  obtain ⟨wA, rfl⟩ : ∃ x, x = w1 := ⟨_, rfl⟩
  have HBA := qH hs2.bel
  go_wp2_with fail
  go_loopw [16] (fun iv wl => ∃ c : Nat, c ≤ sz ∧ iv = .int .i64 c ∧ Hid (Below wA.heap.size wA wl) ∧ Hid (∀ q : Nat, q < c → (leftP P i k Y0 q && leftP P k j q Y1) = false)) (fun iv _ => sz - (intOf iv).toNat)
  case atStart => exact ⟨0, Nat.zero_le _, rfl, Below.refl _ _, fun q hq => absurd hq (Nat.not_lt_zero _)⟩
  case round =>
   obtain ⟨c, hc, rfl, hbl, hr⟩ := hrel
   have hs2 := (St.start W).step (HBA.out.trans (hbl.out.mono HBA.out.size))
   obtain ⟨g0_, g1_, g2_, g3_, g4_, g5_, q0_, q1_⟩ := cL8 hs2.bel g0 g1 g2 g3 g4 g5 q0 q1
   obtain ⟨y0_, y1_⟩ := cL2 hs2.bel y0 y1
   have HB := hbl
   by_cases hlt : c < sz
   · have hcI : (c : Int) < sz := by omega
     have HNX := qH (fun (h : (leftP P i k Y0 c && leftP P k j c Y1) = false) => show ∀ q : Nat, q < c + 1 → (leftP P i k Y0 q && leftP P k j q Y1) = false from fun q hq => by
      rcases Nat.lt_or_ge q c with h1 | h1
      · exact hr.out q h1
      · obtain rfl : q = c := by omega
        exact h)
     have HIC := qH (show I64 (c : Int) from i64_of _ (by omega) (by have := HPK.out.v10; omega))
     cases h1 : leftP P i k Y0 c with
     | false =>
      have H9 := qH (HNX.out (by rw [h1]; rfl))
      have HE := qH h1
      clear h1
      go_upto_region 6 with fail
      refine t4R (fun w' => w'.cell? ⟨pb, 0, none⟩ = some (.slice (some ⟨g, o, none⟩) P.length n0) ∧ w'.cell? ⟨ob, 0, none⟩ = some (.int .i64 K) ∧ w'.cell? ⟨sb, 0, none⟩ = some (.int .i64 sz) ∧ w'.cell? ⟨tb, 0, none⟩ = some (.int .i64 i) ∧ w'.cell? ⟨tb, 1, none⟩ = some (.int .i64 j) ∧ w'.cell? ⟨tb, 2, none⟩ = some (.int .i64 k) ∧ w'.cell? ⟨g, o + K * 2, none⟩ = some (.int .i64 ar) ∧ w'.cell? ⟨g, o + K * 2 + 1, none⟩ = some (.slice a3 tl.length c3) ∧ w'.cell? ⟨b1, o1, none⟩ = some (.int .i64 Y0) ∧ w'.cell? ⟨b1, o1 + 1, none⟩ = some (.int .i64 Y1)) (.float 0 (.float 1 (.float 2 (.float 3 (.float 4 (.float 5 (.float 6 (.float 7 (.float 8 (.hard 9 (.float 10 (.float 11 (.float 12 (.float 13 (.float 14 (.float 15 (.float 16 (.float 17 (.float 18 (.float 19 (.hard 20 (.float 21 .nil)))))))))))))))))))))) ?_ ?_
      · exact ⟨qC (hs2.drew).bel g0, qC (hs2.drew).bel g1, qC (hs2.drew).bel g2, qC (hs2.drew).bel g3, qC (hs2.drew).bel g4, qC (hs2.drew).bel g5, qC (hs2.drew).bel q0, qC (hs2.drew).bel q1, qC (hs2.drew).bel y0, qC (hs2.drew).bel y1⟩
      have hs3 := hs2.drew
      have HB_4 := qH (HB.out.trans (((belowD _)).mono HB.out.size))
      clear HB
      clear g0_ g1_ g2_ g3_ g4_ g5_ q0_ q1_ y0_ y1_
      have hz_wd5 : wr.heap.size ≤ (wr.drew).heap.size := by simp
      generalize hgen_wd5 : wr.drew = wd5 at *
      clear hgen_wd5
      refine t4F ?_
      refine t4_hard rfl (by rfl) (fun K hK => ?_)
      go_wp2_with (go_at_call 84; refine (isLeft_c sz V P i k Y0 c _ _ (Rd.mono HP.out hs3.bel) HPK.out (by omega) (by omega) (by omega) HI0.out HIC.out).mono ?_; rintro e w6 ⟨rfl, hbw6⟩)
      have hz_w6 : wd5.heap.size ≤ w6.heap.size := by have h9 := hbw6.size; (try simp at h9); omega
      have hs7 := hs3.step hbw6
      have HB_8 := qH (HB_4.out.trans ((hbw6).mono HB_4.out.size))
      clear HB_4
      rw [HE.out]
      refine ⟨⟨qC hs7.bel g0, qC hs7.bel g1, qC hs7.bel g2, qC hs7.bel g3, qC hs7.bel g4, qC hs7.bel g5, qC hs7.bel q0, qC hs7.bel q1, qC hs7.bel y0, qC hs7.bel y1⟩, ?_⟩
      refine t4F ?_
      refine t4_hskip rfl (by rfl) ?_ ?_
      · exact ⟨qC hs7.bel g0, qC hs7.bel g1, qC hs7.bel g2, qC hs7.bel g3, qC hs7.bel g4, qC hs7.bel g5, qC hs7.bel q0, qC hs7.bel q1, qC hs7.bel y0, qC hs7.bel y1⟩
      (try simp only [Act.put, sI, sZ, sS])
      refine t4F ?_
      obtain ⟨g0_, g1_, g2_, g3_, g4_, g5_, q0_, q1_⟩ := cL8 hs7.bel g0 g1 g2 g3 g4 g5 q0 q1
      obtain ⟨y0_, y1_⟩ := cL2 hs7.bel y0 y1
      refine t4_nil (NoPanic.normal ?_)
      go_wp2_with fail
      go_roundw
      case rel => exact ⟨c + 1, by omega, by go_num, HB_8.out, H9.out⟩
      case measure => simp [intOf]; omega
     | true =>
      have HE := qH h1
      cases h2 : leftP P k j c Y1 with
      | false =>
       have H9 := qH (HNX.out (by rw [h1, h2]; rfl))
       have HF := qH h2
       clear h1 h2
       go_upto_region 6 with fail
       refine t4R (fun w' => w'.cell? ⟨pb, 0, none⟩ = some (.slice (some ⟨g, o, none⟩) P.length n0) ∧ w'.cell? ⟨ob, 0, none⟩ = some (.int .i64 K) ∧ w'.cell? ⟨sb, 0, none⟩ = some (.int .i64 sz) ∧ w'.cell? ⟨tb, 0, none⟩ = some (.int .i64 i) ∧ w'.cell? ⟨tb, 1, none⟩ = some (.int .i64 j) ∧ w'.cell? ⟨tb, 2, none⟩ = some (.int .i64 k) ∧ w'.cell? ⟨g, o + K * 2, none⟩ = some (.int .i64 ar) ∧ w'.cell? ⟨g, o + K * 2 + 1, none⟩ = some (.slice a3 tl.length c3) ∧ w'.cell? ⟨b1, o1, none⟩ = some (.int .i64 Y0) ∧ w'.cell? ⟨b1, o1 + 1, none⟩ = some (.int .i64 Y1)) (.float 0 (.float 1 (.float 2 (.float 3 (.float 4 (.float 5 (.float 6 (.float 7 (.float 8 (.hard 9 (.float 10 (.float 11 (.float 12 (.float 13 (.float 14 (.float 15 (.float 16 (.float 17 (.float 18 (.float 19 (.hard 20 (.float 21 .nil)))))))))))))))))))))) ?_ ?_
       · exact ⟨qC (hs2.drew).bel g0, qC (hs2.drew).bel g1, qC (hs2.drew).bel g2, qC (hs2.drew).bel g3, qC (hs2.drew).bel g4, qC (hs2.drew).bel g5, qC (hs2.drew).bel q0, qC (hs2.drew).bel q1, qC (hs2.drew).bel y0, qC (hs2.drew).bel y1⟩
       have hs9 := hs2.drew
       have HB_10 := qH (HB.out.trans (((belowD _)).mono HB.out.size))
       clear HB
       clear g0_ g1_ g2_ g3_ g4_ g5_ q0_ q1_ y0_ y1_
       have hz_wd11 : wr.heap.size ≤ (wr.drew).heap.size := by simp
       generalize hgen_wd11 : wr.drew = wd11 at *
       clear hgen_wd11
       refine t4F ?_
       refine t4_hard rfl (by rfl) (fun K hK => ?_)
       go_wp2_with (go_at_call 84; refine (isLeft_c sz V P i k Y0 c _ _ (Rd.mono HP.out hs9.bel) HPK.out (by omega) (by omega) (by omega) HI0.out HIC.out).mono ?_; rintro e w12 ⟨rfl, hbw12⟩)
       have hz_w12 : wd11.heap.size ≤ w12.heap.size := by have h9 := hbw12.size; (try simp at h9); omega
       have hs13 := hs9.step hbw12
       have HB_14 := qH (HB_10.out.trans ((hbw12).mono HB_10.out.size))
       clear HB_10
       rw [HE.out]
       refine ⟨⟨qC hs13.bel g0, qC hs13.bel g1, qC hs13.bel g2, qC hs13.bel g3, qC hs13.bel g4, qC hs13.bel g5, qC hs13.bel q0, qC hs13.bel q1, qC hs13.bel y0, qC hs13.bel y1⟩, ?_⟩
       refine t4F ?_
       refine t4_hard rfl (by rfl) (fun K hK => ?_)
       go_wp2_with (go_at_call 84; refine (isLeft_c sz V P k j c Y1 _ _ (Rd.mono HP.out hs13.bel) HPK.out (by omega) (by omega) (by omega) HIC.out HI1.out).mono ?_; rintro e w15 ⟨rfl, hbw15⟩)
       have hz_w15 : w12.heap.size ≤ w15.heap.size := by have h9 := hbw15.size; (try simp at h9); omega
       have hs16 := hs13.step hbw15
       have HB_17 := qH (HB_14.out.trans ((hbw15).mono HB_14.out.size))
       clear HB_14
       rw [HF.out]
       refine ⟨⟨qC hs16.bel g0, qC hs16.bel g1, qC hs16.bel g2, qC hs16.bel g3, qC hs16.bel g4, qC hs16.bel g5, qC hs16.bel q0, qC hs16.bel q1, qC hs16.bel y0, qC hs16.bel y1⟩, ?_⟩
       refine t4F ?_
       obtain ⟨g0_, g1_, g2_, g3_, g4_, g5_, q0_, q1_⟩ := cL8 hs16.bel g0 g1 g2 g3 g4 g5 q0 q1
       obtain ⟨y0_, y1_⟩ := cL2 hs16.bel y0 y1
       refine t4_nil (NoPanic.normal ?_)
       go_wp2_with fail
       go_roundw
       case rel => exact ⟨c + 1, by omega, by go_num, HB_17.out, H9.out⟩
       case measure => simp [intOf]; omega
      | true =>
       have H9 := qH (HTY.out c hlt h1 h2)
       have H8 := qH (show (hasT (ownT P i j) y && throughB sz P i j k y) = true by rw [HQ.out, H9.out])
       have HF := qH h2
       clear h1 h2
       go_upto_region 6 with fail
       refine t4R (fun w' => w'.cell? ⟨pb, 0, none⟩ = some (.slice (some ⟨g, o, none⟩) P.length n0) ∧ w'.cell? ⟨ob, 0, none⟩ = some (.int .i64 K) ∧ w'.cell? ⟨sb, 0, none⟩ = some (.int .i64 sz) ∧ w'.cell? ⟨tb, 0, none⟩ = some (.int .i64 i) ∧ w'.cell? ⟨tb, 1, none⟩ = some (.int .i64 j) ∧ w'.cell? ⟨tb, 2, none⟩ = some (.int .i64 k) ∧ w'.cell? ⟨g, o + K * 2, none⟩ = some (.int .i64 ar) ∧ w'.cell? ⟨g, o + K * 2 + 1, none⟩ = some (.slice a3 tl.length c3) ∧ w'.cell? ⟨b1, o1, none⟩ = some (.int .i64 Y0) ∧ w'.cell? ⟨b1, o1 + 1, none⟩ = some (.int .i64 Y1)) (.float 0 (.float 1 (.float 2 (.float 3 (.float 4 (.float 5 (.float 6 (.float 7 (.float 8 (.hard 9 (.float 10 (.float 11 (.float 12 (.float 13 (.float 14 (.float 15 (.float 16 (.float 17 (.float 18 (.float 19 (.hard 20 (.float 21 .nil)))))))))))))))))))))) ?_ ?_
       · exact ⟨qC (hs2.drew).bel g0, qC (hs2.drew).bel g1, qC (hs2.drew).bel g2, qC (hs2.drew).bel g3, qC (hs2.drew).bel g4, qC (hs2.drew).bel g5, qC (hs2.drew).bel q0, qC (hs2.drew).bel q1, qC (hs2.drew).bel y0, qC (hs2.drew).bel y1⟩
       have hs18 := hs2.drew
       have HB_19 := qH (HB.out.trans (((belowD _)).mono HB.out.size))
       clear HB
       clear g0_ g1_ g2_ g3_ g4_ g5_ q0_ q1_ y0_ y1_
       have hz_wd20 : wr.heap.size ≤ (wr.drew).heap.size := by simp
       generalize hgen_wd20 : wr.drew = wd20 at *
       clear hgen_wd20
       refine t4F ?_
       refine t4_hard rfl (by rfl) (fun K hK => ?_)
       go_wp2_with (go_at_call 84; refine (isLeft_c sz V P i k Y0 c _ _ (Rd.mono HP.out hs18.bel) HPK.out (by omega) (by omega) (by omega) HI0.out HIC.out).mono ?_; rintro e w21 ⟨rfl, hbw21⟩)
       have hz_w21 : wd20.heap.size ≤ w21.heap.size := by have h9 := hbw21.size; (try simp at h9); omega
       have hs22 := hs18.step hbw21
       have HB_23 := qH (HB_19.out.trans ((hbw21).mono HB_19.out.size))
       clear HB_19
       rw [HE.out]
       refine ⟨⟨qC hs22.bel g0, qC hs22.bel g1, qC hs22.bel g2, qC hs22.bel g3, qC hs22.bel g4, qC hs22.bel g5, qC hs22.bel q0, qC hs22.bel q1, qC hs22.bel y0, qC hs22.bel y1⟩, ?_⟩
       refine t4F ?_
       refine t4_hard rfl (by rfl) (fun K hK => ?_)
       go_wp2_with (go_at_call 84; refine (isLeft_c sz V P k j c Y1 _ _ (Rd.mono HP.out hs22.bel) HPK.out (by omega) (by omega) (by omega) HIC.out HI1.out).mono ?_; rintro e w24 ⟨rfl, hbw24⟩)
       have hz_w24 : w21.heap.size ≤ w24.heap.size := by have h9 := hbw24.size; (try simp at h9); omega
       have hs25 := hs22.step hbw24
       clear HB_23
       rw [HF.out]
       refine ⟨⟨qC hs25.bel g0, qC hs25.bel g1, qC hs25.bel g2, qC hs25.bel g3, qC hs25.bel g4, qC hs25.bel g5, qC hs25.bel q0, qC hs25.bel q1, qC hs25.bel y0, qC hs25.bel y1⟩, ?_⟩
       refine t4F ?_
       obtain ⟨g0_, g1_, g2_, g3_, g4_, g5_, q0_, q1_⟩ := cL8 hs25.bel g0 g1 g2 g3 g4 g5 q0 q1
       obtain ⟨y0_, y1_⟩ := cL2 hs25.bel y0 y1
       refine t4_nil (NoPanic.normal ?_)
       go_wp2_with fail
       go_ret
       exact ⟨ret_bool H8.out.symm, hs25.bel⟩
   · obtain rfl : c = sz := by omega
     have hnl : ¬ ((c : Int) < c) := by omega
     have H8 := qH (show (hasT (ownT P i j) y && throughB c P i j k y) = false by rw [HQ.out]; exact HTN.out hr.out)
     have HBF := qH hs2.bel
     go_wp2_with fail
     go_ret
     exact ⟨ret_bool H8.out.symm, HBF.out⟩
theorem narrow_c (size : Int) (V : Nat) (P : List RelT) (i j k : Nat) (vp : Value) (A : Nat → Prop) (w : World) (hI : Ip A w [vp] P) (hok : PairOk size V P) (hs : 1 ≤ size ∧ size ≤ 4) (hV : V ≤ 10) (hij : i < j) (hj : j < V) (hk : k < V) (hki : k ≠ i) (hkj : k ≠ j) :
 Calls Tryz.prog 79 #[.int .i64 size, vp, .agg #[.int .i64 i, .int .i64 j, .int .i64 k]] w fun e w' => e = .returned (.bool (goneB size P i j k)) ∧ Ip (fun z => A z ∨ w.heap.size ≤ z) w' [vp] (narrowP size P i j k) ∧ ButP (fun z => vp.ownBlock = some z) w w' := by
 obtain ⟨n, rfl⟩ : ∃ n : Nat, size = (n : Int) := ⟨size.toNat, by omega⟩
 have hK : pidx i j < P.length := by rw [hok.len]; exact pidx_lt2 hij hj
 obtain ⟨g, o, c, cur, e0, rfl, _, _, hh, hAg, _⟩ := ip_form hI (by omega)
 obtain ⟨g', o', u0, u1, eg', q0, q1, hx⟩ := rd_two_at rfl hI.rd _ hK
 simp only [Option.some.injEq, Addr.mk.injEq, and_true] at eg'
 obtain ⟨rfl, rfl⟩ := eg'
 have hsq := sqN_le hs
 have HI := qH hI
 have HP := qH hI.rd
 have HSQ := qH hsq.2.2.1
 have hsq1 := hsq.2.1
 have HCT := qH (cutT_sel (k := k) hok hij hj)
 have HSM := qH (fun h => narrow_same (k := k) hok hij hj h)
 have HO := qH (show ownT P i j = P[pidx i j].2 by unfold ownT; rw [List.getD, List.getElem?_eq_getElem hK]; rfl)
 have HGB := qH (show goneB n P i j k = decide ((cutT n P i j k).length < P[pidx i j].2.length) by unfold goneB; rw [HO.out])
 have HNP := qH (show narrowP n P i j k = P.set (pidx i j) (2, cutT n P i j k) from rfl)
 have HLE := qH (show (cutT n P i j k).length ≤ P[pidx i j].2.length by rw [← HO.out]; exact List.length_filter_le _ _)
 have HHH := qH hh
 have HBY := qH (fun (pb ob sb tb : Nat) (W : World) (hp : Rd W [.slice (some ⟨g, o, none⟩) P.length c] P) => narrow1_by n V P i j k pb ob sb tb _ W hp hok hs hV hij hj hk hki hkj)
 have hK9 : pidx i j ≤ 1000 := by
  have h1 := tri_ten hV
  have h2 := pidx_lt2 hij hj
  omega
 have hVj : j ≤ 9 := by omega
 have hltg := (Array.getElem?_eq_some_iff.1 hh).1
 have eg : ∀ args w, (callFunc 147 args).run Tryz.prog w = .ok (.enter 147 args) w := enters_of Tryz.func147 (by kernel_rfl) rfl
 have HPI := qH (fun w => pairIndex_c i j w hij hVj)
 clear hI hok hsq hh hAg HO
 generalize pidx i j = K at *
 generalize P[K] = R at *
 obtain ⟨ar, tl⟩ := R
 have hxz := rd_cons rfl hx
 obtain ⟨rfl, _⟩ := rd_i1 hxz.1
 obtain ⟨a3, c3, rfl, _⟩ := rd_list hxz.2
 clear hx hxz
 have hKl : (K : Int) < P.length := by omega
 have q0_ := qC (St.start w).bel q0
 clear q0_
 obtain ⟨q0_, q1_⟩ := cL2 (St.start w).bel q0 q1
 have hs27 := (St.start w).alloc #[.int .i64 n] 2 (n := w.heap.size) (by simp)
 clear q0_ q1_
 have k0_0 := hs27.c 0 0
 obtain ⟨q0_, q1_⟩ := cL2 hs27.bel q0 q1
 have hs28 := hs27.alloc #[.slice (some ⟨g, o, none⟩) P.length c] 40 (n := w.heap.size + 1) (by simp)
 clear k0_0 q0_ q1_
 obtain ⟨k0_0, k1_0⟩ := hs28.c2 0 0 1 0
 obtain ⟨q0_, q1_⟩ := cL2 hs28.bel q0 q1
 have hs29 := hs28.alloc #[.int .i64 i, .int .i64 j, .int .i64 k] 114 (n := w.heap.size + 1 + 1) (by simp)
 clear k0_0 k1_0 q0_ q1_
 obtain ⟨k0_0, k1_0, k2_0, k2_1, k2_2⟩ := hs29.c5 0 0 1 0 2 0 2 1 2 2
 obtain ⟨q0_, q1_⟩ := cL2 hs29.bel q0 q1
 go_enter Tryz.func79, Tryz.ntmps79
 go_wp2_with fail
 refine (HPI.out _).mono ?_
 rintro e w30 ⟨rfl, rfl, rfl⟩
 have hs31 := hs29.alloc #[.int .i64 K] 2 (n := w.heap.size + 1 + 1 + 1) (by simp)
 clear k0_0 k1_0 k2_0 k2_1 k2_2 q0_ q1_
 obtain ⟨k0_0, k1_0, k2_0, k2_1, k2_2, k3_0⟩ := hs31.c6 0 0 1 0 2 0 2 1 2 2 3 0
 obtain ⟨q0_, q1_⟩ := cL2 hs31.bel q0 q1
 go_wp2_with fail
 refine (relOf_c n 2 147 _ _ (sqN n) _ (by omega) (by omega) (by omega) HSQ.out (by omega) eg (HBY.out (w.heap.size + 1) (w.heap.size + 1 + 1 + 1) (w.heap.size) (w.heap.size + 1 + 1) _ (Rd.mono HP.out hs31.bel) (hs31.c 1 0) (hs31.c 3 0) (hs31.c 0 0) (hs31.c 2 0) (hs31.c 2 1) (hs31.c 2 2))).mono ?_
 rintro e w5 ⟨v5, rfl, fr5, hb5⟩
 rw [HCT.out] at fr5
 obtain ⟨a5, c5, rfl, _⟩ := rd_list fr5.rd
 have HF5 := qH fr5
 have hz_w5 : w.heap.size + 1 + 1 + 1 + 1 ≤ w5.heap.size := by have h9 := hb5.size; (try simp at h9); omega
 have hs32 := hs31.step hb5
 clear k0_0 k1_0 k2_0 k2_1 k2_2 k3_0 q0_ q1_
 obtain ⟨k0_0, k1_0, k2_0, k2_1, k2_2, k3_0⟩ := hs32.c6 0 0 1 0 2 0 2 1 2 2 3 0
 obtain ⟨q0_, q1_⟩ := cL2 hs32.bel q0 q1
 clear fr5 hb5
 have hs33 := hs32.alloc #[.int .i64 2, .slice a5 (cutT n P i j k).length c5] 87 (n := w5.heap.size) (by simp)
 have HF5_34 := qH (Fresh.mono HF5.out (belowA _ (.cells #[.int .i64 2, .slice a5 (cutT n P i j k).length c5] 87)))
 clear HF5
 clear k0_0 k1_0 k2_0 k2_1 k2_2 k3_0 q0_ q1_
 obtain ⟨k0_0, k1_0, k2_0, k2_1, k2_2, k3_0, k4_0, k4_1⟩ := hs33.c8 0 0 1 0 2 0 2 1 2 2 3 0 4 0 4 1
 obtain ⟨q0_, q1_⟩ := cL2 hs33.bel q0 q1
 by_cases hg : (cutT n P i j k).length < tl.length
 · have HGD := qH (show goneB n P i j k = true by rw [HGB.out]; exact decide_eq_true hg)
   have hbe : (((cutT n P i j k).length : Int) == (tl.length : Int)) = false := by rw [beq_eq_false_iff_ne]; omega
   clear hg
   go_upto_region 3 with fail
   refine t4R (fun w' => w'.cell? ⟨w.heap.size, 0, none⟩ = some (.int .i64 n) ∧ w'.cell? ⟨w.heap.size + 1, 0, none⟩ = some (.slice (some ⟨g, o, none⟩) P.length c) ∧ w'.cell? ⟨w.heap.size + 1 + 1, 0, none⟩ = some (.int .i64 i) ∧ w'.cell? ⟨w.heap.size + 1 + 1, 1, none⟩ = some (.int .i64 j) ∧ w'.cell? ⟨w.heap.size + 1 + 1, 2, none⟩ = some (.int .i64 k) ∧ w'.cell? ⟨w.heap.size + 1 + 1 + 1, 0, none⟩ = some (.int .i64 K) ∧ w'.cell? ⟨w5.heap.size, 0, none⟩ = some (.int .i64 2) ∧ w'.cell? ⟨w5.heap.size, 1, none⟩ = some (.slice a5 (cutT n P i j k).length c5) ∧ w'.cell? ⟨g, o + K * 2, none⟩ = some (.int .i64 ar) ∧ w'.cell? ⟨g, o + K * 2 + 1, none⟩ = some (.slice a3 tl.length c3)) (.float 0 (.float 1 (.float 2 (.float 3 (.float 4 (.float 5 (.float 6 (.float 7 (.float 8 (.float 9 .nil)))))))))) ?_ ?_
   · exact ⟨(hs33.drew).c 0 0, (hs33.drew).c 1 0, (hs33.drew).c 2 0, (hs33.drew).c 2 1, (hs33.drew).c 2 2, (hs33.drew).c 3 0, (hs33.drew).c 4 0, (hs33.drew).c 4 1, qC (hs33.drew).bel q0, qC (hs33.drew).bel q1⟩
   have hs35 := hs33.drew
   have HF5_36 := qH (Fresh.mono HF5_34.out (belowD _))
   clear HF5_34
   clear k0_0 k1_0 k2_0 k2_1 k2_2 k3_0 k4_0 k4_1 q0_ q1_
   have hz_wd37 : w5.heap.size + 1 ≤ ((w5.alloc (.cells #[.int .i64 2, .slice a5 (cutT n P i j k).length c5] 87)).drew).heap.size := by simp
   generalize hgen_wd37 : (w5.alloc (.cells #[.int .i64 2, .slice a5 (cutT n P i j k).length c5] 87)).drew = wd37 at *
   clear hgen_wd37
   refine t4F ?_
   obtain ⟨k0_0, k1_0, k2_0, k2_1, k2_2, k3_0, k4_0, k4_1⟩ := hs35.c8 0 0 1 0 2 0 2 1 2 2 3 0 4 0 4 1
   obtain ⟨q0_, q1_⟩ := cL2 hs35.bel q0 q1
   have HGH := qH (((hs35.bel).block g hltg).trans HHH.out)
   have HIW := qH (HI.out.tight.mono hs35.bel)
   have HI2 := qH (ip_rel2 (i64_of 2 (by decide) (by decide)) (Ip.wk (Fresh.ip HF5_36.out) (B := fun z => w.heap.size ≤ z) (fun z hz => by have := hz.1; (try simp at this); omega)))
   have HRL := qH (ip_rel HIW.out K hK HI2.out (fun z h1 h2 => by have h3 := h1.2; omega))
   have HBW := qH ((ButP.of (A := fun z => (Value.slice (some ⟨g, o, none⟩) P.length c).ownBlock = some z) hs35.bel).trans (butP_rel wd37 g (o + K * 2) (o + K * 2 + 1) (.int .i64 2) (.slice a5 (cutT n P i j k).length c5) (vp := .slice (some ⟨g, o, none⟩) P.length c) rfl) (fun z hz => .inl hz))
   have f0 : wd37.frozen? ⟨g, o + K * 2, none⟩ = false := free_at_block HGH.out
   have f1 : wd37.frozen? ⟨g, o + K * 2 + 1, none⟩ = false := free_at_block HGH.out
   refine t4_nil (NoPanic.normal ?_)
   go_wp2_with fail
   go_ret
   exact ⟨ret_bool HGD.out.symm, by rw [HNP.out]; exact HRL.out.wk (fun z hz => hz.imp (fun h => h.1) id), HBW.out⟩
 · have HGD := qH (show goneB n P i j k = false by rw [HGB.out]; exact decide_eq_false hg)
   have hbe : (((cutT n P i j k).length : Int) == (tl.length : Int)) = true := by rw [beq_iff_eq]; have := HLE.out; omega
   clear hg
   go_upto_region 3 with fail
   refine t4R (fun w' => w'.cell? ⟨w.heap.size, 0, none⟩ = some (.int .i64 n) ∧ w'.cell? ⟨w.heap.size + 1, 0, none⟩ = some (.slice (some ⟨g, o, none⟩) P.length c) ∧ w'.cell? ⟨w.heap.size + 1 + 1, 0, none⟩ = some (.int .i64 i) ∧ w'.cell? ⟨w.heap.size + 1 + 1, 1, none⟩ = some (.int .i64 j) ∧ w'.cell? ⟨w.heap.size + 1 + 1, 2, none⟩ = some (.int .i64 k) ∧ w'.cell? ⟨w.heap.size + 1 + 1 + 1, 0, none⟩ = some (.int .i64 K) ∧ w'.cell? ⟨w5.heap.size, 0, none⟩ = some (.int .i64 2) ∧ w'.cell? ⟨w5.heap.size, 1, none⟩ = some (.slice a5 (cutT n P i j k).length c5) ∧ w'.cell? ⟨g, o + K * 2, none⟩ = some (.int .i64 ar) ∧ w'.cell? ⟨g, o + K * 2 + 1, none⟩ = some (.slice a3 tl.length c3)) (.float 0 (.float 1 (.float 2 (.float 3 (.float 4 (.float 5 (.float 6 (.float 7 (.float 8 (.float 9 .nil)))))))))) ?_ ?_
   · exact ⟨(hs33.drew).c 0 0, (hs33.drew).c 1 0, (hs33.drew).c 2 0, (hs33.drew).c 2 1, (hs33.drew).c 2 2, (hs33.drew).c 3 0, (hs33.drew).c 4 0, (hs33.drew).c 4 1, qC (hs33.drew).bel q0, qC (hs33.drew).bel q1⟩
   have hs38 := hs33.drew
   clear HF5_34
   clear k0_0 k1_0 k2_0 k2_1 k2_2 k3_0 k4_0 k4_1 q0_ q1_
   have hz_wd40 : w5.heap.size + 1 ≤ ((w5.alloc (.cells #[.int .i64 2, .slice a5 (cutT n P i j k).length c5] 87)).drew).heap.size := by simp
   generalize hgen_wd40 : (w5.alloc (.cells #[.int .i64 2, .slice a5 (cutT n P i j k).length c5] 87)).drew = wd40 at *
   clear hgen_wd40
   refine t4F ?_
   obtain ⟨k0_0, k1_0, k2_0, k2_1, k2_2, k3_0, k4_0, k4_1⟩ := hs38.c8 0 0 1 0 2 0 2 1 2 2 3 0 4 0 4 1
   obtain ⟨q0_, q1_⟩ := cL2 hs38.bel q0 q1
   have HIW := qH (HI.out.mono hs38.bel)
   have HBF := qH hs38.bel
   refine t4_nil (NoPanic.normal ?_)
   go_wp2_with fail
   go_ret
   exact ⟨ret_bool HGD.out.symm, by rw [HSM.out HGD.out]; exact HIW.out.wk (fun z hz => .inl hz), ButP.of HBF.out⟩
end Go.Proofs.YtpkdiiagnplpkaaGreat
