import Derived.Test.YtpkdiiagnplpkaaGreatPairBQm
set_option linter.unusedSimpArgs false
set_option linter.unusedVariables false
set_option maxHeartbeats 8000000
set_option maxRecDepth 100000
namespace Go.Proofs.YtpkdiiagnplpkaaGreat
open Go.RowKit Go.Shelf Go.IntWalk
open Rep (Rd Own sz)
def takenP (f : List Int → Bool) (L : List Piece) (n : Nat) : List Piece := (L.take n).filter (fun e => f e.1)
theorem takenP_succ (f : List Int → Bool) (L : List Piece) (n : Nat) (h : n < L.length) : takenP f L (n + 1) = takenP f L n ++ (if f L[n].1 then [L[n]] else []) := by
 unfold takenP
 rw [List.take_succ_eq_append_getElem h, List.filter_append]
 congr 1
 cases hf : f L[n].1 <;> simp [List.filter_cons, hf]
theorem takenP_len (f : List Int → Bool) (L : List Piece) (n : Nat) : (takenP f L n).length ≤ n := by
 unfold takenP
 refine Nat.le_trans (List.length_filter_le _ _) ?_
 simp
 omega
theorem takenP_sub (f : List Int → Bool) (L : List Piece) (n : Nat) : (takenP f L n).Sublist L := List.filter_sublist.trans (List.take_sublist _ _)
theorem takenP_all (f : List Int → Bool) (L : List Piece) : (takenP f L L.length).map (·.1) = (L.map (·.1)).filter f := by
 unfold takenP
 rw [List.take_length, List.filter_map]
 rfl
theorem l05Through_c (size : Int) (V : Nat) (P : List RelT) (i j k : Nat) (vp : Value) (A : Nat → Prop) (w : World) (hI : Ip A w [vp] P) (hok : PairOk size V P) (hs : 1 ≤ size ∧ size ≤ 4) (hV : V ≤ 10) (hij : i < j) (hj : j < V) (hk : k < V) (hki : k ≠ i) (hkj : k ≠ j) :
 Calls Tryz.prog 66 #[.int .i64 size, vp, .int .i64 i, .int .i64 j, .int .i64 k] w fun e w' => e = .returned (.bool (goneB size P i j k)) ∧ Ip (fun z => A z ∨ w.heap.size ≤ z) w' [vp] (narrowP size P i j k) ∧ ButP (fun z => vp.ownBlock = some z) w w' := by
 obtain ⟨sn, rfl⟩ : ∃ n : Nat, size = (n : Int) := ⟨size.toNat, by omega⟩
 have hK : pidx i j < P.length := by rw [hok.len]; exact pidx_lt2 hij hj
 have HP := qH hI.rd
 obtain ⟨g, o, c, m, a, cc, rfl, hAg, ⟨cur, e0, hh⟩, hm, q0, q1, hRT, L, hL1, hL2, hL3, hput⟩ := rel_change hI _ hK
 have HPK := qH (hok.pairs hs hV)
 have HO := qH (show ownT P i j = P[pidx i j].2 by unfold ownT; rw [List.getD, List.getElem?_eq_getElem hK]; rfl)
 have HPU := qH hput
 have HL2 := qH hL2
 have HL3 := qH hL3
 have HHH := qH hh
 have hLl : L.length = P[pidx i j].2.length := by rw [← hL1]; simp
 have HLL := qH hLl
 have HY2 := qH (fun (e : Piece) (he : e ∈ L) => show e.1.length = 2 from by
  have h1 : e.1 ∈ P[pidx i j].2 := by rw [← hL1]; exact List.mem_map.2 ⟨e, he, rfl⟩
  obtain ⟨q, hq⟩ := hok.sel _ (List.getElem_mem hK)
  rw [hq] at h1
  exact (selT_mem2 hs.1 h1).1)
 have HNB := qH (show P[pidx i j].2.length ≤ 1000 from by
  obtain ⟨q, hq⟩ := hok.sel _ (List.getElem_mem hK)
  have h1 := selT_len q sn 2 (sqN sn)
  have h2 := (sqN_le hs).2.1
  rw [hq]
  simp only
  omega)
 have HCU := qH (show (takenP (throughB sn P i j k) L L.length).map (·.1) = cutT sn P i j k by rw [takenP_all, hL1]; unfold cutT; rw [HO.out])
 have HGB := qH (show goneB sn P i j k = decide ((cutT sn P i j k).length < P[pidx i j].2.length) by unfold goneB; rw [HO.out])
 have HTY := qH (fun (y : List Int) (hy : y.length = 2) (c : Nat) (hc : c < sn) (h1 : leftP P i k (y.getD 0 0) c = true) (h2 : leftP P k j c (y.getD 1 0) = true) => show throughB sn P i j k y = true by
  unfold throughB
  rw [Int.toNat_natCast]
  exact any_has hc (by rw [h1, h2]; rfl))
 have HTN := qH (fun (y : List Int) (h : ∀ c : Nat, c < sn → (leftP P i k (y.getD 0 0) c && leftP P k j c (y.getD 1 0)) = false) => show throughB sn P i j k y = false by
  unfold throughB
  rw [Int.toNat_natCast]
  exact any_not h)
 have hK9 : pidx i j ≤ 1000 := by
  have h1 := tri_ten hV
  have h2 := pidx_lt2 hij hj
  omega
 have hVj : j ≤ 9 := by omega
 have hltg := (Array.getElem?_eq_some_iff.1 hh).1
 have HPI := qH (fun w => l05Index_c i j w hij hVj)
 have HNP := qH (show narrowP sn P i j k = P.set (pidx i j) (2, cutT sn P i j k) from rfl)
 clear hI hok hput hL1 hL2 hL3 hh hAg hRT hm hLl
 generalize pidx i j = KP at *
 generalize P[KP] = R at *
 obtain ⟨ar, tl⟩ := R
 simp only at q1 HLL HNB HGB
 generalize throughB sn P i j k = thr at *
 have hKl : (KP : Int) < P.length := by omega
 have q0_ := qC (St.start w).bel q0
 clear q0_
 obtain ⟨q0_, q1_⟩ := cL2 (St.start w).bel q0 q1
 have hs1 := (St.start w).alloc #[.int .i64 2, .slice none 0 0] 87 (n := w.heap.size) (by simp)
 clear q0_ q1_
 obtain ⟨k0_0, k0_1⟩ := hs1.c2 0 0 0 1
 obtain ⟨q0_, q1_⟩ := cL2 hs1.bel q0 q1
 have HS0 := qH hs1
 go_enter Tryz.func66, Tryz.ntmps66
 go_wp2_with fail
 refine (HPI.out _).mono ?_
 rintro e w2 ⟨rfl, rfl, rfl⟩
 go_wp2_with fail
 go_loopw [13] (fun iv wl => ∃ (n mo co : Nat) (ao : Option Addr), n ≤ tl.length ∧ iv = .int .i64 n ∧ Hid ((takenP thr L n).length = mo) ∧ Hid (St w (w.heap.size + 1) wl [(w.heap.size, #[.int .i64 2, .slice ao mo co], 87)]) ∧
  Hid (∀ z, (Value.slice ao mo co).ownBlock = some z → w.heap.size + 1 ≤ z ∧ z < wl.heap.size) ∧ Hid (wl.ownsRow 0 28 1 (.slice ao mo co) mo ((takenP thr L n).map (·.2.1)))) (fun iv _ => tl.length - (intOf iv).toNat)
 case atStart => exact ⟨0, 0, 0, none, Nat.zero_le _, rfl, by simp [takenP, Hid], HS0.out, fun z hz => (by cases hz), World.ownsRow_nil _ _ _ _⟩
 case round =>
  clear HS0
  obtain ⟨n, mo, co, ao, hn, rfl, hmo, hst, hgo, hrow⟩ := hrel
  have hsr := hst.out
  have hszr := hsr.hi
  have hmn : mo ≤ n := by rw [← hmo.out]; exact takenP_len _ _ _
  have hb1000 : tl.length ≤ 1000 := HNB.out
  obtain ⟨k0_0, k0_1⟩ := hsr.c2 0 0 0 1
  obtain ⟨q0_, q1_⟩ := cL2 hsr.bel q0 q1
  by_cases hlt : n < tl.length
  · have hnl : (n : Int) < tl.length := by omega
    have hnL : n < L.length := by rw [HLL.out]; exact hlt
    obtain ⟨b, ob, rfl, qe⟩ := HL2.out n hnL
    have hye := HL3.out _ (List.getElem_mem hnL)
    have hy2 := HY2.out _ (List.getElem_mem hnL)
    have HTS := qH (takenP_succ thr L n hnL)
    generalize L[n] = E at *
    obtain ⟨y, ue, pe⟩ := E
    simp only at qe hye hy2 HTS
    obtain ⟨ay, cy, rfl, _⟩ := rd_list hye
    have hy0 : 0 < y.length := by omega
    have hy1 : 1 < y.length := by omega
    obtain ⟨b1, o1, rfl, y0, I0⟩ := rd_int_at hye 0 hy0
    obtain ⟨b2, o2, e2, y1, I1⟩ := rd_int_at hye 1 hy1
    simp only [Option.some.injEq, Addr.mk.injEq, and_true] at e2
    obtain ⟨rfl, rfl⟩ := e2
    have hyI : (0 : Int) < y.length := by omega
    have hyJ : (1 : Int) < y.length := by omega
    have HTY2 := qH (HTY.out y hy2)
    have HTN2 := qH (HTN.out y)
    rw [show y.getD 0 0 = y[0] by rw [List.getD, List.getElem?_eq_getElem hy0]; rfl, show y.getD 1 0 = y[1] by rw [List.getD, List.getElem?_eq_getElem hy1]; rfl] at HTY2 HTN2
    rw [Nat.add_zero] at y0
    have HI0 := qH I0
    have HI1 := qH I1
    clear I0 I1 hye hy2
    generalize y[0] = Y0 at *
    generalize y[1] = Y1 at *
    clear k0_0 k0_1 q0_ q1_
    obtain ⟨k0_0, k0_1⟩ := hsr.c2 0 0 0 1
    obtain ⟨q0_, q1_, qe_⟩ := cL3 hsr.bel q0 q1 qe
    clear k0_0 k0_1 q0_ q1_ qe_
    obtain ⟨k0_0, k0_1⟩ := hsr.c2 0 0 0 1
    obtain ⟨q0_, q1_, qe_, y0_⟩ := cL4 hsr.bel q0 q1 qe y0
    clear k0_0 k0_1 q0_ q1_ qe_ y0_
    obtain ⟨k0_0, k0_1⟩ := hsr.c2 0 0 0 1
    obtain ⟨q0_, q1_, qe_, y0_, y1_⟩ := cL5 hsr.bel q0 q1 qe y0 y1
    clear k0_0 k0_1 q0_ q1_ qe_ y0_ y1_
    obtain ⟨k0_0, k0_1⟩ := hsr.c2 0 0 0 1
    obtain ⟨q0_, q1_, qe_, y0_, y1_⟩ := cL5 hsr.bel q0 q1 qe y0 y1
    obtain ⟨wo, hwo⟩ : ∃ x, x = wr := ⟨_, rfl⟩
    have HSO := qH hsr
    rw [← hwo] at HSO hrow hgo
    have HWO := qH hwo
    go_wp2_with fail
    rw [← HWO.out]
    clear hwo
    go_loopw [14, 15] (fun fv cv wl => ∃ (f : Bool) (c : Nat), c ≤ sn ∧ fv = .bool f ∧ cv = .int .i64 c ∧ Hid (Below wo.heap.size wo wl) ∧ Hid ((f = true → thr y = true) ∧ (f = false → ∀ q : Nat, q < c → (leftP P i k Y0 q && leftP P k j q Y1) = false))) (fun _ cv _ => sn - (intOf cv).toNat)
    case atStart => exact ⟨false, 0, Nat.zero_le _, rfl, rfl, Below.refl _ _, fun h => (by cases h), fun _ q hq => absurd hq (Nat.not_lt_zero _)⟩
    case round =>
     obtain ⟨f, c, hc, rfl, rfl, hbl, hr⟩ := hrel
     have hs2 := HSO.out.step hbl.out
     have hszi := hs2.hi
     obtain ⟨k0_0, k0_1⟩ := hs2.c2 0 0 0 1
     obtain ⟨q0_, q1_, qe_, y0_, y1_⟩ := cL5 hs2.bel q0 q1 qe y0 y1
     have HB := hbl
     cases f with
     | true =>
      have HTS2 := qH (show (takenP thr L n).map (·.2.1) ++ [Value.slice (some ⟨b1, o1, none⟩) y.length cy] = (takenP thr L (n + 1)).map (·.2.1) by rw [HTS.out, hr.out.1 rfl]; simp)
      have HTL := qH (show (takenP thr L (n + 1)).length = mo + 1 by rw [HTS.out, hr.out.1 rfl]; simp [hmo.out])
      have HRW := qH (ownsRow_below hrow.out hbl.out)
      have HGO := qH (fun z hz => And.intro (hgo.out z hz).1 (Nat.lt_of_lt_of_le (hgo.out z hz).2 hbl.out.size))
      clear hr hrow hgo
      by_cases hcl : c < sn
      · have hcI : (c : Int) < sn := by omega
        go_upto_region 12 with fail
        refine t4R (fun w' => w'.cell? ⟨w.heap.size, 0, none⟩ = some (.int .i64 2) ∧ w'.cell? ⟨w.heap.size, 1, none⟩ = some (.slice ao mo co) ∧ w'.cell? ⟨g, o + KP * 2, none⟩ = some (.int .i64 m) ∧ w'.cell? ⟨g, o + KP * 2 + 1, none⟩ = some (.slice (some ⟨b, ob, none⟩) tl.length cc) ∧ w'.cell? ⟨b, ob + n, none⟩ = some (.slice (some ⟨b1, o1, none⟩) y.length cy) ∧ w'.cell? ⟨b1, o1, none⟩ = some (.int .i64 Y0) ∧ w'.cell? ⟨b1, o1 + 1, none⟩ = some (.int .i64 Y1)) (.float 0 (.float 1 (.float 2 (.float 3 (.float 4 (.float 5 (.float 6 (.float 7 (.float 8 (.hard 9 (.hard 10 (.float 11 (.last 12 .nil))))))))))))) ?_ ?_
        · exact ⟨(hs2.drew).c 0 0, (hs2.drew).c 0 1, qC (hs2.drew).bel q0, qC (hs2.drew).bel q1, qC (hs2.drew).bel qe, qC (hs2.drew).bel y0, qC (hs2.drew).bel y1⟩
        have hs3 := hs2.drew
        have HB_4 := qH (HB.out.trans (((belowD _)).mono HB.out.size))
        clear HB
        have HRW_5 := qH (ownsRow_below HRW.out (belowD _))
        clear HRW
        clear k0_0 k0_1 q0_ q1_ qe_ y0_ y1_
        have hz_wd6 : wr.heap.size ≤ (wr.drew).heap.size := by simp
        generalize hgen_wd6 : wr.drew = wd6 at *
        clear hgen_wd6
        refine t4F ?_
        refine t4_hard rfl (by rfl) (fun K hK => ?_)
        go_wp2_with fail
        have hs7 := hs3.alloc #[.slice (some ⟨b1, o1, none⟩) y.length cy] 28 (n := wd6.heap.size) (by simp)
        have HB_8 := qH (HB_4.out.trans (((belowA _ (.cells #[.slice (some ⟨b1, o1, none⟩) y.length cy] 28))).mono HB_4.out.size))
        clear HB_4
        have HRW_9 := qH (ownsRow_below HRW_5.out (belowA _ (.cells #[.slice (some ⟨b1, o1, none⟩) y.length cy] 28)))
        clear HRW_5
        refine ⟨⟨hs7.c 0 0, hs7.c 0 1, qC hs7.bel q0, qC hs7.bel q1, qC hs7.bel qe, qC hs7.bel y0, qC hs7.bel y1⟩, ?_⟩
        refine t4F ?_
        refine t4_hard rfl (by rfl) (fun K hK => ?_)
        refine wp_append_row _ _ _ _ rfl E_lists (v := .slice ao mo co) rfl HRW_9.out (vs := [.slice (some ⟨b1, o1, none⟩) y.length cy]) rfl (fun u hu => by rw [List.mem_singleton] at hu; subst hu; rfl) ⟨wd6.heap.size, 0, none⟩ 1 rfl (news1 (hs7.c 1 0)) (by omega) ?_
        intro gN cN w8 hat hrowN hbutN hltN
        have hsW := hs7.hi
        have hB8 := hbutN.butP (A := fun z => w.heap.size + 1 ≤ z ∧ z < wr.heap.size) (fun z hz => HGO.out z (by simpa using hz))
        have hz8 := hB8.size
        have HG8 := qH (show w.heap.size + 1 ≤ gN ∧ gN < w8.heap.size from ⟨by
         rcases hat with h | h
         · exact (HGO.out gN h).1
         · rw [h]; (try simp); omega, hltN⟩)
        rw [HTS2.out] at hrowN
        have HR8 := qH hrowN
        have hs8 := hs7.butP hB8 (fun z hz => by have := hz.1; omega) (fun x hx hA => by have h1 := hA.1; have h2 := hA.2; simp at hx; rcases hx with rfl | rfl <;> (try simp only at h1 h2) <;> omega)
        clear hat hrowN hbutN hltN
        clear HRW_9
        clear HB_8
        refine hK _ _ ⟨⟨hs8.c 0 0, hs8.c 0 1, qC hs8.bel q0, qC hs8.bel q1, qC hs8.bel qe, qC hs8.bel y0, qC hs8.bel y1⟩, ?_⟩
        refine t4F ?_
        refine t4_last rfl (by rfl) (fun K hK => ?_)
        obtain ⟨k0_0, k0_1, k1_0⟩ := hs8.c3 0 0 0 1 1 0
        obtain ⟨q0_, q1_, qe_, y0_, y1_⟩ := cL5 hs8.bel q0 q1 qe y0 y1
        have hs10 := hs8.low (B' := w.heap.size + 1) (bx' := [(w.heap.size, #[.int .i64 2, .slice ao mo co], 87)]) (by omega) (by (try simp) <;> omega) (fun x hx => by simp only [List.mem_cons, List.not_mem_nil, or_false] at hx; rcases hx with rfl <;> (refine ⟨?_, ?_⟩ <;> (try simp) <;> (try omega)))
        have f2 := (hs10.freeAt 0 rfl 1)
        have hq := hs10.set (p := []) (by simp <;> omega) 1 (.slice (some ⟨gN, 0, none⟩) (mo + 1) cN)
        have HQ := qH hq
        have HG9 := qH (show ∀ z, (Value.slice (some ⟨gN, 0, none⟩) (mo + 1) cN).ownBlock = some z → w.heap.size + 1 ≤ z ∧ z < (w8.setCell ⟨w.heap.size, 1, none⟩ (.slice (some ⟨gN, 0, none⟩) (mo + 1) cN)).heap.size from fun z hz => by
         simp only [Value.ownBlock, Option.some.injEq] at hz
         subst hz
         simpa [World.setCell] using HG8.out)
        have HR9 := qH (row_frame (w' := w8.setCell ⟨w.heap.size, 1, none⟩ (.slice (some ⟨gN, 0, none⟩) (mo + 1) cN)) HR8.out (fun z hz => Below.heap_setCell _ _ _ _ (fun e => by
         simp only [Value.ownBlock, Option.some.injEq] at hz
         have := HG8.out.1
         simp only at e
         omega)))
        clear hq
        go_wp2_with fail
        refine t4_nil (NoPanic.normal ?_)
        go_wp2_with fail
        go_roundw
        case rel => exact ⟨n + 1, mo + 1, cN, some ⟨gN, 0, none⟩, by omega, by go_num, HTL.out, HQ.out, HG9.out, HR9.out⟩
        case measure => simp [intOf]; omega
      · have hcI : ¬ ((c : Int) < sn) := by omega
        go_upto_region 12 with fail
        refine t4R (fun w' => w'.cell? ⟨w.heap.size, 0, none⟩ = some (.int .i64 2) ∧ w'.cell? ⟨w.heap.size, 1, none⟩ = some (.slice ao mo co) ∧ w'.cell? ⟨g, o + KP * 2, none⟩ = some (.int .i64 m) ∧ w'.cell? ⟨g, o + KP * 2 + 1, none⟩ = some (.slice (some ⟨b, ob, none⟩) tl.length cc) ∧ w'.cell? ⟨b, ob + n, none⟩ = some (.slice (some ⟨b1, o1, none⟩) y.length cy) ∧ w'.cell? ⟨b1, o1, none⟩ = some (.int .i64 Y0) ∧ w'.cell? ⟨b1, o1 + 1, none⟩ = some (.int .i64 Y1)) (.float 0 (.float 1 (.float 2 (.float 3 (.float 4 (.float 5 (.float 6 (.float 7 (.float 8 (.hard 9 (.hard 10 (.float 11 (.last 12 .nil))))))))))))) ?_ ?_
        · exact ⟨(hs2.drew).c 0 0, (hs2.drew).c 0 1, qC (hs2.drew).bel q0, qC (hs2.drew).bel q1, qC (hs2.drew).bel qe, qC (hs2.drew).bel y0, qC (hs2.drew).bel y1⟩
        have hs11 := hs2.drew
        have HB_12 := qH (HB.out.trans (((belowD _)).mono HB.out.size))
        clear HB
        have HRW_13 := qH (ownsRow_below HRW.out (belowD _))
        clear HRW
        clear k0_0 k0_1 q0_ q1_ qe_ y0_ y1_
        have hz_wd14 : wr.heap.size ≤ (wr.drew).heap.size := by simp
        generalize hgen_wd14 : wr.drew = wd14 at *
        clear hgen_wd14
        refine t4F ?_
        refine t4_hard rfl (by rfl) (fun K hK => ?_)
        go_wp2_with fail
        have hs15 := hs11.alloc #[.slice (some ⟨b1, o1, none⟩) y.length cy] 28 (n := wd14.heap.size) (by simp)
        have HB_16 := qH (HB_12.out.trans (((belowA _ (.cells #[.slice (some ⟨b1, o1, none⟩) y.length cy] 28))).mono HB_12.out.size))
        clear HB_12
        have HRW_17 := qH (ownsRow_below HRW_13.out (belowA _ (.cells #[.slice (some ⟨b1, o1, none⟩) y.length cy] 28)))
        clear HRW_13
        refine ⟨⟨hs15.c 0 0, hs15.c 0 1, qC hs15.bel q0, qC hs15.bel q1, qC hs15.bel qe, qC hs15.bel y0, qC hs15.bel y1⟩, ?_⟩
        refine t4F ?_
        refine t4_hard rfl (by rfl) (fun K hK => ?_)
        refine wp_append_row _ _ _ _ rfl E_lists (v := .slice ao mo co) rfl HRW_17.out (vs := [.slice (some ⟨b1, o1, none⟩) y.length cy]) rfl (fun u hu => by rw [List.mem_singleton] at hu; subst hu; rfl) ⟨wd14.heap.size, 0, none⟩ 1 rfl (news1 (hs15.c 1 0)) (by omega) ?_
        intro gN cN w8 hat hrowN hbutN hltN
        have hsW := hs15.hi
        have hB8 := hbutN.butP (A := fun z => w.heap.size + 1 ≤ z ∧ z < wr.heap.size) (fun z hz => HGO.out z (by simpa using hz))
        have hz8 := hB8.size
        have HG8 := qH (show w.heap.size + 1 ≤ gN ∧ gN < w8.heap.size from ⟨by
         rcases hat with h | h
         · exact (HGO.out gN h).1
         · rw [h]; (try simp); omega, hltN⟩)
        rw [HTS2.out] at hrowN
        have HR8 := qH hrowN
        have hs8 := hs15.butP hB8 (fun z hz => by have := hz.1; omega) (fun x hx hA => by have h1 := hA.1; have h2 := hA.2; simp at hx; rcases hx with rfl | rfl <;> (try simp only at h1 h2) <;> omega)
        clear hat hrowN hbutN hltN
        clear HRW_17
        clear HB_16
        refine hK _ _ ⟨⟨hs8.c 0 0, hs8.c 0 1, qC hs8.bel q0, qC hs8.bel q1, qC hs8.bel qe, qC hs8.bel y0, qC hs8.bel y1⟩, ?_⟩
        refine t4F ?_
        refine t4_last rfl (by rfl) (fun K hK => ?_)
        obtain ⟨k0_0, k0_1, k1_0⟩ := hs8.c3 0 0 0 1 1 0
        obtain ⟨q0_, q1_, qe_, y0_, y1_⟩ := cL5 hs8.bel q0 q1 qe y0 y1
        have hs18 := hs8.low (B' := w.heap.size + 1) (bx' := [(w.heap.size, #[.int .i64 2, .slice ao mo co], 87)]) (by omega) (by (try simp) <;> omega) (fun x hx => by simp only [List.mem_cons, List.not_mem_nil, or_false] at hx; rcases hx with rfl <;> (refine ⟨?_, ?_⟩ <;> (try simp) <;> (try omega)))
        have f2 := (hs18.freeAt 0 rfl 1)
        have hq := hs18.set (p := []) (by simp <;> omega) 1 (.slice (some ⟨gN, 0, none⟩) (mo + 1) cN)
        have HQ := qH hq
        have HG9 := qH (show ∀ z, (Value.slice (some ⟨gN, 0, none⟩) (mo + 1) cN).ownBlock = some z → w.heap.size + 1 ≤ z ∧ z < (w8.setCell ⟨w.heap.size, 1, none⟩ (.slice (some ⟨gN, 0, none⟩) (mo + 1) cN)).heap.size from fun z hz => by
         simp only [Value.ownBlock, Option.some.injEq] at hz
         subst hz
         simpa [World.setCell] using HG8.out)
        have HR9 := qH (row_frame (w' := w8.setCell ⟨w.heap.size, 1, none⟩ (.slice (some ⟨gN, 0, none⟩) (mo + 1) cN)) HR8.out (fun z hz => Below.heap_setCell _ _ _ _ (fun e => by
         simp only [Value.ownBlock, Option.some.injEq] at hz
         have := HG8.out.1
         simp only at e
         omega)))
        clear hq
        go_wp2_with fail
        refine t4_nil (NoPanic.normal ?_)
        go_wp2_with fail
        go_roundw
        case rel => exact ⟨n + 1, mo + 1, cN, some ⟨gN, 0, none⟩, by omega, by go_num, HTL.out, HQ.out, HG9.out, HR9.out⟩
        case measure => simp [intOf]; omega
     | false =>
      by_cases hcl : c < sn
      · have hcI : (c : Int) < sn := by omega
        have HNX := qH (fun (h : (leftP P i k Y0 c && leftP P k j c Y1) = false) => show ∀ q : Nat, q < c + 1 → (leftP P i k Y0 q && leftP P k j q Y1) = false from fun q hq => by
         rcases Nat.lt_or_ge q c with h1 | h1
         · exact hr.out.2 rfl q h1
         · obtain rfl : q = c := by omega
           exact h)
        have HIC := qH (show I64 (c : Int) from i64_of _ (by omega) (by have := HPK.out.v10; omega))
        clear hr
        cases h1 : leftP P i k Y0 c with
        | false =>
         have H9 := qH (HNX.out (by rw [h1]; rfl))
         have HE := qH h1
         clear h1
         go_wp2_with fail
         refine (l05Left_c sn V P i k Y0 c _ _ (Rd.mono HP.out hs2.bel) HPK.out (by omega) (by omega) (by omega) HI0.out HIC.out).mono ?_
         rintro e w19 ⟨rfl, hbw19⟩
         have hz_w19 : wr.heap.size ≤ w19.heap.size := by have h9 := hbw19.size; (try simp at h9); omega
         have hs20 := hs2.step hbw19
         have HB_21 := qH (HB.out.trans ((hbw19).mono HB.out.size))
         clear HB
         clear k0_0 k0_1 q0_ q1_ qe_ y0_ y1_
         obtain ⟨k0_0, k0_1⟩ := hs20.c2 0 0 0 1
         obtain ⟨q0_, q1_, qe_, y0_, y1_⟩ := cL5 hs20.bel q0 q1 qe y0 y1
         rw [HE.out]
         go_wp2_with fail
         go_roundw
         case rel => exact ⟨false, c + 1, by omega, rfl, by go_num, HB_21.out, fun h => (by cases h), fun _ => H9.out⟩
         case measure => simp [intOf]; omega
        | true =>
         have HE := qH h1
         cases h2 : leftP P k j c Y1 with
         | false =>
          have H9 := qH (HNX.out (by rw [h1, h2]; rfl))
          have HF := qH h2
          clear h1 h2
          go_wp2_with fail
          refine (l05Left_c sn V P i k Y0 c _ _ (Rd.mono HP.out hs2.bel) HPK.out (by omega) (by omega) (by omega) HI0.out HIC.out).mono ?_
          rintro e w22 ⟨rfl, hbw22⟩
          have hz_w22 : wr.heap.size ≤ w22.heap.size := by have h9 := hbw22.size; (try simp at h9); omega
          have hs23 := hs2.step hbw22
          have HB_24 := qH (HB.out.trans ((hbw22).mono HB.out.size))
          clear HB
          clear k0_0 k0_1 q0_ q1_ qe_ y0_ y1_
          obtain ⟨k0_0, k0_1⟩ := hs23.c2 0 0 0 1
          obtain ⟨q0_, q1_, qe_, y0_, y1_⟩ := cL5 hs23.bel q0 q1 qe y0 y1
          rw [HE.out]
          go_wp2_with fail
          refine (l05Left_c sn V P k j c Y1 _ _ (Rd.mono HP.out hs23.bel) HPK.out (by omega) (by omega) (by omega) HIC.out HI1.out).mono ?_
          rintro e w25 ⟨rfl, hbw25⟩
          have hz_w25 : w22.heap.size ≤ w25.heap.size := by have h9 := hbw25.size; (try simp at h9); omega
          have hs26 := hs23.step hbw25
          have HB_27 := qH (HB_24.out.trans ((hbw25).mono HB_24.out.size))
          clear HB_24
          clear k0_0 k0_1 q0_ q1_ qe_ y0_ y1_
          obtain ⟨k0_0, k0_1⟩ := hs26.c2 0 0 0 1
          obtain ⟨q0_, q1_, qe_, y0_, y1_⟩ := cL5 hs26.bel q0 q1 qe y0 y1
          rw [HF.out]
          go_wp2_with fail
          go_roundw
          case rel => exact ⟨false, c + 1, by omega, rfl, by go_num, HB_27.out, fun h => (by cases h), fun _ => H9.out⟩
          case measure => simp [intOf]; omega
         | true =>
          have H9 := qH (HTY2.out c hcl h1 h2)
          have HF := qH h2
          clear h1 h2
          go_wp2_with fail
          refine (l05Left_c sn V P i k Y0 c _ _ (Rd.mono HP.out hs2.bel) HPK.out (by omega) (by omega) (by omega) HI0.out HIC.out).mono ?_
          rintro e w28 ⟨rfl, hbw28⟩
          have hz_w28 : wr.heap.size ≤ w28.heap.size := by have h9 := hbw28.size; (try simp at h9); omega
          have hs29 := hs2.step hbw28
          have HB_30 := qH (HB.out.trans ((hbw28).mono HB.out.size))
          clear HB
          clear k0_0 k0_1 q0_ q1_ qe_ y0_ y1_
          obtain ⟨k0_0, k0_1⟩ := hs29.c2 0 0 0 1
          obtain ⟨q0_, q1_, qe_, y0_, y1_⟩ := cL5 hs29.bel q0 q1 qe y0 y1
          rw [HE.out]
          go_wp2_with fail
          refine (l05Left_c sn V P k j c Y1 _ _ (Rd.mono HP.out hs29.bel) HPK.out (by omega) (by omega) (by omega) HIC.out HI1.out).mono ?_
          rintro e w31 ⟨rfl, hbw31⟩
          have hz_w31 : w28.heap.size ≤ w31.heap.size := by have h9 := hbw31.size; (try simp at h9); omega
          have hs32 := hs29.step hbw31
          have HB_33 := qH (HB_30.out.trans ((hbw31).mono HB_30.out.size))
          clear HB_30
          clear k0_0 k0_1 q0_ q1_ qe_ y0_ y1_
          obtain ⟨k0_0, k0_1⟩ := hs32.c2 0 0 0 1
          obtain ⟨q0_, q1_, qe_, y0_, y1_⟩ := cL5 hs32.bel q0 q1 qe y0 y1
          rw [HF.out]
          go_wp2_with fail
          go_roundw
          case rel => exact ⟨true, c + 1, by omega, rfl, by go_num, HB_33.out, fun _ => H9.out, fun h => (by cases h)⟩
          case measure => simp [intOf]; omega
      · obtain rfl : c = sn := by omega
        have hcn : ¬ ((c : Int) < c) := by omega
        have HTS2 := qH (show takenP thr L (n + 1) = takenP thr L n by rw [HTS.out, HTN2.out (hr.out.2 rfl)]; simp)
        have HS9 := qH hs2
        have HG9 := qH (fun z hz => And.intro (hgo.out z hz).1 (Nat.lt_of_lt_of_le (hgo.out z hz).2 hbl.out.size))
        have HR9 := qH (ownsRow_below hrow.out hbl.out)
        clear hr hrow hgo
        go_wp2_with fail
        go_roundw
        case rel => exact ⟨n + 1, mo, co, ao, by omega, by go_num, by rw [HTS2.out]; exact hmo.out, HS9.out, HG9.out, by rw [HTS2.out]; exact HR9.out⟩
        case measure => simp [intOf]; omega
  · obtain rfl : n = tl.length := by omega
    have hnl : ¬ ((tl.length : Int) < tl.length) := by omega
    have HTA := qH (show (takenP thr L tl.length).map (·.1) = cutT sn P i j k by rw [← HLL.out]; exact HCU.out)
    have HML := qH (show (cutT sn P i j k).length = mo by rw [← HTA.out, List.length_map, hmo.out])
    have HGD := qH (show decide (mo < tl.length) = goneB sn P i j k by rw [HGB.out, HML.out])
    have HRW := qH hrow.out
    have HGO := qH hgo.out
    clear hrow hgo hst
    go_upto_region 13 with fail
    refine t4R (fun w' => w'.cell? ⟨w.heap.size, 0, none⟩ = some (.int .i64 2) ∧ w'.cell? ⟨w.heap.size, 1, none⟩ = some (.slice ao mo co) ∧ w'.cell? ⟨g, o + KP * 2, none⟩ = some (.int .i64 m) ∧ w'.cell? ⟨g, o + KP * 2 + 1, none⟩ = some (.slice a tl.length cc)) (.float 0 (.float 1 (.float 2 (.float 3 (.float 4 (.float 5 (.float 6 (.float 7 (.float 8 (.float 9 .nil)))))))))) ?_ ?_
    · exact ⟨(hsr.drew).c 0 0, (hsr.drew).c 0 1, qC (hsr.drew).bel q0, qC (hsr.drew).bel q1⟩
    have hs34 := hsr.drew
    have HRW_35 := qH (ownsRow_below HRW.out (belowD _))
    clear HRW
    clear k0_0 k0_1 q0_ q1_
    have hz_wd36 : wr.heap.size ≤ (wr.drew).heap.size := by simp
    generalize hgen_wd36 : wr.drew = wd36 at *
    clear hgen_wd36
    refine t4F ?_
    obtain ⟨k0_0, k0_1⟩ := hs34.c2 0 0 0 1
    obtain ⟨q0_, q1_⟩ := cL2 hs34.bel q0 q1
    refine t4_nil (NoPanic.normal ?_)
    go_upto_region 14 with fail
    refine t4R (fun w' => w'.cell? ⟨w.heap.size, 0, none⟩ = some (.int .i64 2) ∧ w'.cell? ⟨w.heap.size, 1, none⟩ = some (.slice ao mo co) ∧ w'.cell? ⟨g, o + KP * 2, none⟩ = some (.int .i64 m) ∧ w'.cell? ⟨g, o + KP * 2 + 1, none⟩ = some (.slice a tl.length cc)) (.float 0 (.float 1 (.float 2 (.float 4 (.hard 3 (.float 5 (.last 6 .nil))))))) ?_ ?_
    · exact ⟨(hs34.drew).c 0 0, (hs34.drew).c 0 1, qC (hs34.drew).bel q0, qC (hs34.drew).bel q1⟩
    have hs37 := hs34.drew
    have HRW_38 := qH (ownsRow_below HRW_35.out (belowD _))
    clear HRW_35
    clear k0_0 k0_1 q0_ q1_
    have hz_wd39 : wd36.heap.size ≤ (wd36.drew).heap.size := by simp
    generalize hgen_wd39 : wd36.drew = wd39 at *
    clear hgen_wd39
    refine t4F ?_
    refine t4_hard rfl (by rfl) (fun K hK => ?_)
    go_wp2_with (go_at_call 109; refine (HPI.out _).mono ?_; rintro e w40 ⟨rfl, rfl, rfl⟩)
    refine ⟨⟨hs37.c 0 0, hs37.c 0 1, qC hs37.bel q0, qC hs37.bel q1⟩, ?_⟩
    refine t4F ?_
    refine t4_last rfl (by rfl) (fun K hK => ?_)
    obtain ⟨k0_0, k0_1⟩ := hs37.c2 0 0 0 1
    obtain ⟨q0_, q1_⟩ := cL2 hs37.bel q0 q1
    have HGH := qH (((hs37.bel).block g hltg).trans HHH.out)
    have HRL := qH (HPU.out (takenP thr L tl.length) wd39 28 (.slice ao mo co) 2 (i64_of 2 (by decide) (by decide)) (takenP_sub _ _ _) hs37.bel (by rw [hmo.out]; exact HRW_38.out) (fun z hz => by have := (HGO.out z hz).1; omega))
    rw [HTA.out] at HRL
    have HBW := qH ((ButP.of (A := fun z => (Value.slice (some ⟨g, o, none⟩) P.length c).ownBlock = some z) hs37.bel).trans (butP_rel wd39 g (o + KP * 2) (o + KP * 2 + 1) (.int .i64 2) (.slice ao mo co) (vp := .slice (some ⟨g, o, none⟩) P.length c) rfl) (fun z hz => .inl hz))
    have f0 : wd39.frozen? ⟨g, o + KP * 2, none⟩ = false := free_at_block HGH.out
    have f1 : wd39.frozen? ⟨g, o + KP * 2 + 1, none⟩ = false := free_at_block HGH.out
    go_wp2_with fail
    refine t4_nil (NoPanic.normal ?_)
    go_wp2_with fail
    go_ret
    exact ⟨ret_bool HGD.out, by rw [HNP.out]; exact HRL.out, HBW.out⟩
end Go.Proofs.YtpkdiiagnplpkaaGreat
