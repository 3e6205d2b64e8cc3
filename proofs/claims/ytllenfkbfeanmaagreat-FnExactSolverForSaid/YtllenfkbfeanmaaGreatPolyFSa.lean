/-
  CONTRACT: the first polymorphism of a kind, the reference's side.
-/
import Derived.Test.YtllenfkbfeanmaaGreatPolyBSa
import Derived.Test.YtllenfkbfeanmaaGreatTmplBSa
namespace Go.Proofs.YtllenfkbfeanmaaGreat
open Go.RowKit Go.Shelf Go.IntWalk
open Rep (Rd Own sz)
set_option linter.unusedSimpArgs false
set_option linter.unusedVariables false

theorem firstF_up {t : Tmpl} {m n : Nat} {isK : OpT → Bool} (hok : tmplOk t = true) (hmany : manyTo t m t.2.length ≤ 4000) (hn : t.1 ^ m = (n : Int)) :
    firstF t m isK = match upR (fun l => isK ((m : Int), l)) (fitL t m) t.1.toNat n [] 0 0 with | .hit l => (0, ((m : Int), l)) | .out => (7, (0, [])) | .dry _ => (6, (0, [])) := by
  have h1 := pow_ge1 (tmplOk_get hok).1.1 m
  have h2 : (t.1 ^ m).toNat = n := by omega
  unfold firstF
  rw [if_neg (by rw [hok]; decide), if_neg (by omega)]
  unfold firstR
  rw [h2, dfs_up _ _ _ (show 1 ≤ n by omega)]
  cases upR (fun l => isK ((m : Int), l)) (fitL t m) t.1.toNat n [] 0 0 <;> rfl
theorem tabQ_full {n : Nat} {rp : List Int} {a : Nat} (h : rp.length + 1 = n) : tabQ n rp (a + 1) = rp.reverse ++ [(a : Int)] := by
  unfold tabQ
  rw [show n - rp.length - 1 = 0 by omega]
  simp
theorem op_of_tab {t : Tmpl} {m n : Nat} {rp : List Int} {a : Nat} (ht : tmplOk t = true) (hm : 1 ≤ m ∧ m ≤ 3) (hn : t.1 ^ m = (n : Int)) (hl : rp.length + 1 = n) (hv : ValR t rp) (ha : (a : Int) < t.1) : opOk t.1 ((m : Int), rp.reverse ++ [(a : Int)]) = true := by
  have hs := (tmplOk_get ht).1
  simp only [opOk, Bool.and_eq_true, Int.toNat_natCast]
  refine ⟨⟨inB_mk (by omega), inB_mk (by omega)⟩, ?_⟩
  simp only [valsOk, Bool.and_eq_true, decide_eq_true_eq, List.all_eq_true]
  exact ⟨by rw [hn]; simp; omega, fun x hx => inB_mk (Val_snoc hv ha x hx)⟩
def okC (q : Bool) : Int := match q with | true => 0 | false => 1
set_option maxRecDepth 100000 in
set_option maxHeartbeats 4000000 in
theorem l04Asked_c (t : Tmpl) (m : Nat) (tp : Nat) (t0 t1 : Value) (w : World) (ht : Rd w [t0, t1] t) (c0 : w.cell? ⟨tp, 0, none⟩ = some t0) (c1 : w.cell? ⟨tp, 1, none⟩ = some t1) (hm : 1 ≤ m ∧ m ≤ 3) :
    Calls Tryz.prog 28 #[.pointer (some ⟨tp, 0, none⟩), .int .i64 m] w fun e w' => e = .returned (.int .i64 (okC (tmplOk t))) ∧ Below w.heap.size w w' := by
  have H := Lib.hid ht
  have C0 := Lib.hid c0
  have C1 := Lib.hid c1
  clear ht c0 c1
  obtain ⟨Q, hQ⟩ : ∃ Q, Q = tmplOk t := ⟨_, rfl⟩
  rw [← hQ]
  have HQ := Lib.hid hQ
  clear hQ
  go_enter Tryz.func28, Tryz.ntmps28
  go_wp2_with fail
  refine (l01Template_c t tp _ _ _ H.out C0.out C1.out).mono ?_
  rintro e w1 ⟨rfl, hb⟩
  rw [← HQ.out]
  have HB := Lib.hid hb
  have HI := Lib.hid (show inB (m : Int) 1 3 = true from inB_mk (by omega))
  clear hb
  cases Q with
  | true =>
    go_wp2_with fail
    refine (l02Arity_c (m : Int) _).mono ?_
    rintro e w2 ⟨rfl, rfl⟩
    rw [HI.out]
    go_wp2_with fail
    go_ret
    exact ⟨rfl, HB.out⟩
  | false =>
    go_wp2_with fail
    go_ret
    exact ⟨rfl, HB.out⟩
set_option maxRecDepth 100000 in
set_option maxHeartbeats 16000000 in
theorem sFirst_c (t : Tmpl) (m : Nat) (K : Int) (isK : OpT → Bool) (t0 t1 : Value) (w : World) (ht : Rd w [t0, t1] t) (hm : 1 ≤ m ∧ m ≤ 3) (hK : 1 ≤ K ∧ K ≤ 10)
    (HK : ∀ (f : OpT) (pb : Nat) (v0 v1 : Value) (w : World), Rd w [v0, v1] f → w.cell? ⟨pb, 0, none⟩ = some v0 → w.cell? ⟨pb, 0 + 1, none⟩ = some v1 → opOk t.1 f = true → Calls Tryz.prog 33 #[.int .i64 t.1, .pointer (some ⟨pb, 0, none⟩), .int .i64 K] w fun e w' => e = .returned (.bool (isK f)) ∧ Below w.heap.size w w') :
    Calls Tryz.prog 7 #[.agg #[t0, t1], .int .i64 m, .int .i64 K] w fun e w' => ∃ v0 v1, e = .returned (.tuple #[.agg #[v0, v1], .int .i64 (firstF t m isK).1]) ∧ Fresh w.heap.size w' [v0, v1] (firstF t m isK).2 ∧ Below w.heap.size w w' := by
  have HKK := Lib.hid HK
  have HT := Lib.hid ht
  obtain ⟨FF, hFF⟩ : ∃ FF, FF = firstF t m isK := ⟨_, rfl⟩
  rw [← hFF]
  have HFF := Lib.hid hFF
  clear hFF
  obtain ⟨size, rs⟩ := t
  have zt := rd_cons rfl ht
  obtain ⟨rfl, hI⟩ := rd_i1 zt.1
  obtain ⟨at0, ct0, rfl, _⟩ := rd_list zt.2
  clear ht zt HK
  have hs1 := (St.start w).alloc #[.int .i64 size, .slice at0 rs.length ct0] 26 (n := w.heap.size) (by simp)
  have k0_0 := hs1.cellAt 0 rfl 0 rfl
  have k0_1 := hs1.cellAt 0 rfl 1 rfl
  have hs2 := hs1.alloc #[.int .i64 0, .slice none 0 0] 34 (n := w.heap.size + 1) (by simp)
  clear k0_0 k0_1
  have k0_0 := hs2.cellAt 0 rfl 0 rfl
  have k0_1 := hs2.cellAt 0 rfl 1 rfl
  have k1_0 := hs2.cellAt 1 rfl 0 rfl
  have k1_1 := hs2.cellAt 1 rfl 1 rfl
  go_enter Tryz.func7, Tryz.ntmps7
  go_wp2_with fail
  refine (l04Asked_c (size, rs) m w.heap.size _ _ _ (Rd.mono HT.out hs2.bel) (hs2.cellAt 0 rfl 0 rfl) (hs2.cellAt 0 rfl 1 rfl) hm).mono ?_
  rintro e w3 ⟨rfl, hbw3⟩
  have hz_w3 : w.heap.size + 1 + 1 ≤ w3.heap.size := by have h9 := hbw3.size; (try simp at h9); omega
  have hs4 := hs2.step hbw3
  clear k0_0 k0_1 k1_0 k1_1
  have k0_0 := hs4.cellAt 0 rfl 0 rfl
  have k0_1 := hs4.cellAt 0 rfl 1 rfl
  have k1_0 := hs4.cellAt 1 rfl 0 rfl
  have k1_1 := hs4.cellAt 1 rfl 1 rfl
  by_cases hok : tmplOk (size, rs) = true
  · rw [show okC (tmplOk (size, rs)) = 0 by rw [hok]; rfl]
    have HOK := Lib.hid hok
    have hs : 1 ≤ size ∧ size ≤ 4 := (tmplOk_get hok).1
    have HKI := Lib.hid (show inB K 1 10 = true from inB_mk hK)
    go_wp2_with fail
    refine (l00In_c K 1 10 _).mono ?_
    rintro e w5 ⟨rfl, rfl, rfl⟩
    rw [HKI.out]
    obtain ⟨n, hn⟩ : ∃ n : Nat, size ^ m = (n : Int) := ⟨(size ^ m).toNat, by have := pow_ge1 hs.1 m; omega⟩
    have HN := Lib.hid hn
    have hn64 : n ≤ 64 := by
      have h9 : size ^ m ≤ 4 ^ 3 := by
        obtain rfl | rfl | rfl : m = 1 ∨ m = 2 ∨ m = 3 := by omega
        all_goals (obtain rfl | rfl | rfl | rfl : size = 1 ∨ size = 2 ∨ size = 3 ∨ size = 4 := by omega) <;> decide
      rw [hn] at h9
      omega
    clear hn
    by_cases hmany : manyTo (size, rs) m rs.length ≤ 4000
    · have hmanyK := hmany
      go_wp2_with fail
      refine (l04Begin_c (size, rs) m (w.heap.size) n _ hok hm HN.out hn64 _ _ (Rd.mono HT.out hs4.bel) (hs4.cellAt 0 rfl 0 rfl) (hs4.cellAt 0 rfl 1 rfl) hmany).mono ?_
      rintro e w6 ⟨rb, rfl, hbw6, cb, fb, tb, hge, lo, hrq⟩
      have hz_w6 : w3.heap.size ≤ w6.heap.size := by have h9 := hbw6.size; (try simp at h9); omega
      have hs7 := hs4.step hbw6
      clear k0_0 k0_1 k1_0 k1_1
      have k0_0 := hs7.cellAt 0 rfl 0 rfl
      have k0_1 := hs7.cellAt 0 rfl 1 rfl
      have k1_0 := hs7.cellAt 1 rfl 0 rfl
      have k1_1 := hs7.cellAt 1 rfl 1 rfl
      have HRQ := Lib.hid hrq
      have hrbg : w.heap.size + 1 + 1 ≤ rb ∧ w.heap.size + 1 + 1 ≤ tb := by omega
      have HFU := Lib.hid (firstF_up (isK := isK) hok hmany HN.out)
      have hn1 : 1 ≤ n := by have h9 := pow_ge1 hs.1 m; have h8 := HN.out; omega
      clear hrq hge hmanyK hmany
      go_wp2_with fail
      have HST := Lib.hid hs7
      generalize w6.heap.size = hi0 at HRQ
      go_loopw [] (fun wl => ∃ (rp : List Int) (a s q0 : Nat), Hid (St w (w.heap.size + 1 + 1) wl [(w.heap.size, #[.int .i64 size, .slice at0 rs.length ct0], 26), (w.heap.size + 1, #[.int .i64 0, .slice none 0 0], 34)]) ∧ Hid (RunQ lo hi0 wl (size, rs) m rb cb fb tb w.heap.size n 116 167 115 (tabQ n rp a) s (q0 == 1)) ∧ Hid (ValR (size, rs) rp ∧ (a : Int) ≤ size ∧ s ≤ 6000 ∧ ((q0 == 1) = false → rp = []) ∧ ((q0 == 1) = true → rp.length + 1 = n)) ∧ Hid (upR (fun l => isK ((m : Int), l)) (fitL (size, rs) m) size.toNat n [] 0 0 = upR (fun l => isK ((m : Int), l)) (fitL (size, rs) m) size.toNat n rp a s)) (fun wl => 6001 - stepOf wl rb)
      case atStart => exact ⟨[], 0, 0, 0, HST.out, HRQ.out, ⟨fun v hv => (by cases hv), (by show ((0 : Nat) : Int) ≤ size; omega), (by omega), fun _ => rfl, fun h => (by cases h)⟩, rfl⟩
      case round =>
        clear HST HRQ
        obtain ⟨rp, a, s, q0, hst, hrq, hfc, hup⟩ := hrel
        obtain ⟨hv, ha, hs6, hbg, hbg2⟩ := hfc.out
        have hs0 := hst.out
        have hszr := hst.out.hi
        have HSE := Lib.hid hrq.out.stepEq
        have k0_0 := hs0.cellAt 0 rfl 0 rfl
        have k0_1 := hs0.cellAt 0 rfl 1 rfl
        have k1_0 := hs0.cellAt 1 rfl 0 rfl
        have k1_1 := hs0.cellAt 1 rfl 1 rfl
        go_wp2_with fail
        refine (next04_c (size, rs) m rb cb fb tb w.heap.size n lo hi0 _ _ _ rp a s (q0 == 1) _ hok (by omega) hn1 hrq.out hv ha hs6 hbg hbg2).mono ?_
        rintro e w2 ⟨q, rfl, hbut, hnx⟩
        have hs9 := hs0.butIv hbut (fun k hk => by simp only [List.mem_cons, List.not_mem_nil, or_false] at hk; omega) (fun x hx => by simp only [List.mem_cons, List.not_mem_nil, or_false] at hx ⊢; rcases hx with rfl | rfl <;> (try simp only) <;> omega)
        have hz2 := hbut.size
        clear hbut hst hrq hfc hs0 hv hbg hbg2
        clear k0_0 k0_1 k1_0 k1_1
        have k0_0 := hs9.cellAt 0 rfl 0 rfl
        have k0_1 := hs9.cellAt 0 rfl 1 rfl
        have k1_0 := hs9.cellAt 1 rfl 0 rfl
        have k1_1 := hs9.cellAt 1 rfl 1 rfl
        clear k0_0 k0_1 k1_0 k1_1
        have k0_0 := hs9.cellAt 0 rfl 0 rfl
        have k0_1 := hs9.cellAt 0 rfl 1 rfl
        have k1_0 := hs9.cellAt 1 rfl 0 rfl
        have k1_1 := hs9.cellAt 1 rfl 1 rfl
        rcases hnx with ⟨rfl, rp', a', s', hl, hv', ha', hs', hQ', hup'⟩ | ⟨rfl, hup'⟩ | ⟨rfl, hup'⟩
        · have HQ := Lib.hid hQ'
          have HUK := Lib.hid (show firstF (size, rs) m isK = match (if isK ((m : Int), rp'.reverse ++ [(a' : Int)]) then PolyR.hit (rp'.reverse ++ [(a' : Int)]) else upR (fun l => isK ((m : Int), l)) (fitL (size, rs) m) size.toNat n rp' (a' + 1) s') with | .hit l => (0, ((m : Int), l)) | .out => (7, (0, [])) | .dry _ => (6, (0, [])) by rw [HFU.out, hup.out, hup'])
          have HUP := Lib.hid (show isK ((m : Int), rp'.reverse ++ [(a' : Int)]) = false → upR (fun l => isK ((m : Int), l)) (fitL (size, rs) m) size.toNat n [] 0 0 = upR (fun l => isK ((m : Int), l)) (fitL (size, rs) m) size.toNat n rp' (a' + 1) s' from fun h => by
            have h9 := hup.out.trans (hup' (fun l => isK ((m : Int), l)))
            simp only [h] at h9
            exact h9)
          have HOP := Lib.hid (op_of_tab hok hm HN.out hl hv' ha')
          have HTF := Lib.hid (tabQ_full (n := n) (a := a') hl)
          have HVR := Lib.hid hv'
          have HLN := Lib.hid hl
          obtain ⟨sv, hb, hM⟩ := hQ'.qblk
          have y1 : w2.cell? ⟨rb, 1, none⟩ = some (.int .i64 m) := by rw [cell_at_block hb]; rfl
          have y5 : w2.cell? ⟨rb, 5, none⟩ = some (.slice (some ⟨tb, 0, none⟩) n n) := by rw [cell_at_block hb]; rfl
          have HRT := Lib.hid (hQ'.rdTab)
          rw [HTF.out] at HRT
          clear hb hM hQ' hup' hup
          generalize hFL : rp'.reverse ++ [(a' : Int)] = FL at *
          have HFL := Lib.hid (show FL.length = n by rw [← hFL]; simp; omega)
          clear hFL
          have hm3 := hm.2
          rw [show nextC 1 = 0 from rfl, show ((1 : Nat) == 1) = true from rfl]
          have HBQ := Lib.hid (Below.refl w2.heap.size w2)
          have hs'2 := hs'
          have HAV := Lib.hid ha'
          clear hl hv' ha' hs' HN HTF
          go_wp2_with fail
          refine (op_c m n rb tb FL _ (by omega) hm3 HRT.out HFL.out y1 y5).mono ?_
          rintro e w3 ⟨v, rfl, fr, hb3⟩
          have hfv : Fresh _ _ [v] FL := fresh_snd rfl fr
          obtain ⟨af, cf, rfl, _⟩ := rd_list hfv.rd
          clear hfv y1 y5
          have hz_w3 : w2.heap.size ≤ w3.heap.size := by have h9 := hb3.size; (try simp at h9); omega
          have hs8 := hs9.step hb3
          have HBQ_9 := Lib.hid (HBQ.out.trans ((hb3).mono HBQ.out.size))
          clear HBQ
          clear k0_0 k0_1 k1_0 k1_1
          have k0_0 := hs8.cellAt 0 rfl 0 rfl
          have k0_1 := hs8.cellAt 0 rfl 1 rfl
          have k1_0 := hs8.cellAt 1 rfl 0 rfl
          have k1_1 := hs8.cellAt 1 rfl 1 rfl
          have HFR := Lib.hid fr
          have hz22 : w.heap.size + 1 + 1 ≤ w2.heap.size := by omega
          clear fr
          go_upto_region 15 with fail
          have hs10 := hs8.alloc #[.int .i64 m, .slice af FL.length cf] 34 (n := w3.heap.size) (by simp)
          have HBQ_11 := Lib.hid (HBQ_9.out.trans (((belowA _ (.cells #[.int .i64 m, .slice af FL.length cf] 34))).mono HBQ_9.out.size))
          clear HBQ_9
          have HFR_12 := Lib.hid (Fresh.mono HFR.out (belowA _ (.cells #[.int .i64 m, .slice af FL.length cf] 34)))
          clear HFR
          clear k0_0 k0_1 k1_0 k1_1
          have k0_0 := hs10.cellAt 0 rfl 0 rfl
          have k0_1 := hs10.cellAt 0 rfl 1 rfl
          have k1_0 := hs10.cellAt 1 rfl 0 rfl
          have k1_1 := hs10.cellAt 1 rfl 1 rfl
          have k2_0 := hs10.cellAt 2 rfl 0 rfl
          have k2_1 := hs10.cellAt 2 rfl 1 rfl
          have hz_w4 : w3.heap.size + 1 ≤ ((w3.alloc (.cells #[.int .i64 m, .slice af FL.length cf] 34))).heap.size := by simp
          generalize hgen_w4 : (w3.alloc (.cells #[.int .i64 m, .slice af FL.length cf] 34)) = w4 at *
          clear hgen_w4
          go_wp2_with fail
          refine (HKK.out ((m : Int), FL) (w3.heap.size) _ _ _ (Fresh.rd HFR_12.out) (hs10.cellAt 2 rfl 0 rfl) (hs10.cellAt 2 rfl 1 rfl) HOP.out).mono ?_
          rintro e w5 ⟨rfl, hb5⟩
          have hz_w5 : w4.heap.size ≤ w5.heap.size := by have h9 := hb5.size; (try simp at h9); omega
          have hs13 := hs10.step hb5
          have HBQ_14 := Lib.hid (HBQ_11.out.trans ((hb5).mono HBQ_11.out.size))
          clear HBQ_11
          have HFR_15 := Lib.hid (Fresh.mono HFR_12.out hb5)
          clear HFR_12
          clear k0_0 k0_1 k1_0 k1_1 k2_0 k2_1
          have k0_0 := hs13.cellAt 0 rfl 0 rfl
          have k0_1 := hs13.cellAt 0 rfl 1 rfl
          have k1_0 := hs13.cellAt 1 rfl 0 rfl
          have k1_1 := hs13.cellAt 1 rfl 1 rfl
          have k2_0 := hs13.cellAt 2 rfl 0 rfl
          have k2_1 := hs13.cellAt 2 rfl 1 rfl
          cases hk : isK ((m : Int), FL) with
          | true =>
            have hF0 := HUK.out
            rw [hk] at hF0
            obtain rfl : FF = (0, ((m : Int), FL)) := HFF.out.trans hF0
            clear hF0 HFF HUK HUP hk HFU
            have f1_0 := hs13.freeAt 1 rfl 0
            have f1_1 := hs13.freeAt 1 rfl 1
            go_wp2_with fail
            have HFS := Lib.hid ((HFR_15.out.setCell (a := ⟨w.heap.size + 1, 0, none⟩) (by (try simp only); omega) (.int .i64 m)).setCell (a := ⟨w.heap.size + 1, 1, none⟩) (by (try simp only); omega) (.slice af FL.length cf) |>.lower (lo' := w.heap.size) (by omega))
            have hs16 := hs13.set (p := [_]) (by simp <;> omega) 0 (.int .i64 m)
            have hs17 := hs16.set (p := [_]) (by simp <;> omega) 1 (.slice af FL.length cf)
            have x0 := (hs17.cellAt 1 rfl 0 rfl)
            have x1 := (hs17.cellAt 1 rfl 1 rfl)
            exact bodyPost_ret (v := .tuple #[.agg #[.int .i64 m, .slice af FL.length cf], .int .i64 0]) (by simp [results, Tryz.results7, go_sem, x0, x1]) rfl ⟨_, _, rfl, HFS.out, hs17.bel⟩
          | false =>
            have HRL := Lib.hid (HUP.out hk)
            have HQ5 := Lib.hid (HQ.out.mono HBQ_14.out)
            have HS5 := Lib.hid HQ5.out.stepEq
            clear HUK HUP hk
            have hs18 := hs13.low (B' := w.heap.size + 1 + 1) (bx' := [(w.heap.size, #[.int .i64 size, .slice at0 rs.length ct0], 26), (w.heap.size + 1, #[.int .i64 0, .slice none 0 0], 34)]) (by omega) (by (try simp) <;> omega) (fun x hx => by simp only [List.mem_cons, List.not_mem_nil, or_false] at hx; rcases hx with rfl | rfl <;> (refine ⟨?_, ?_⟩ <;> (try simp) <;> (try omega)))
            go_wp2_with fail
            go_roundw
            case rel => exact ⟨rp', a' + 1, s', 1, hs18, HQ5.out, ⟨HVR.out, (by have h9 : (a' : Int) < size := HAV.out; omega), hs'2.2, fun h => (by cases h), fun _ => HLN.out⟩, HRL.out⟩
            case measure =>
              simp only [HS5.out, HSE.out]
              omega
        · rw [show nextC 7 = 7 from rfl, show ((7 : Nat) == 1) = false from rfl]
          obtain rfl : FF = (7, (0, [])) := HFF.out.trans (by rw [HFU.out, hup.out, hup'])
          clear hup hup' HFU HFF
          have f1_0 := hs9.freeAt 1 rfl 0
          have f1_1 := hs9.freeAt 1 rfl 1
          go_wp2_with fail
          have hs19 := hs9.set (p := [_]) (by simp <;> omega) 0 (.int .i64 0)
          have hs20 := hs19.set (p := [_]) (by simp <;> omega) 1 (.slice none 0 0)
          have x0 := (hs20.cellAt 1 rfl 0 rfl)
          have x1 := (hs20.cellAt 1 rfl 1 rfl)
          exact bodyPost_ret (v := .tuple #[.agg #[.int .i64 0, .slice none 0 0], .int .i64 7]) (by simp [results, Tryz.results7, go_sem, x0, x1]) rfl ⟨_, _, rfl, fresh_intO2 ⟨by decide, by decide⟩ fresh_nil_list, hs20.bel⟩
        · rw [show nextC 0 = 0 from rfl, show ((0 : Nat) == 1) = false from rfl]
          obtain rfl : FF = (6, (0, [])) := HFF.out.trans (by
            obtain ⟨s9, h9⟩ := hup' (fun l => isK ((m : Int), l))
            rw [HFU.out, hup.out, h9])
          clear hup hup' HFU HFF
          have f1_0 := hs9.freeAt 1 rfl 0
          have f1_1 := hs9.freeAt 1 rfl 1
          go_wp2_with fail
          have hs21 := hs9.set (p := [_]) (by simp <;> omega) 0 (.int .i64 0)
          have hs22 := hs21.set (p := [_]) (by simp <;> omega) 1 (.slice none 0 0)
          have x0 := (hs22.cellAt 1 rfl 0 rfl)
          have x1 := (hs22.cellAt 1 rfl 1 rfl)
          exact bodyPost_ret (v := .tuple #[.agg #[.int .i64 0, .slice none 0 0], .int .i64 6]) (by simp [results, Tryz.results7, go_sem, x0, x1]) rfl ⟨_, _, rfl, fresh_intO2 ⟨by decide, by decide⟩ fresh_nil_list, hs22.bel⟩
    · have hmany2 : 4000 < manyTo (size, rs) m rs.length := by omega
      clear hmany
      obtain rfl : FF = (3, (0, [])) := HFF.out.trans (by unfold firstF; rw [if_neg (by rw [hok]; decide), if_pos hmany2])
      clear HFF
      go_wp2_with fail
      refine (l04BeginN_c (size, rs) m w.heap.size n _ hok hm HN.out hn64 _ _ (Rd.mono HT.out hs4.bel) (hs4.cellAt 0 rfl 0 rfl) (hs4.cellAt 0 rfl 1 rfl) hmany2).mono ?_
      rintro e w23 ⟨rfl, rfl, rfl⟩
      have f1_0 := hs4.freeAt 1 rfl 0
      have f1_1 := hs4.freeAt 1 rfl 1
      go_wp2_with fail
      have hs24 := hs4.set (p := [_]) (by simp <;> omega) 0 (.int .i64 0)
      have hs25 := hs24.set (p := [_]) (by simp <;> omega) 1 (.slice none 0 0)
      have x0 := (hs25.cellAt 1 rfl 0 rfl)
      have x1 := (hs25.cellAt 1 rfl 1 rfl)
      exact bodyPost_ret (v := .tuple #[.agg #[.int .i64 0, .slice none 0 0], .int .i64 3]) (by simp [results, Tryz.results7, go_sem, x0, x1]) rfl ⟨_, _, rfl, fresh_intO2 ⟨by decide, by decide⟩ fresh_nil_list, hs25.bel⟩
  · have hok2 : tmplOk (size, rs) = false := by simpa using hok
    obtain rfl : FF = (1, (0, [])) := HFF.out.trans (by unfold firstF; rw [if_pos hok2])
    clear HFF
    rw [show okC (tmplOk (size, rs)) = 1 by rw [hok2]; rfl]
    clear hok hok2
    have f1_0 := hs4.freeAt 1 rfl 0
    have f1_1 := hs4.freeAt 1 rfl 1
    go_wp2_with fail
    have hs26 := hs4.set (p := [_]) (by simp <;> omega) 0 (.int .i64 0)
    have hs27 := hs26.set (p := [_]) (by simp <;> omega) 1 (.slice none 0 0)
    have x0 := (hs27.cellAt 1 rfl 0 rfl)
    have x1 := (hs27.cellAt 1 rfl 1 rfl)
    exact bodyPost_ret (v := .tuple #[.agg #[.int .i64 0, .slice none 0 0], .int .i64 1]) (by simp [results, Tryz.results7, go_sem, x0, x1]) rfl ⟨_, _, rfl, fresh_intO2 ⟨by decide, by decide⟩ fresh_nil_list, hs27.bel⟩

end Go.Proofs.YtllenfkbfeanmaaGreat

