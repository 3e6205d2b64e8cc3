/-
  CONTRACTS: making pair relations consistent: the reference's side.
-/
import Derived.Test.YtjkjfjpajmjglaaGreatThrough
import Derived.Test.YtjkjfjpajmjglaaGreatFirstS
import Derived.Test.YtjkjfjpajmjglaaGreatMakeP
import Derived.Test.YtjkjfjpajmjglaaGreatArcsS
namespace Go.Proofs.YtjkjfjpajmjglaaGreat
open Go.RowKit Go.Shelf Go.IntWalk
open Rep (Rd Own sz)
set_option linter.unusedSimpArgs false
set_option linter.unusedVariables false

def nePV (a : Value) (b : Nat) : Nat := if intOf a = (b : Int) then 0 else 1
set_option maxRecDepth 100000 in
set_option maxHeartbeats 16000000 in
theorem l05Pairs_c (size : Int) (V C tb xb : Nat) (P0 : List RelT) (vp : Value) (w0 w : World) (hb : Below w0.heap.size w0 w) (hd : Ip (fun z => w0.heap.size ≤ z) w [vp] P0) (hA : PotP size V C (P0, [])) (hs : 1 ≤ size ∧ size ≤ 4) (hV : 1 ≤ V ∧ V ≤ 10) (hC : C ≤ 1000000000)
    (tc : w0.cell? ⟨tb, 0, none⟩ = some (.int .i64 size)) (xc : w0.cell? ⟨xb, 0, none⟩ = some (.int .i64 V)) :
    Calls Tryz.prog 75 #[.pointer (some ⟨tb, 0, none⟩), .pointer (some ⟨xb, 0, none⟩), vp] w fun e w' => ∃ gs co, e = .returned (.slice (some ⟨gs, 0, none⟩) (pairsA size V (C + 1) (P0, [])).2.length co) ∧ PairW w0 w.heap.size vp 103 [] w' gs co (pairsA size V (C + 1) (P0, [])) := by
  have HA := Lib.hid hA
  have hs0 := (St.start w0).step hb
  have HD := Lib.hid hd
  have hbz := hb.size
  clear hA hd hb
  have tc_ := cellL hs0.bel tc
  clear tc_
  have tc_ := cellL hs0.bel tc
  have xc_ := cellL hs0.bel xc
  have HW := Lib.hid (show PairW w0 w.heap.size vp 103 [] (w.alloc (.cells #[] 103)) w.heap.size 0 (P0, []) from by
    have h3 := (hs0.step (belowA w (.cells #[] 103)))
    refine ⟨h3.up (by simp; omega) (Nat.le_refl _), by simp, hbz, ?_, by have h := row_made (size := 3) w 103; simpa [flat3] using h, ⟨⟨by omega, by simp⟩, fun x hx => by cases hx⟩⟩
    exact ((HD.out.tight.mono (belowA w _)).wk (fun z hz => ⟨⟨hz.1, by have := hz.2; omega⟩, fun x hx => by cases hx⟩)))
  clear HD
  go_enter Tryz.func75, Tryz.ntmps75
  go_wp2_with fail
  go_loopw [7, 8] (fun st bf wl => ∃ (s : PairS) (gs co : Nat) (b : Int) (n : Nat), st = .slice (some ⟨gs, 0, none⟩) s.2.length co ∧ bf = .int .i64 b ∧ Hid (PairW w0 w.heap.size vp 103 [] wl gs co s) ∧ Hid (PotP size V C s) ∧ Hid ((b ≠ (s.2.length : Int) → pairsA size V (C + 1) (P0, []) = pairsA size V n s ∧ C + 1 ≤ n + s.2.length) ∧ (b = (s.2.length : Int) → pairsA size V (C + 1) (P0, []) = s))) (fun st bf _ => 2 * (C - lnV st) + nePV bf (lnV st))
  case atStart => exact ⟨(P0, []), _, _, -1, C + 1, rfl, rfl, HW.out, HA.out, ⟨fun _ => ⟨rfl, by simp⟩, fun h => by simp at h⟩⟩
  case round =>
    clear HW HA
    obtain ⟨s, gs, co, b, n, rfl, rfl, hw, hA, hrun⟩ := hrel
    have hs1 := hw.out.st
    have tc_ := cellL hs1.bel tc
    have xc_ := cellL hs1.bel xc
    by_cases hbn : b = s.2.length
    · have HR2 := Lib.hid (show s = pairsA size V (C + 1) (P0, []) from (hrun.out.2 hbn).symm)
      have HW2 := Lib.hid hw.out
      have hbb : (b != (s.2.length : Int)) = false := by simp [hbn]
      have HBN := Lib.hid hbn
      clear hbn
      go_wp2_with fail
      go_ret
      rw [← HR2.out]
      exact ⟨gs, co, rfl, HW2.out⟩
    · have hr2 := hrun.out.1 hbn
      have HR2 := Lib.hid hr2
      have hpot := hA.out.pot
      have hbb : (b != (s.2.length : Int)) = true := by simp [hbn]
      have HBN := Lib.hid hbn
      clear hr2 hrun hbn
      go_wp2_with fail
      go_loopw [7, 9] (fun st jj wl => ∃ (j : Nat) (u : PairS) (gs co : Nat), 1 ≤ j ∧ j ≤ V ∧ jj = .int .i64 j ∧ st = .slice (some ⟨gs, 0, none⟩) u.2.length co ∧ Hid (PairW w0 w.heap.size vp 103 [] wl gs co u) ∧ Hid (PotP size V C u) ∧ Hid (u = (List.range j).foldl (overJ size V) s)) (fun _ jj _ => V - (intOf jj).toNat)
      case atStart => exact ⟨1, s, gs, co, Nat.le_refl _, hV.1, rfl, rfl, hw.out, hA.out, rfl⟩
      case round =>
        obtain ⟨j, u, gs, co, hj1, hj, rfl, rfl, hw, hA, hu⟩ := hrel
        have hs1 := hw.out.st
        have tc_ := cellL hs1.bel tc
        have xc_ := cellL hs1.bel xc
        by_cases hjV : j < V
        · have hjI : (j : Int) < V := by omega
          go_wp2_with fail
          go_loopw [7, 10] (fun st ii wl => ∃ (i : Nat) (y : PairS) (gs co : Nat), i ≤ j ∧ ii = .int .i64 i ∧ st = .slice (some ⟨gs, 0, none⟩) y.2.length co ∧ Hid (PairW w0 w.heap.size vp 103 [] wl gs co y) ∧ Hid (PotP size V C y) ∧ Hid (y = (List.range i).foldl (overI size V j) u)) (fun _ ii _ => j - (intOf ii).toNat)
          case atStart => exact ⟨0, u, gs, co, Nat.zero_le _, rfl, rfl, hw.out, hA.out, rfl⟩
          case round =>
            obtain ⟨i, y, gs, co, hi, rfl, rfl, hw2, hA2, hy⟩ := hrel
            have hs1 := hw2.out.st
            have tc_ := cellL hs1.bel tc
            have xc_ := cellL hs1.bel xc
            by_cases hij : i < j
            · have hiI : (i : Int) < j := by omega
              go_wp2_with fail
              go_loopw [7, 11] (fun st kk wl => ∃ (k : Nat) (z : PairS) (gs co : Nat), k ≤ V ∧ kk = .int .i64 k ∧ st = .slice (some ⟨gs, 0, none⟩) z.2.length co ∧ Hid (PairW w0 w.heap.size vp 103 [] wl gs co z) ∧ Hid (PotP size V C z) ∧ Hid (z = (List.range k).foldl (throughS size j i) y)) (fun _ kk _ => V - (intOf kk).toNat)
              case atStart => exact ⟨0, y, gs, co, Nat.zero_le _, rfl, rfl, hw2.out, hA2.out, rfl⟩
              case round =>
                obtain ⟨k, z, gs, co, hk, rfl, rfl, hw3, hA3, hz⟩ := hrel
                have hs3 := hw3.out.st
                have tc_ := cellL hs3.bel tc
                have xc_ := cellL hs3.bel xc
                by_cases hkV : k < V
                · have hkI : (k : Int) < V := by omega
                  have HST := Lib.hid (show (List.range (k + 1)).foldl (throughS size j i) y = throughS size j i z k by rw [foldl_range_succ, ← hz.out])
                  by_cases hki : k = i
                  · have hne : ((k : Int) != (i : Int)) = false := by simp [hki]
                    have HE := Lib.hid (HST.out.trans (throughS_no (fun h => h.1 hki)))
                    clear hki
                    go_wp2_with fail
                    go_roundw
                    case rel => exact ⟨k + 1, z, gs, co, by omega, by go_num, rfl, hw3.out, hA3.out, HE.out.symm⟩
                    case measure => simp [intOf]; omega
                  · have hne : ((k : Int) != (i : Int)) = true := by simp; omega
                    by_cases hkj : k = j
                    · have hne2 : ((k : Int) != (j : Int)) = false := by simp [hkj]
                      have HE := Lib.hid (HST.out.trans (throughS_no (fun h => h.2.1 hkj)))
                      clear hki hkj
                      go_wp2_with fail
                      go_roundw
                      case rel => exact ⟨k + 1, z, gs, co, by omega, by go_num, rfl, hw3.out, hA3.out, HE.out.symm⟩
                      case measure => simp [intOf]; omega
                    · have hne2 : ((k : Int) != (j : Int)) = true := by simp; omega
                      have HZL := Lib.hid (show 0 < z.1.length from by rw [hA3.out.ok.len]; exact tri_pos hij hjV)
                      have HKI := Lib.hid hki
                      have HKJ := Lib.hid hkj
                      clear hki hkj
                      go_wp2_with fail
                      refine (l05Through_c size V z.1 i j k vp _ _ hw3.out.dom hA3.out.ok hs hV.2 hij hjV hkV HKI.out HKJ.out).mono ?_
                      rintro e w5 ⟨rfl, hI5, hB5⟩
                      have HW5 := Lib.hid (hw3.out.cut HZL.out hB5 hI5)
                      clear hI5 hB5
                      cases hgb : goneB size z.1 i j k with
                      | false =>
                        have HE := Lib.hid (HST.out.trans (throughS_no (fun h => by rw [hgb] at h; cases h.2.2)))
                        have HSM := Lib.hid (narrow_same hA3.out.ok hij hjV hgb)
                        rw [HSM.out] at HW5
                        clear hgb
                        go_wp2_with fail
                        go_roundw
                        case rel => exact ⟨k + 1, z, gs, co, by omega, by go_num, rfl, HW5.out, hA3.out, HE.out.symm⟩
                        case measure => simp [intOf]; omega
                      | true =>
                        have HE := Lib.hid (HST.out.trans (throughS_yes HKI.out HKJ.out hgb))
                        have HPN := Lib.hid (show PotP size V C (narrowP size z.1 i j k, z.2 ++ [((i : Int), (j : Int), (k : Int))]) from by rw [← throughS_yes HKI.out HKJ.out hgb]; exact throughS_ok hA3.out hij hjV hkV)
                        have HPZ := Lib.hid (show z.2.length + 1 ≤ C by have := HPN.out.pot; simp only [List.length_append, List.length_cons, List.length_nil] at this; omega)
                        clear hgb
                        go_wp2_with (at_builtin; go_loud (refine wpList_append_row _ rfl _ _ _ rfl E_pairs rfl (ownsRow_below HW5.out.row (belowA _ (.cells #[.int .i64 (i : Int), .int .i64 (j : Int), .int .i64 (k : Int)] 103))) (v := .slice (some ⟨gs, 0, none⟩) z.2.length co) (vs := [.int .i64 (i : Int), .int .i64 (j : Int), .int .i64 (k : Int)]) rfl (fun u hu => by simp at hu; rcases hu with rfl | rfl | rfl <;> rfl) ⟨w5.heap.size, 0, none⟩ 1 rfl (World.news_of_block (cs := #[.int .i64 (i : Int), .int .i64 (j : Int), .int .i64 (k : Int)]) (heap_alloc_new _ _)) (by have := HPZ.out; simp only; omega) ?_); intro g9 c9 w9 hat hrow hbut hlt)
                        have HP2 := Lib.hid ((HW5.out.step (belowA _ (.cells #[.int .i64 (i : Int), .int .i64 (j : Int), .int .i64 (k : Int)] 103))).snoc (hat.imp (fun h => by simpa [Value.ownBlock] using h) id) hbut hlt hrow)
                        clear hat hrow hbut hlt
                        go_wp2_with fail
                        go_roundw
                        case rel => exact ⟨k + 1, _, g9, c9, by omega, by go_num, by simp, HP2.out, HPN.out, HE.out.symm⟩
                        case measure => simp [intOf]; omega
                · obtain rfl : k = V := by omega
                  have hnk : ¬ ((k : Int) < k) := by omega
                  have HNX := Lib.hid (show z = (List.range (i + 1)).foldl (overI size k j) u by rw [foldl_range_succ, ← hy.out]; exact hz.out)
                  go_wp2_with fail
                  go_roundw
                  case rel => exact ⟨i + 1, z, gs, co, by omega, by go_num, rfl, hw3.out, hA3.out, HNX.out⟩
                  case measure => simp [intOf]; omega
            · obtain rfl : i = j := by omega
              have hnk : ¬ ((i : Int) < i) := by omega
              have HNX := Lib.hid (show y = (List.range (i + 1)).foldl (overJ size V) s by rw [foldl_range_succ, ← hu.out]; exact hy.out)
              go_wp2_with fail
              go_roundw
              case rel => exact ⟨i + 1, y, gs, co, by omega, by omega, by go_num, rfl, hw2.out, hA2.out, HNX.out⟩
              case measure => simp [intOf]; omega
        · obtain rfl : j = V := by omega
          have hnl : ¬ ((j : Int) < j) := by omega
          have HU := Lib.hid (show u = roundP size j s from hu.out)
          have hn0 : 1 ≤ n := by have := HR2.out.2; omega
          obtain ⟨m, rfl⟩ : ∃ m, n = m + 1 := ⟨n - 1, by omega⟩
          have hpu := hA.out.pot
          have HRU := Lib.hid (show pairsA size j (m + 1) s = if u.2.length = s.2.length then u else pairsA size j m u by rw [pairsA, ← HU.out])
          have HMO := Lib.hid (show s.2.length ≤ u.2.length from by rw [HU.out]; exact roundP_more size j s)
          have HN := Lib.hid (show ((s.2.length : Int) ≠ u.2.length → pairsA size j (C + 1) (P0, []) = pairsA size j m u ∧ C + 1 ≤ m + u.2.length) ∧ ((s.2.length : Int) = u.2.length → pairsA size j (C + 1) (P0, []) = u) from
            ⟨fun h => ⟨by rw [HR2.out.1, HRU.out, if_neg (by omega)], by have h1 := HR2.out.2; have h2 := HMO.out; omega⟩, fun h => by rw [HR2.out.1, HRU.out, if_pos (by omega)]⟩)
          go_wp2_with fail
          go_roundw
          case rel => exact ⟨u, gs, co, s.2.length, m, rfl, rfl, hw.out, hA.out, HN.out⟩
          case measure =>
            have h1 := HMO.out
            have h2 := HBN.out
            show 2 * (C - u.2.length) + (if (s.2.length : Int) = (u.2.length : Int) then 0 else 1) < 2 * (C - s.2.length) + (if b = (s.2.length : Int) then 0 else 1)
            rw [if_neg h2]
            split <;> omega
set_option maxRecDepth 100000 in
set_option maxHeartbeats 4000000 in
theorem sMakePairs_c (t : Tmpl) (t0 t1 : Value) (x : Inst) (x0 x1 : Value) (w : World) (ht : Rd w [t0, t1] t) (hx : Rd w [x0, x1] x) :
    Calls Tryz.prog 27 #[.agg #[t0, t1], .agg #[x0, x1]] w fun e w' => ∃ u0 u1, e = .returned (.tuple #[u0, u1, .int .i64 (makePairsF t x).2]) ∧ Fresh w.heap.size w' [u0, u1] (makePairsF t x).1 ∧ Below w.heap.size w w' := by
  obtain ⟨size, rs⟩ := t
  obtain ⟨vars, cs⟩ := x
  have HT := Lib.hid ht
  have HX := Lib.hid hx
  have zt := rd_cons rfl ht
  obtain ⟨rfl, _⟩ := rd_i1 zt.1
  obtain ⟨at0, ct0, rfl, _⟩ := rd_list zt.2
  have zx := rd_cons rfl hx
  obtain ⟨rfl, _⟩ := rd_i1 zx.1
  obtain ⟨ax, cx, rfl, _⟩ := rd_list zx.2
  clear ht hx zt zx
  have hs1 := (St.start w).alloc #[.int .i64 size, .slice at0 rs.length ct0] 36 (n := w.heap.size) (by simp)
  have k0_0 := hs1.cellAt 0 rfl 0 rfl
  have k0_1 := hs1.cellAt 0 rfl 1 rfl
  have hs2 := hs1.alloc #[.int .i64 vars, .slice ax cs.length cx] 40 (n := w.heap.size + 1) (by simp)
  clear k0_0 k0_1
  have k0_0 := hs2.cellAt 0 rfl 0 rfl
  have k0_1 := hs2.cellAt 0 rfl 1 rfl
  have k1_0 := hs2.cellAt 1 rfl 0 rfl
  have k1_1 := hs2.cellAt 1 rfl 1 rfl
  go_enter Tryz.func27, Tryz.ntmps27
  go_wp2_with fail
  refine (l05Ok_c (size, rs) (vars, cs) _ _ _ _ _ _ _ (Rd.mono HT.out hs2.bel) (Rd.mono HX.out hs2.bel) (hs2.cellAt 0 rfl 0 rfl) (hs2.cellAt 0 rfl 1 rfl) (hs2.cellAt 1 rfl 0 rfl) (hs2.cellAt 1 rfl 1 rfl)).mono ?_
  rintro e w3 ⟨rfl, hbw3⟩
  have hz_w3 : w.heap.size + 1 + 1 ≤ w3.heap.size := by have h9 := hbw3.size; (try simp at h9); omega
  have hs4 := hs2.step hbw3
  clear k0_0 k0_1 k1_0 k1_1
  have k0_0 := hs4.cellAt 0 rfl 0 rfl
  have k0_1 := hs4.cellAt 0 rfl 1 rfl
  have k1_0 := hs4.cellAt 1 rfl 0 rfl
  have k1_1 := hs4.cellAt 1 rfl 1 rfl
  cases h1 : instOk (size, rs) (vars, cs) with
  | false =>
    have H1 := Lib.hid (show makePairsF (size, rs) (vars, cs) = (([], []), 1) by unfold makePairsF; rw [h1]; rfl)
    have HB := Lib.hid ((hs4.bel.trans ((belowA w3 (.cells #[] 116)).mono hs4.bel.size)).trans ((belowA (w3.alloc (.cells #[] 116)) (.cells #[] 103)).mono (by have := hs4.bel.size; simp at this ⊢; omega)))
    clear h1
    go_wp2_with fail
    refine bodyPost_ret (v := .tuple #[.slice (some ⟨w3.heap.size, 0, none⟩) 0 0, .slice (some ⟨w3.heap.size + 1, 0, none⟩) 0 0, .int .i64 1]) (by simp [results, Tryz.results27, go_sem]) rfl ⟨_, _, by rw [H1.out], by rw [H1.out]; exact fresh_nil2 (Nat.zero_le _) (Nat.zero_le _), HB.out⟩
  | true =>
    have hv1 := (instOk_get h1).2.1
    have hsz := (tmplOk_get (instOk_get h1).1).1
    have hcap := cap_le h1
    simp only at hv1 hsz hcap
    obtain ⟨V, rfl⟩ : ∃ V : Nat, vars = (V : Int) := ⟨vars.toNat, by omega⟩
    rw [Int.toNat_natCast] at hcap
    have HI := Lib.hid (pairs_i64 (pairsF_ok (size, rs) ((V : Int), cs)) (by simp only [Int.toNat_natCast]; omega))
    have H1 := Lib.hid (show makePairsF (size, rs) ((V : Int), cs) = (pairsF (size, rs) ((V : Int), cs), 0) by unfold makePairsF; rw [h1]; rfl)
    have HPF := Lib.hid (show pairsF (size, rs) ((V : Int), cs) = pairsA size V (capP size V + 1) (fstP (size, rs) ((V : Int), cs) V, []) by unfold pairsF; simp only [Int.toNat_natCast])
    have HA := Lib.hid (fst_pot (size, rs) ((V : Int), cs) V)
    have HOK := Lib.hid h1
    clear h1
    obtain ⟨wB, hwB⟩ : ∃ x, x = w3 := ⟨_, rfl⟩
    have HSB := Lib.hid (show St w (w.heap.size + 1 + 1) wB _ from by rw [hwB]; exact hs4)
    have HWB := Lib.hid hwB
    go_wp2_with fail
    refine (l05First_c (size, rs) ((V : Int), cs) V _ _ _ _ _ _ _ (Rd.mono HT.out hs4.bel) (Rd.mono HX.out hs4.bel) HOK.out rfl (hs4.cellAt 0 rfl 0 rfl) (hs4.cellAt 0 rfl 1 rfl) (hs4.cellAt 1 rfl 0 rfl) (hs4.cellAt 1 rfl 1 rfl)).mono ?_
    rw [← HWB.out]
    rintro e w5 ⟨vp, rfl, fr5, hb5⟩
    have HB5 := Lib.hid hb5
    have HF5 := Lib.hid (Fresh.ip fr5)
    have tc := HSB.out.cellAt 0 rfl 0 rfl
    have xc := HSB.out.cellAt 1 rfl 0 rfl
    clear fr5 hb5 hwB
    go_wp2_with fail
    refine (l05Pairs_c size V _ _ _ _ vp wB w5 HB5.out (HF5.out.wk (fun z hz => hz.1)) HA.out hsz (by omega) (by omega) tc xc).mono ?_
    rintro e wE ⟨gs, co, rfl, hA⟩
    rw [← HPF.out] at hA
    rw [← HPF.out]
    have HFR := Lib.hid ((pairW_fresh hA HI.out).lower HSB.out.bel.size)
    have HB := Lib.hid (HSB.out.bel.trans (hA.bel.mono HSB.out.bel.size))
    clear hA
    go_wp2_with fail
    refine bodyPost_ret (v := .tuple #[vp, .slice (some ⟨gs, 0, none⟩) (pairsF (size, rs) ((V : Int), cs)).2.length co, .int .i64 0]) (by simp [results, Tryz.results27, go_sem]) rfl ⟨_, _, by rw [H1.out], by rw [H1.out]; exact HFR.out, HB.out⟩

end Go.Proofs.YtjkjfjpajmjglaaGreat
