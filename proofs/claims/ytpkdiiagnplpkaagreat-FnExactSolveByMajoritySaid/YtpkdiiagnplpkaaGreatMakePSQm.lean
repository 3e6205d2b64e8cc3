import Derived.Test.YtpkdiiagnplpkaaGreatThroughQm
import Derived.Test.YtpkdiiagnplpkaaGreatFirstSQm
import Derived.Test.YtpkdiiagnplpkaaGreatMakePQm
import Derived.Test.YtpkdiiagnplpkaaGreatArcsSQm
set_option linter.unusedSimpArgs false
set_option linter.unusedVariables false
set_option maxHeartbeats 16000000
set_option maxRecDepth 100000
namespace Go.Proofs.YtpkdiiagnplpkaaGreat
open Go.RowKit Go.Shelf Go.IntWalk
open Rep (Rd Own sz)
def nePV (a : Value) (b : Nat) : Nat := if intOf a = (b : Int) then 0 else 1
theorem l05Pairs_c (size : Int) (V C tb xb : Nat) (P0 : List RelT) (vp : Value) (w0 w : World) (hb : Below w0.heap.size w0 w) (hd : Ip (fun z => w0.heap.size ≤ z) w [vp] P0) (hA : PotP size V C (P0, [])) (hs : 1 ≤ size ∧ size ≤ 4) (hV : 1 ≤ V ∧ V ≤ 10) (hC : C ≤ 1000000000)
 (tc : w0.cell? ⟨tb, 0, none⟩ = some (.int .i64 size)) (xc : w0.cell? ⟨xb, 0, none⟩ = some (.int .i64 V)) :
 Calls Tryz.prog 29 #[.pointer (some ⟨tb, 0, none⟩), .pointer (some ⟨xb, 0, none⟩), vp] w fun e w' => ∃ gs co, e = .returned (.slice (some ⟨gs, 0, none⟩) (pairsA size V (C + 1) (P0, [])).2.length co) ∧ PairW w0 w.heap.size vp 114 [] w' gs co (pairsA size V (C + 1) (P0, [])) := by
 have HA := qH hA
 have hs0 := (St.start w0).step hb
 have HD := qH hd
 have hbz := hb.size
 clear hA hd hb
 have tc_ := qC hs0.bel tc
 clear tc_
 obtain ⟨tc_, xc_⟩ := cL2 hs0.bel tc xc
 have HW := qH (show PairW w0 w.heap.size vp 114 [] (w.alloc (.cells #[] 114)) w.heap.size 0 (P0, []) from by
  have h3 := (hs0.step (belowA w (.cells #[] 114)))
  refine ⟨h3.up (by simp; omega) (Nat.le_refl _), by simp, hbz, ?_, by have h := row_made (size := 3) w 114; simpa [flat3] using h, ⟨⟨by omega, by simp⟩, fun x hx => by cases hx⟩⟩
  exact ((HD.out.tight.mono (belowA w _)).wk (fun z hz => ⟨⟨hz.1, by have := hz.2; omega⟩, fun x hx => by cases hx⟩)))
 clear HD
 go_enter Tryz.func29, Tryz.ntmps29
 go_wp2_with fail
 go_loopw [7, 8] (fun st bf wl => ∃ (s : PairS) (gs co : Nat) (b : Int) (n : Nat), st = .slice (some ⟨gs, 0, none⟩) s.2.length co ∧ bf = .int .i64 b ∧ Hid (PairW w0 w.heap.size vp 114 [] wl gs co s) ∧ Hid (PotP size V C s) ∧ Hid ((b ≠ (s.2.length : Int) → pairsA size V (C + 1) (P0, []) = pairsA size V n s ∧ C + 1 ≤ n + s.2.length) ∧ (b = (s.2.length : Int) → pairsA size V (C + 1) (P0, []) = s))) (fun st bf _ => 2 * (C - lnV st) + nePV bf (lnV st))
 case atStart => exact ⟨(P0, []), _, _, -1, C + 1, rfl, rfl, HW.out, HA.out, ⟨fun _ => ⟨rfl, by simp⟩, fun h => by simp at h⟩⟩
 case round =>
  clear HW HA
  obtain ⟨s, gs, co, b, n, rfl, rfl, hw, hA, hrun⟩ := hrel
  have hs1 := hw.out.st
  obtain ⟨tc_, xc_⟩ := cL2 hs1.bel tc xc
  by_cases hbn : b = s.2.length
  · have HR2 := qH (show s = pairsA size V (C + 1) (P0, []) from (hrun.out.2 hbn).symm)
    have HW2 := qH hw.out
    have hbb : (b != (s.2.length : Int)) = false := by simp [hbn]
    have HBN := qH hbn
    clear hbn
    go_wp2_with fail
    go_ret
    rw [← HR2.out]
    exact ⟨gs, co, rfl, HW2.out⟩
  · have hr2 := hrun.out.1 hbn
    have HR2 := qH hr2
    have hpot := hA.out.pot
    have hbb : (b != (s.2.length : Int)) = true := by simp [hbn]
    have HBN := qH hbn
    clear hr2 hrun hbn
    go_wp2_with fail
    go_loopw [7, 9] (fun st jj wl => ∃ (j : Nat) (u : PairS) (gs co : Nat), 1 ≤ j ∧ j ≤ V ∧ jj = .int .i64 j ∧ st = .slice (some ⟨gs, 0, none⟩) u.2.length co ∧ Hid (PairW w0 w.heap.size vp 114 [] wl gs co u) ∧ Hid (PotP size V C u) ∧ Hid (u = (List.range j).foldl (overJ size V) s)) (fun _ jj _ => V - (intOf jj).toNat)
    case atStart => exact ⟨1, s, gs, co, Nat.le_refl _, hV.1, rfl, rfl, hw.out, hA.out, rfl⟩
    case round =>
     obtain ⟨j, u, gs, co, hj1, hj, rfl, rfl, hw, hA, hu⟩ := hrel
     have hs1 := hw.out.st
     obtain ⟨tc_, xc_⟩ := cL2 hs1.bel tc xc
     by_cases hjV : j < V
     · have hjI : (j : Int) < V := by omega
       go_wp2_with fail
       go_loopw [7, 10] (fun st ii wl => ∃ (i : Nat) (y : PairS) (gs co : Nat), i ≤ j ∧ ii = .int .i64 i ∧ st = .slice (some ⟨gs, 0, none⟩) y.2.length co ∧ Hid (PairW w0 w.heap.size vp 114 [] wl gs co y) ∧ Hid (PotP size V C y) ∧ Hid (y = (List.range i).foldl (overI size V j) u)) (fun _ ii _ => j - (intOf ii).toNat)
       case atStart => exact ⟨0, u, gs, co, Nat.zero_le _, rfl, rfl, hw.out, hA.out, rfl⟩
       case round =>
        obtain ⟨i, y, gs, co, hi, rfl, rfl, hw2, hA2, hy⟩ := hrel
        have hs1 := hw2.out.st
        obtain ⟨tc_, xc_⟩ := cL2 hs1.bel tc xc
        by_cases hij : i < j
        · have hiI : (i : Int) < j := by omega
          go_wp2_with fail
          go_loopw [7, 11] (fun st kk wl => ∃ (k : Nat) (z : PairS) (gs co : Nat), k ≤ V ∧ kk = .int .i64 k ∧ st = .slice (some ⟨gs, 0, none⟩) z.2.length co ∧ Hid (PairW w0 w.heap.size vp 114 [] wl gs co z) ∧ Hid (PotP size V C z) ∧ Hid (z = (List.range k).foldl (throughS size j i) y)) (fun _ kk _ => V - (intOf kk).toNat)
          case atStart => exact ⟨0, y, gs, co, Nat.zero_le _, rfl, rfl, hw2.out, hA2.out, rfl⟩
          case round =>
           obtain ⟨k, z, gs, co, hk, rfl, rfl, hw3, hA3, hz⟩ := hrel
           have hs3 := hw3.out.st
           obtain ⟨tc_, xc_⟩ := cL2 hs3.bel tc xc
           by_cases hkV : k < V
           · have hkI : (k : Int) < V := by omega
             have HST := qH (show (List.range (k + 1)).foldl (throughS size j i) y = throughS size j i z k by rw [foldl_range_succ, ← hz.out])
             by_cases hki : k = i
             · have hne : ((k : Int) != (i : Int)) = false := by simp [hki]
               have HE := qH (HST.out.trans (throughS_no (fun h => h.1 hki)))
               clear hki
               go_wp2_with fail
               go_roundw
               case rel => exact ⟨k + 1, z, gs, co, by omega, by go_num, rfl, hw3.out, hA3.out, HE.out.symm⟩
               case measure => simp [intOf]; omega
             · have hne : ((k : Int) != (i : Int)) = true := by simp; omega
               by_cases hkj : k = j
               · have hne2 : ((k : Int) != (j : Int)) = false := by simp [hkj]
                 have HE := qH (HST.out.trans (throughS_no (fun h => h.2.1 hkj)))
                 clear hki hkj
                 go_wp2_with fail
                 go_roundw
                 case rel => exact ⟨k + 1, z, gs, co, by omega, by go_num, rfl, hw3.out, hA3.out, HE.out.symm⟩
                 case measure => simp [intOf]; omega
               · have hne2 : ((k : Int) != (j : Int)) = true := by simp; omega
                 have HZL := qH (show 0 < z.1.length from by rw [hA3.out.ok.len]; exact tri_pos hij hjV)
                 have HKI := qH hki
                 have HKJ := qH hkj
                 clear hki hkj
                 go_wp2_with fail
                 refine (l05Through_c size V z.1 i j k vp _ _ hw3.out.dom hA3.out.ok hs hV.2 hij hjV hkV HKI.out HKJ.out).mono ?_
                 rintro e w5 ⟨rfl, hI5, hB5⟩
                 have HW5 := qH (hw3.out.cut HZL.out hB5 hI5)
                 clear hI5 hB5
                 cases hgb : goneB size z.1 i j k with
                 | false =>
                  have HE := qH (HST.out.trans (throughS_no (fun h => by rw [hgb] at h; cases h.2.2)))
                  have HSM := qH (narrow_same hA3.out.ok hij hjV hgb)
                  rw [HSM.out] at HW5
                  clear hgb
                  go_wp2_with fail
                  go_roundw
                  case rel => exact ⟨k + 1, z, gs, co, by omega, by go_num, rfl, HW5.out, hA3.out, HE.out.symm⟩
                  case measure => simp [intOf]; omega
                 | true =>
                  have HE := qH (HST.out.trans (throughS_yes HKI.out HKJ.out hgb))
                  have HPN := qH (show PotP size V C (narrowP size z.1 i j k, z.2 ++ [((i : Int), (j : Int), (k : Int))]) from by rw [← throughS_yes HKI.out HKJ.out hgb]; exact throughS_ok hA3.out hij hjV hkV)
                  have HPZ := qH (show z.2.length + 1 ≤ C by have := HPN.out.pot; simp only [List.length_append, List.length_cons, List.length_nil] at this; omega)
                  clear hgb
                  go_wp2_with (at_builtin; go_loud (refine wpList_append_row _ rfl _ _ _ rfl E_pairs rfl (ownsRow_below HW5.out.row (belowA _ (.cells #[.int .i64 (i : Int), .int .i64 (j : Int), .int .i64 (k : Int)] 114))) (v := .slice (some ⟨gs, 0, none⟩) z.2.length co) (vs := [.int .i64 (i : Int), .int .i64 (j : Int), .int .i64 (k : Int)]) rfl (fun u hu => by simp at hu; rcases hu with rfl | rfl | rfl <;> rfl) ⟨w5.heap.size, 0, none⟩ 1 rfl (World.news_of_block (cs := #[.int .i64 (i : Int), .int .i64 (j : Int), .int .i64 (k : Int)]) (heap_alloc_new _ _)) (by have := HPZ.out; simp only; omega) ?_); intro g9 c9 w9 hat hrow hbut hlt)
                  have HP2 := qH ((HW5.out.step (belowA _ (.cells #[.int .i64 (i : Int), .int .i64 (j : Int), .int .i64 (k : Int)] 114))).snoc (hat.imp (fun h => by simpa [Value.ownBlock] using h) id) hbut hlt hrow)
                  clear hat hrow hbut hlt
                  go_wp2_with fail
                  go_roundw
                  case rel => exact ⟨k + 1, _, g9, c9, by omega, by go_num, by simp, HP2.out, HPN.out, HE.out.symm⟩
                  case measure => simp [intOf]; omega
           · obtain rfl : k = V := by omega
             have hnk : ¬ ((k : Int) < k) := by omega
             have HNX := qH (show z = (List.range (i + 1)).foldl (overI size k j) u by rw [foldl_range_succ, ← hy.out]; exact hz.out)
             go_wp2_with fail
             go_roundw
             case rel => exact ⟨i + 1, z, gs, co, by omega, by go_num, rfl, hw3.out, hA3.out, HNX.out⟩
             case measure => simp [intOf]; omega
        · obtain rfl : i = j := by omega
          have hnk : ¬ ((i : Int) < i) := by omega
          have HNX := qH (show y = (List.range (i + 1)).foldl (overJ size V) s by rw [foldl_range_succ, ← hu.out]; exact hy.out)
          go_wp2_with fail
          go_roundw
          case rel => exact ⟨i + 1, y, gs, co, by omega, by omega, by go_num, rfl, hw2.out, hA2.out, HNX.out⟩
          case measure => simp [intOf]; omega
     · obtain rfl : j = V := by omega
       have hnl : ¬ ((j : Int) < j) := by omega
       have HU := qH (show u = roundP size j s from hu.out)
       have hn0 : 1 ≤ n := by have := HR2.out.2; omega
       obtain ⟨m, rfl⟩ : ∃ m, n = m + 1 := ⟨n - 1, by omega⟩
       have hpu := hA.out.pot
       have HRU := qH (show pairsA size j (m + 1) s = if u.2.length = s.2.length then u else pairsA size j m u by rw [pairsA, ← HU.out])
       have HMO := qH (show s.2.length ≤ u.2.length from by rw [HU.out]; exact roundP_more size j s)
       have HN := qH (show ((s.2.length : Int) ≠ u.2.length → pairsA size j (C + 1) (P0, []) = pairsA size j m u ∧ C + 1 ≤ m + u.2.length) ∧ ((s.2.length : Int) = u.2.length → pairsA size j (C + 1) (P0, []) = u) from
        ⟨fun h => ⟨by rw [HR2.out.1, HRU.out, if_neg (by omega)], by have h1 := HR2.out.2; have h2 := HMO.out; omega⟩, fun h => by rw [HR2.out.1, HRU.out, if_pos (by omega)]⟩)
       go_wp2_with fail
       go_roundw
       case rel => exact ⟨u, gs, co, s.2.length, m, rfl, rfl, hw.out, hA.out, HN.out⟩
       case measure =>
        have h1 := HMO.out
        have h2 := HBN.out
        show 2 * (C - u.2.length) + (if (s.2.length : Int) = (u.2.length : Int) then 0 else 1) < 2 * (C - s.2.length) + (if b = (s.2.length : Int) then 0 else 1)
        rw [if_neg h2]
        split <;> omega
end Go.Proofs.YtpkdiiagnplpkaaGreat
