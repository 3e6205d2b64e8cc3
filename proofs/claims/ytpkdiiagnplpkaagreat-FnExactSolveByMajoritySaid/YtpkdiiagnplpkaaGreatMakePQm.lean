import Derived.Test.YtpkdiiagnplpkaaGreatNarrowQm
import Derived.Test.YtpkdiiagnplpkaaGreatFirstPQm
import Derived.Test.YtpkdiiagnplpkaaGreatArcFBQm
set_option linter.unusedSimpArgs false
set_option linter.unusedVariables false
set_option maxHeartbeats 16000000
set_option maxRecDepth 100000
namespace Go.Proofs.YtpkdiiagnplpkaaGreat
open Go.RowKit Go.Shelf Go.IntWalk
open Rep (Rd Own sz)
theorem throughS_no {size : Int} {j i k : Nat} {s : PairS} (h : ¬ (k ≠ i ∧ k ≠ j ∧ goneB size s.1 i j k = true)) : throughS size j i s k = s := by unfold throughS; rw [if_neg h]
theorem throughS_yes {size : Int} {j i k : Nat} {s : PairS} (h1 : k ≠ i) (h2 : k ≠ j) (h3 : goneB size s.1 i j k = true) : throughS size j i s k = (narrowP size s.1 i j k, s.2 ++ [((i : Int), (j : Int), (k : Int))]) := by unfold throughS; rw [if_pos ⟨h1, h2, h3⟩]
theorem tri_pos {V i j : Nat} (hij : i < j) (hj : j < V) : 0 < tri V := by have := tri_lt hij hj; omega
theorem fold_len {f : PairS → Nat → PairS} (hf : ∀ s k, s.2.length ≤ (f s k).2.length) {n : Nat} {s u : PairS} (h : u = (List.range n).foldl f s) : s.2.length ≤ u.2.length := by rw [h]; exact foldP_more hf n s
theorem makePairs_c (t : Tmpl) (x : Inst) (V : Nat) (t0 t1 x0 x1 : Value) (w : World) (ht : Rd w [t0, t1] t) (hx : Rd w [x0, x1] x) (hok : instOk t x = true) (hV : x.1 = (V : Int)) :
 Calls Tryz.prog 40 #[.agg #[t0, t1], .agg #[x0, x1]] w fun e w' => ∃ vp gs co, e = .returned (.tuple #[vp, .slice (some ⟨gs, 0, none⟩) (pairsF t x).2.length co]) ∧ PairW w w.heap.size vp 114 [] w' gs co (pairsF t x) := by
 have hv1 := (instOk_get hok).2.1
 have hsz := (tmplOk_get (instOk_get hok).1).1
 have hcap := cap_le hok
 obtain ⟨size, rs⟩ := t
 obtain ⟨vars, cs⟩ := x
 simp only at hV hv1 hsz hcap
 subst hV
 rw [Int.toNat_natCast] at hcap
 have HOK := qH hok
 have HT := qH ht
 have HX := qH hx
 have zt := rd_cons rfl ht
 obtain ⟨rfl, _⟩ := rd_i1 zt.1
 obtain ⟨at0, ct0, rfl, _⟩ := rd_list zt.2
 have zx := rd_cons rfl hx
 obtain ⟨rfl, _⟩ := rd_i1 zx.1
 obtain ⟨ax, cx, rfl, _⟩ := rd_list zx.2
 have HA := qH (fst_pot (size, rs) ((V : Int), cs) V)
 have HPF := qH (show pairsF (size, rs) ((V : Int), cs) = pairsA size V (capP size V + 1) (fstP (size, rs) ((V : Int), cs) V, []) by unfold pairsF; simp only [Int.toNat_natCast])
 clear ht hx zt zx hok
 generalize capP size V = C at *
 have hs1 := (St.start w).alloc #[.int .i64 size, .slice at0 rs.length ct0] 42 (n := w.heap.size) (by simp)
 obtain ⟨k0_0, k0_1⟩ := hs1.c2 0 0 0 1
 have hs2 := hs1.alloc #[.int .i64 V, .slice ax cs.length cx] 46 (n := w.heap.size + 1) (by simp)
 clear k0_0 k0_1
 obtain ⟨k0_0, k0_1, k1_0, k1_1⟩ := hs2.c4 0 0 0 1 1 0 1 1
 go_enter Tryz.func40, Tryz.ntmps40
 go_wp2_with fail
 refine (firstPairs_c (size, rs) ((V : Int), cs) V _ _ _ _ _ (Rd.mono HT.out hs2.bel) (Rd.mono HX.out hs2.bel) HOK.out rfl).mono ?_
 rintro e w3 ⟨vp, rfl, fr, hbw3⟩
 have hz_w3 : w.heap.size + 1 + 1 ≤ w3.heap.size := by have h9 := hbw3.size; (try simp at h9); omega
 have hs4 := hs2.step hbw3
 clear k0_0 k0_1 k1_0 k1_1
 obtain ⟨k0_0, k0_1, k1_0, k1_1⟩ := hs4.c4 0 0 0 1 1 0 1 1
 have HW := qH (show PairW w w.heap.size vp 114 [(w.heap.size, #[.int .i64 size, .slice at0 rs.length ct0], 42), (w.heap.size + 1, #[.int .i64 V, .slice ax cs.length cx], 46)] (w3.alloc (.cells #[] 114)) w3.heap.size 0 (fstP (size, rs) ((V : Int), cs) V, []) from by
  have h3 := (hs4.step (belowA w3 (.cells #[] 114)))
  have hlo := hs4.lo
  refine ⟨h3.up (by simp; omega) (Nat.le_refl _), by simp; omega, Nat.le_refl _, ?_, by have h := row_made (size := 3) w3 114; simpa [flat3] using h, ⟨⟨by omega, by simp⟩, fun x hx => by simp at hx; rcases hx with rfl | rfl <;> simp <;> omega⟩⟩
  refine (fr.ip.mono (belowA w3 _)).wk (fun z hz => ?_)
  have h4 := hz.1
  have h5 := hz.2
  simp at h4
  refine ⟨⟨by omega, by omega⟩, fun x hx => ?_⟩
  simp at hx
  rcases hx with rfl | rfl <;> (simp only; omega))
 clear fr
 generalize fstP (size, rs) ((V : Int), cs) V = P0 at *
 go_wp2_with fail
 go_loopw [7, 8] (fun st ch wl => ∃ (s : PairS) (gs co : Nat) (b : Bool) (n : Nat), st = .slice (some ⟨gs, 0, none⟩) s.2.length co ∧ ch = .bool b ∧ Hid (PairW w w.heap.size vp 114 [(w.heap.size, #[.int .i64 size, .slice at0 rs.length ct0], 42), (w.heap.size + 1, #[.int .i64 V, .slice ax cs.length cx], 46)] wl gs co s) ∧ Hid (PotP size V C s) ∧ Hid ((b = true → pairsA size V (C + 1) (P0, []) = pairsA size V n s ∧ C + 1 ≤ n + s.2.length) ∧ (b = false → pairsA size V (C + 1) (P0, []) = s))) (fun st ch _ => 2 * (C - lnV st) + boV ch)
 case atStart => exact ⟨(P0, []), _, _, true, C + 1, rfl, rfl, HW.out, HA.out, ⟨fun _ => ⟨rfl, by simp⟩, fun h => by cases h⟩⟩
 case round =>
  clear HW HA
  obtain ⟨s, gs, co, b, n, rfl, rfl, hw, hA, hrun⟩ := hrel
  have hs1 := hw.out.st
  obtain ⟨k0_0, k0_1, k1_0, k1_1⟩ := hs1.c4 0 0 0 1 1 0 1 1
  cases b with
  | false =>
   have HR := qH (show s = pairsA size V (C + 1) (P0, []) from (hrun.out.2 rfl).symm)
   have HW2 := qH (hw.out.sub (bx' := []) (fun x hx => by cases hx))
   go_wp2_with fail
   refine bodyPost_ret (v := .tuple #[vp, .slice (some ⟨gs, 0, none⟩) s.2.length co]) (by simp [results, Tryz.results40, go_sem]) rfl ?_
   rw [HPF.out, ← HR.out]
   exact ⟨vp, gs, co, rfl, HW2.out⟩
  | true =>
   have hr2 := hrun.out.1 rfl
   have HR := qH hr2
   have hpot := hA.out.pot
   clear hr2 hrun
   go_wp2_with fail
   go_loopw [7, 8, 20] (fun st ch jj wl => ∃ (j : Nat) (u : PairS) (gs co : Nat), j ≤ V ∧ jj = .int .i64 j ∧ st = .slice (some ⟨gs, 0, none⟩) u.2.length co ∧ ch = .bool (decide (s.2.length < u.2.length)) ∧ Hid (PairW w w.heap.size vp 114 [(w.heap.size, #[.int .i64 size, .slice at0 rs.length ct0], 42), (w.heap.size + 1, #[.int .i64 V, .slice ax cs.length cx], 46)] wl gs co u) ∧ Hid (PotP size V C u) ∧ Hid (u = (List.range j).foldl (overJ size V) s)) (fun _ _ jj _ => V - (intOf jj).toNat)
   case atStart => exact ⟨0, s, gs, co, Nat.zero_le _, rfl, rfl, by simp, hw.out, hA.out, rfl⟩
   case round =>
    obtain ⟨j, u, gs, co, hj, rfl, rfl, rfl, hw, hA, hu⟩ := hrel
    have hs1 := hw.out.st
    obtain ⟨k0_0, k0_1, k1_0, k1_1⟩ := hs1.c4 0 0 0 1 1 0 1 1
    by_cases hjV : j < V
    · have hjI : (j : Int) < V := by omega
      go_wp2_with fail
      go_loopw [7, 8, 24] (fun st ch ii wl => ∃ (i : Nat) (y : PairS) (gs co : Nat), i ≤ j ∧ ii = .int .i64 i ∧ st = .slice (some ⟨gs, 0, none⟩) y.2.length co ∧ ch = .bool (decide (s.2.length < y.2.length)) ∧ Hid (PairW w w.heap.size vp 114 [(w.heap.size, #[.int .i64 size, .slice at0 rs.length ct0], 42), (w.heap.size + 1, #[.int .i64 V, .slice ax cs.length cx], 46)] wl gs co y) ∧ Hid (PotP size V C y) ∧ Hid (y = (List.range i).foldl (overI size V j) u)) (fun _ _ ii _ => j - (intOf ii).toNat)
      case atStart => exact ⟨0, u, gs, co, Nat.zero_le _, rfl, rfl, rfl, hw.out, hA.out, rfl⟩
      case round =>
       obtain ⟨i, y, gs, co, hi, rfl, rfl, rfl, hw2, hA2, hy⟩ := hrel
       have hs1 := hw2.out.st
       obtain ⟨k0_0, k0_1, k1_0, k1_1⟩ := hs1.c4 0 0 0 1 1 0 1 1
       by_cases hij : i < j
       · have hiI : (i : Int) < j := by omega
         go_wp2_with fail
         go_loopw [7, 8, 29] (fun st ch kk wl => ∃ (k : Nat) (z : PairS) (gs co : Nat), k ≤ V ∧ kk = .int .i64 k ∧ st = .slice (some ⟨gs, 0, none⟩) z.2.length co ∧ ch = .bool (decide (s.2.length < z.2.length)) ∧ Hid (PairW w w.heap.size vp 114 [(w.heap.size, #[.int .i64 size, .slice at0 rs.length ct0], 42), (w.heap.size + 1, #[.int .i64 V, .slice ax cs.length cx], 46)] wl gs co z) ∧ Hid (PotP size V C z) ∧ Hid (z = (List.range k).foldl (throughS size j i) y)) (fun _ _ kk _ => V - (intOf kk).toNat)
         case atStart => exact ⟨0, y, gs, co, Nat.zero_le _, rfl, rfl, rfl, hw2.out, hA2.out, rfl⟩
         case round =>
          obtain ⟨k, z, gs, co, hk, rfl, rfl, rfl, hw3, hA3, hz⟩ := hrel
          have hs3 := hw3.out.st
          obtain ⟨k0_0, k0_1, k1_0, k1_1⟩ := hs3.c4 0 0 0 1 1 0 1 1
          by_cases hkV : k < V
          · have hkI : (k : Int) < V := by omega
            have HST := qH (show (List.range (k + 1)).foldl (throughS size j i) y = throughS size j i z k by rw [foldl_range_succ, ← hz.out])
            have HW4 := qH (hw3.out.box #[.int .i64 i, .int .i64 j, .int .i64 k] 114)
            by_cases hki : k = i
            · have hne : ((k : Int) != (i : Int)) = false := by simp [hki]
              have HE := qH (HST.out.trans (throughS_no (fun h => h.1 hki)))
              have HW5 := qH (HW4.out.sub (bx' := [(w.heap.size, #[.int .i64 size, .slice at0 rs.length ct0], 42), (w.heap.size + 1, #[.int .i64 V, .slice ax cs.length cx], 46)]) (fun x hx => by simp at hx ⊢; rcases hx with rfl | rfl <;> simp))
              clear hki
              go_wp2_with fail
              go_roundw
              case rel => exact ⟨k + 1, z, gs, co, by omega, by go_num, rfl, rfl, HW5.out, hA3.out, HE.out.symm⟩
              case measure => simp [intOf]; omega
            · have hne : ((k : Int) != (i : Int)) = true := by simp; omega
              by_cases hkj : k = j
              · have hne2 : ((k : Int) != (j : Int)) = false := by simp [hkj]
                have HE := qH (HST.out.trans (throughS_no (fun h => h.2.1 hkj)))
                have HW5 := qH (HW4.out.sub (bx' := [(w.heap.size, #[.int .i64 size, .slice at0 rs.length ct0], 42), (w.heap.size + 1, #[.int .i64 V, .slice ax cs.length cx], 46)]) (fun x hx => by simp at hx ⊢; rcases hx with rfl | rfl <;> simp))
                clear hki hkj
                go_wp2_with fail
                go_roundw
                case rel => exact ⟨k + 1, z, gs, co, by omega, by go_num, rfl, rfl, HW5.out, hA3.out, HE.out.symm⟩
                case measure => simp [intOf]; omega
              · have hne2 : ((k : Int) != (j : Int)) = true := by simp; omega
                have HZL := qH (show 0 < z.1.length from by rw [hA3.out.ok.len]; exact tri_pos hij hjV)
                have HKI := qH hki
                have HKJ := qH hkj
                clear hki hkj
                have hs5 := hs3.alloc #[.int .i64 i, .int .i64 j, .int .i64 k] 114 (n := wr.heap.size) (by simp)
                clear k0_0 k0_1 k1_0 k1_1
                obtain ⟨k0_0, k0_1, k1_0, k1_1, k2_0, k2_1, k2_2⟩ := hs5.c7 0 0 0 1 1 0 1 1 2 0 2 1 2 2
                go_wp2_with fail
                refine (narrow_c size V z.1 i j k vp _ _ HW4.out.dom hA3.out.ok hsz (by omega) hij hjV hkV HKI.out HKJ.out).mono ?_
                rintro e w5 ⟨rfl, hI5, hB5⟩
                have HW5 := qH (HW4.out.cut HZL.out hB5 hI5)
                clear hI5 hB5
                cases hgb : goneB size z.1 i j k with
                | false =>
                 have HE := qH (HST.out.trans (throughS_no (fun h => by rw [hgb] at h; cases h.2.2)))
                 have HSM := qH (narrow_same hA3.out.ok hij hjV hgb)
                 have HW6 := qH (HW5.out.sub (bx' := [(w.heap.size, #[.int .i64 size, .slice at0 rs.length ct0], 42), (w.heap.size + 1, #[.int .i64 V, .slice ax cs.length cx], 46)]) (fun x hx => by simp at hx ⊢; rcases hx with rfl | rfl <;> simp))
                 rw [HSM.out] at HW6
                 clear hgb
                 go_wp2_with fail
                 go_roundw
                 case rel => exact ⟨k + 1, z, gs, co, by omega, by go_num, rfl, rfl, HW6.out, hA3.out, HE.out.symm⟩
                 case measure => simp [intOf]; omega
                | true =>
                 have HE := qH (HST.out.trans (throughS_yes HKI.out HKJ.out hgb))
                 have HPN := qH (show PotP size V C (narrowP size z.1 i j k, z.2 ++ [((i : Int), (j : Int), (k : Int))]) from by rw [← throughS_yes HKI.out HKJ.out hgb]; exact throughS_ok hA3.out hij hjV hkV)
                 have HPZ := qH (show z.2.length + 1 ≤ C by have := HPN.out.pot; simp only [List.length_append, List.length_cons, List.length_nil] at this; omega)
                 have HSZ := qH (show s.2.length ≤ z.2.length from Nat.le_trans (fold_len (overJ_more size V) hu.out) (Nat.le_trans (fold_len (overI_more size V j) hy.out) (fold_len (throughS_more size j i) hz.out)))
                 have hs5 := HW5.out.st
                 clear hgb
                 obtain ⟨k0_0, k0_1, k1_0, k1_1, k2_0, k2_1, k2_2⟩ := hs5.c7 0 0 0 1 1 0 1 1 2 0 2 1 2 2
                 go_wp2_with (at_builtin; go_loud (refine wpList_append_row _ rfl _ _ _ rfl E_pairs rfl (ownsRow_below HW5.out.row (belowA _ (.cells #[.int .i64 (i : Int), .int .i64 (j : Int), .int .i64 (k : Int)] 114))) (v := .slice (some ⟨gs, 0, none⟩) z.2.length co) (vs := [.int .i64 (i : Int), .int .i64 (j : Int), .int .i64 (k : Int)]) rfl (fun u hu => by simp at hu; rcases hu with rfl | rfl | rfl <;> rfl) ⟨w5.heap.size, 0, none⟩ 1 rfl (World.news_of_block (cs := #[.int .i64 (i : Int), .int .i64 (j : Int), .int .i64 (k : Int)]) (heap_alloc_new _ _)) (by have := HPZ.out; simp only; omega) ?_); intro g9 c9 w9 hat hrow hbut hlt)
                 have HP2 := qH (((HW5.out.step (belowA _ (.cells #[.int .i64 (i : Int), .int .i64 (j : Int), .int .i64 (k : Int)] 114))).snoc (hat.imp (fun h => by simpa [Value.ownBlock] using h) id) hbut hlt hrow).sub (bx' := [(w.heap.size, #[.int .i64 size, .slice at0 rs.length ct0], 42), (w.heap.size + 1, #[.int .i64 V, .slice ax cs.length cx], 46)]) (fun x hx => by simp at hx ⊢; rcases hx with rfl | rfl <;> simp))
                 clear hat hrow hbut hlt
                 go_wp2_with fail
                 go_roundw
                 case rel => exact ⟨k + 1, _, g9, c9, by omega, by go_num, by simp, by have := HSZ.out; simp; omega, HP2.out, HPN.out, HE.out.symm⟩
                 case measure => simp [intOf]; omega
          · obtain rfl : k = V := by omega
            have hnk : ¬ ((k : Int) < k) := by omega
            have HNX := qH (show z = (List.range (i + 1)).foldl (overI size k j) u by rw [foldl_range_succ, ← hy.out]; exact hz.out)
            go_wp2_with fail
            go_roundw
            case rel => exact ⟨i + 1, z, gs, co, by omega, by go_num, rfl, rfl, hw3.out, hA3.out, HNX.out⟩
            case measure => simp [intOf]; omega
       · obtain rfl : i = j := by omega
         have hnk : ¬ ((i : Int) < i) := by omega
         have HNX := qH (show y = (List.range (i + 1)).foldl (overJ size V) s by rw [foldl_range_succ, ← hu.out]; exact hy.out)
         go_wp2_with fail
         go_roundw
         case rel => exact ⟨i + 1, y, gs, co, by omega, by go_num, rfl, rfl, hw2.out, hA2.out, HNX.out⟩
         case measure => simp [intOf]; omega
    · obtain rfl : j = V := by omega
      have hnl : ¬ ((j : Int) < j) := by omega
      have HU := qH (show u = roundP size j s from hu.out)
      have hn0 : 1 ≤ n := by have := HR.out.2; omega
      obtain ⟨m, rfl⟩ : ∃ m, n = m + 1 := ⟨n - 1, by omega⟩
      have hpu := hA.out.pot
      have HRU := qH (show pairsA size j (m + 1) s = if u.2.length = s.2.length then u else pairsA size j m u by rw [pairsA, ← HU.out])
      by_cases hg : s.2.length < u.2.length
      · have HD := qH (show decide (s.2.length < u.2.length) = true from decide_eq_true hg)
        have HN := qH (show pairsA size j (C + 1) (P0, []) = pairsA size j m u ∧ C + 1 ≤ m + u.2.length from ⟨by rw [HR.out.1, HRU.out, if_neg (by omega)], by have := HR.out.2; omega⟩)
        rw [HD.out]
        go_wp2_with fail
        go_roundw
        case rel => exact ⟨u, gs, co, true, m, rfl, rfl, hw.out, hA.out, ⟨fun _ => HN.out, fun h => Bool.noConfusion h⟩⟩
        case measure => simp only [lnV, boV]; omega
      · have HD := qH (show decide (s.2.length < u.2.length) = false from decide_eq_false hg)
        have HN := qH (show s.2.length ≤ u.2.length from by rw [HU.out]; exact roundP_more size j s)
        have HE := qH (show pairsA size j (C + 1) (P0, []) = u from by rw [HR.out.1, HRU.out, if_pos (by have := HN.out; omega)])
        have hus : u.2.length = s.2.length := by have := HN.out; omega
        have HUS := qH hus
        clear hus
        rw [HD.out]
        go_wp2_with fail
        go_roundw
        case rel => exact ⟨u, gs, co, false, 0, rfl, rfl, hw.out, hA.out, ⟨fun h => Bool.noConfusion h, fun _ => HE.out⟩⟩
        case measure => have := HUS.out; simp only [lnV, boV]; omega
end Go.Proofs.YtpkdiiagnplpkaaGreat
