/-
  CONTRACTS: IsRefutation of the reference. (Printed by wip/genref.py.)
-/
import Derived.Test.YtkbeihkjhmillaaIsRef
import Derived.Test.YtkbeihkjhmillaaLess
import Derived.Test.YtkbeihkjhmillaaRref
import Derived.Test.YtkbeihkjhmillaaHolds
namespace Go.Proofs.Ytkbeihkjhmillaa
open Go.RowKit Go.Shelf Go.IntWalk
open Rep (Rd Own sz)
set_option linter.unusedSimpArgs false
set_option linter.unusedVariables false


set_option maxRecDepth 100000 in
set_option maxHeartbeats 4000000 in
theorem sIsRefutation_c (x : Sys) (v0 v1 v2 : Value) (vs : List Int) (v3 : Value) (w : World) (hx : Rd w [v0, v1, v2] x) (hv : Rd w [v3] vs) :
    Calls Try.prog 22 #[.agg #[v0, v1, v2], v3] w fun e w' => e = .returned (.tuple #[.bool (isRefF x vs).1, .int .i64 (isRefF x vs).2]) ∧ Below w.heap.size w w' := by
  obtain ⟨p, u, l⟩ := x
  have HX := Lib.hid hx
  have HV := Lib.hid hv
  have z := rd_cons rfl hx
  obtain ⟨rfl, _⟩ := rd_i1 z.1
  have z2 := rd_cons rfl z.2
  obtain ⟨rfl, _⟩ := rd_i1 z2.1
  have RL := Lib.hid z2.2
  obtain ⟨a, c, rfl, _⟩ := rd_list RL.out
  obtain ⟨a', c', rfl, hr'⟩ := rd_list hv
  have hb := (rdSl_len hr').2
  unfold maxLen at hb
  clear hx z z2 hv hr'
  have hs := (St.start w).alloc #[.int .i64 p, .int .i64 u, .slice a l.length c] 31 rfl
  go_enter Try.func22, Try.ntmps22
  go_wp2_with fail
  refine (l07Ok_c (p, u, l) _ _ _ _ _ (Rd.mono HX.out hs.bel) (hs.cellAt 0 rfl 0 rfl) (hs.cellAt 0 rfl 1 rfl) (hs.cellAt 0 rfl 2 rfl)).mono ?_
  rintro e w1 ⟨rfl, n1, rfl⟩
  have hs1 := hs.drewN n1
  cases hok : validS (p, u, l) with
  | false =>
    have HK := Lib.hid hok
    clear hok
    go_wp2_with fail
    refine bodyPost_ret (v := .tuple #[.bool false, .int .i64 1]) (by simp [results, Try.results22, go_sem]) rfl ⟨?_, hs1.bel⟩
    unfold isRefF; rw [HK.out]; rfl
  | true =>
    obtain ⟨hp, hu, hl, he⟩ := validS_get hok
    have HK := Lib.hid hok
    have HE := Lib.hid he
    clear hok he
    have q0 := hs1.cellAt 0 rfl 0 rfl
    have q1 := hs1.cellAt 0 rfl 1 rfl
    have q2 := hs1.cellAt 0 rfl 2 rfl
    by_cases hvl : vs.length = l.length
    rotate_left
    · have hvn : ((vs.length : Int) != l.length) = true := by simp; omega
      have HVL := Lib.hid hvl
      clear hvl
      go_wp2_with fail
      refine bodyPost_ret (v := .tuple #[.bool false, .int .i64 0]) (by simp [results, Try.results22, go_sem]) rfl ⟨?_, hs1.bel⟩
      have : valsOk p vs l.length = false := by
        cases h : valsOk p vs l.length with
        | false => rfl
        | true => exact absurd (valsOk_get h).1 (by have := HVL.out; omega)
      unfold isRefF; simp only [HK.out, this]; rfl
    · have hvn : ((vs.length : Int) != l.length) = false := by simp; omega
      have HVL := Lib.hid hvl
      have hvle : vs.length ≤ l.length := by omega
      clear hvl
      obtain ⟨U, rfl⟩ : ∃ U : Nat, u = U := ⟨u.toNat, by omega⟩
      have hp0 : 2 ≤ p := by omega
      have hp3 : p ≤ 3 := by omega
      have HG := Lib.hid (fun j hj => isRef_good vs hp0 HE.out j hj)
      have HF := Lib.hid (fun j hj => isRef_flat vs hp0 HE.out j hj)
      go_wp2_with (at_make; refine wpList_make_rep _ rfl _ _ 25 rfl E_ints (0 : Int) own0_int U (by omega) rfl rfl ?_)
      intro w3 hown hb3 hz3
      have hs3 := (hs1.step (by simpa using hb3)).alloc #[.slice (some ⟨w.heap.size + 1, 0, none⟩) U U, .int .i64 0, .slice none 0 0] 84 (n := w.heap.size + 1 + 1) (by simpa using hz3.symm)
      have hR0 := Lib.hid (ownSl_mono hown (belowA _ (.cells #[.slice (some ⟨w.heap.size + 1, 0, none⟩) U U, .int .i64 0, .slice none 0 0] 84)))
      clear hown q0 q1 q2
      go_wp2_with fail
      go_loopw [7] (fun i wr => ∃ (j : Nat), j ≤ l.length ∧ i = .int .i64 j ∧ Hid (∀ z, z < j → inB (vs.getD z 0) 0 (p - 1) = true) ∧ Hid (St w wr.heap.size wr [(w.heap.size, #[.int .i64 p, .int .i64 U, .slice a l.length c], 31), (w.heap.size + 1 + 1, #[.slice (some ⟨w.heap.size + 1, 0, none⟩) U U, .int .i64 (isRefS p l vs U j).2.1, .slice none 0 0], 84)]) ∧ Hid (OwnSl [w.heap.size + 1] wr (.slice (some ⟨w.heap.size + 1, 0, none⟩) U U) (isRefS p l vs U j).1)) (fun i _ => l.length - (intOf i).toNat)
      case atStart =>
        refine ⟨0, Nat.zero_le _, rfl, fun z hz => absurd hz (Nat.not_lt_zero _), hs3.up hs3.hi (Nat.le_refl _), ?_⟩
        simpa [Hid, isRefS] using hR0.out
      case round =>
        obtain ⟨j, hj, rfl, hin, hst, how⟩ := hrel
        have hzw : w.heap.size + 1 + 1 < wr.heap.size := (hst.out.box _ (List.mem_of_getElem? (i := 1) rfl)).2.1
        by_cases hlt : j < l.length
        · have hltv : j < vs.length := by rw [HVL.out]; exact hlt
          obtain ⟨bl, ol, y0, y1, rfl, f00, f01, hx⟩ := rd_two_at rfl RL.out j hlt
          have f0 := cellL hst.out.bel f00
          have f1 := cellL hst.out.bel f01
          obtain ⟨bv, ov, rfl, fv, hIv⟩ := rd_int_at HV.out j hltv
          have hge := Lib.hid (getD_eqn HE.out hlt)
          have eE : l.getD j ([], 0) = l[j] := by simp [List.getD, hlt]
          have eV : vs.getD j 0 = vs[j] := by simp [List.getD, hltv]
          have hstep := Lib.hid (show isRefS p l vs U (j + 1) = lessS p (p - vs.getD j 0) (isRefS p l vs U j) ((l.getD j ([], 0)).1, (l.getD j ([], 0)).2, []) from rfl)
          have hin1 := Lib.hid (show ∀ b, inB (vs.getD j 0) 0 (p - 1) = b → inB vs[j] 0 (p - 1) = b from fun b h => by rw [← eV]; exact h)
          have hin2 := Lib.hid (show inB vs[j] 0 (p - 1) = true → ∀ z, z < j + 1 → inB (vs.getD z 0) 0 (p - 1) = true from fun h z hz => by
            rcases Nat.lt_or_ge z j with h1 | h1
            · exact hin.out z h1
            · obtain rfl : z = j := by omega
              rw [eV]; exact h)
          have hno := Lib.hid (show inB vs[j] 0 (p - 1) = false → valsOk p vs l.length = false from fun h => by
            simp only [valsOk, Bool.and_eq_false_iff]
            exact .inr (List.all_eq_false.2 ⟨_, List.getElem_mem hltv, by simp [h]⟩))
          rw [eV] at hstep
          rw [eE] at hge hstep
          have HXE := Lib.hid hx
          clear hx eE eV hin1
          have hjv : (j : Int) < vs.length := by omega
          have q0 := hst.out.cellAt 0 rfl 0 rfl
          have q2 := hst.out.cellAt 0 rfl 2 rfl
          have fv1 := cellL hst.out.bel fv
          go_wp2_with fail
          refine wp_region_noPanic (wp_region_el (fun w' => w'.cell? ⟨w.heap.size, 0, none⟩ = some (.int .i64 p) ∧ w'.cell? ⟨bv, ov + j, none⟩ = some (.int .i64 vs[j])) [(0, 0), (1, 0), (2, 0), (3, 0), (4, 0), (5, 0), (6, 0), (7, 1), (8, 0)] (by kernel_rfl) (by kernel_rfl) (by kernel_rfl) rfl ?_ (fun _ _ _ _ _ h => h) ?_)
          · exact ⟨q0, fv1⟩
          (repeat (first | (apply el_skip rfl (by rfl); try simp only [Act.put, List.setIfInBounds_toArray, List.set_cons_zero, List.set_cons_succ]) | (apply el_float rfl (by rfl); (· (intro w' hS; go_simp <;> with_reducible rfl)); (try simp only [Act.put, List.setIfInBounds_toArray, List.set_cons_zero, List.set_cons_succ]))))
          refine el_hard rfl (by rfl) (fun K hK => ?_)
          go_wp2_with (go_at_call 72; refine (l00In_c vs[j] 0 (p - 1) _).mono ?_; rintro e w4 ⟨rfl, rfl⟩)
          refine ⟨⟨q0, fv1⟩, ?_⟩
          (repeat (first | (apply el_skip rfl (by rfl); try simp only [Act.put, List.setIfInBounds_toArray, List.set_cons_zero, List.set_cons_succ]) | (apply el_float rfl (by rfl); (· (intro w' hS; go_simp <;> with_reducible rfl)); (try simp only [Act.put, List.setIfInBounds_toArray, List.set_cons_zero, List.set_cons_succ]))))
          refine el_nil (NoPanic.normal ?_)
          cases hii : inB vs[j] 0 (p - 1) with
          | false =>
            have hv0 := Lib.hid (hno.out hii)
            have HII := Lib.hid hii
            clear hii
            go_wp2_with fail
            refine bodyPost_ret (v := .tuple #[.bool false, .int .i64 0]) (by simp [results, Try.results22, go_sem]) rfl ⟨?_, hst.out.drew.bel⟩
            unfold isRefF; simp only [HK.out, hv0.out]; rfl
          | true =>
            have hin3 := Lib.hid (hin2.out hii)
            have gv := inB_true hii
            have HII := Lib.hid hii
            clear hii hin2 hno
            generalize vs[j] = B at *
            generalize l[j] = E at *
            obtain ⟨El, Er⟩ := E
            have ze := rd_cons rfl HXE.out
            have RE := Lib.hid ze.1
            obtain ⟨ae, ce, rfl, _⟩ := rd_list RE.out
            obtain ⟨rfl, hIr⟩ := rd_i1 ze.2
            obtain ⟨gE1, gE2, gE3⟩ := eqn_good hge.out
            simp only at gE1 gE2 gE3
            have GE1 := Lib.hid gE1
            have GE2 := Lib.hid gE2
            clear ze HXE hge gE1 gE2
            have hjl : (j : Int) < l.length := by omega
            go_wp2_with fail
            refine wp_region_noPanic (wp_region_el (fun w' => w'.cell? ⟨w.heap.size, 2, none⟩ = some (.slice (some ⟨bl, ol, none⟩) l.length c) ∧ w'.cell? ⟨bl, ol + j * 2, none⟩ = some (.slice ae El.length ce) ∧ w'.cell? ⟨bl, ol + j * 2 + 1, none⟩ = some (.int .i64 Er)) [(0, 0), (1, 0), (2, 0), (3, 0), (4, 0), (5, 0), (6, 0), (7, 0), (8, 0), (9, 0), (10, 0), (11, 0), (12, 0), (13, 1), (14, 2)] (by kernel_rfl) (by kernel_rfl) (by kernel_rfl) rfl ?_ (fun _ _ _ _ _ h => h) ?_)
            · exact ⟨q2, f0, f1⟩
            (repeat (first | (apply el_skip rfl (by rfl); try simp only [Act.put, List.setIfInBounds_toArray, List.set_cons_zero, List.set_cons_succ]) | (apply el_float rfl (by rfl); (· (intro w' hS; go_simp <;> with_reducible rfl)); (try simp only [Act.put, List.setIfInBounds_toArray, List.set_cons_zero, List.set_cons_succ]))))
            refine el_hard rfl (by rfl) (fun K hK => ?_)
            go_wp2_with fail
            have hs4 := (hst.out.alloc #[.slice none 0 0, .int .i64 0, .slice none 0 0] 84 rfl).drew.drew
            have hq4 := ((St.start wr).alloc #[.slice none 0 0, .int .i64 0, .slice none 0 0] 84 rfl).drew.drew
            refine ⟨⟨hs4.cellAt 0 rfl 2 rfl, cellL hq4.bel f0, cellL hq4.bel f1⟩, ?_⟩
            have k0 := hs4.cellAt 2 rfl 0 rfl
            have k1 := hs4.cellAt 2 rfl 1 rfl
            have k2 := hs4.cellAt 2 rfl 2 rfl
            have g0 := hs4.freeAt 2 rfl 0
            have g1 := hs4.freeAt 2 rfl 1
            have g2 := hs4.freeAt 2 rfl 2
            refine el_last rfl (by rfl) (fun K hK => ?_)
            go_wp2_with fail
            refine el_nil (NoPanic.normal ?_)
            have hs5 := (hst.out.alloc #[.slice ae El.length ce, .int .i64 Er, .slice none 0 0] 84 rfl).drew.drew
            have hs6 := hs5.drew
            have HOW := Lib.hid (ownSl_heap (w' := (wr.alloc (.cells #[.slice ae El.length ce, .int .i64 Er, .slice none 0 0] 84)).drew.drew.drew) (ownSl_mono how.out (belowA wr (.cells #[.slice ae El.length ce, .int .i64 Er, .slice none 0 0] 84))) rfl)
            clear k0 k1 k2 g0 g1 g2
            have q4 := hs6.cellAt 0 rfl 0 rfl
            have fv4 := cellL hs6.bel fv
            go_wp2_with fail
            refine wp_region_noPanic (wp_region_el (fun w' => w'.cell? ⟨w.heap.size, 0, none⟩ = some (.int .i64 p) ∧ w'.cell? ⟨bv, ov + j, none⟩ = some (.int .i64 B)) [(0, 0), (1, 0), (2, 0), (3, 0), (4, 0), (5, 0), (6, 0), (7, 0), (8, 0), (9, 1)] (by kernel_rfl) (by kernel_rfl) (by kernel_rfl) rfl ?_ (fun _ _ _ _ _ h => h) ?_)
            · exact ⟨q4, fv4⟩
            (repeat (first | (apply el_skip rfl (by rfl); try simp only [Act.put, List.setIfInBounds_toArray, List.set_cons_zero, List.set_cons_succ]) | (apply el_float rfl (by rfl); (· (intro w' hS; go_simp <;> with_reducible rfl)); (try simp only [Act.put, List.setIfInBounds_toArray, List.set_cons_zero, List.set_cons_succ]))))
            refine el_hard rfl (by rfl) (fun K hK => ?_)
            have hb0 : (isRefS p l vs U j).2.2 = [] := List.eq_nil_of_length_eq_zero (HG.out j hj).by_
            have hrow : RowIn (wr.alloc (.cells #[.slice ae El.length ce, .int .i64 Er, .slice none 0 0] 84)).drew.drew.drew (w.heap.size + 1 + 1) 0 #[.slice (some ⟨w.heap.size + 1, 0, none⟩) U U, .int .i64 (isRefS p l vs U j).2.1, .slice none 0 0] 84 [w.heap.size + 1] [] (.slice (some ⟨w.heap.size + 1, 0, none⟩) U U) (.slice none 0 0) (isRefS p l vs U j) :=
              ⟨(hs6.box _ (List.mem_of_getElem? (i := 1) rfl)).2.2, rfl, rfl, rfl, HOW.out, by rw [hb0]; exact .inl ⟨rfl, rfl, none, 0, rfl, Nat.zero_le _⟩, by simp, by simp, by simp⟩
            have hgg := HG.out j hj
            have GG := Lib.hid hgg
            have HS6 := Lib.hid hs6
            clear hgg hb0 hs4 hq4 hs5
            have HROW := Lib.hid hrow
            clear hrow
            have hw1 : IntKind.i64.wrap (p - B) = p - B := i64_in _ (by omega)
            have HOTH := Lib.hid (show ∀ (w' : World) (x : Int), OnlyAt ((w.heap.size + 1 + 1) :: ([w.heap.size + 1] ++ [])) (wr.alloc (.cells #[.slice ae El.length ce, .int .i64 Er, .slice none 0 0] 84)).drew.drew.drew w' → w'.heap[w.heap.size + 1 + 1]? = some (.cells (Array.setIfInBounds #[.slice (some ⟨w.heap.size + 1, 0, none⟩) U U, .int .i64 (isRefS p l vs U j).2.1, .slice none 0 0] (0 + 1) (.int .i64 x)) 84 (0, 0)) → OthIn w' wr.heap.size 0 (.slice ae El.length ce) (.slice none 0 0) (El, Er, []) from fun w' x ho hh => by
              have hbl : Below w.heap.size w w' := HS6.out.bel.trans (ho.below (by simp <;> omega))
              have hkb : w'.heap[wr.heap.size]? = some (.cells #[.slice ae El.length ce, .int .i64 Er, .slice none 0 0] 84 (0, 0)) := (ho.block wr.heap.size (by simp <;> omega)).trans (HS6.out.box _ (List.mem_of_getElem? (i := 2) rfl)).2.2
              exact ⟨cell_at_block hkb, cell_at_block hkb, cell_at_block hkb, Rd.mono RE.out hbl, ⟨none, 0, rfl, by simp, by simp, fun i hi => by simp at hi⟩⟩)
            go_wp2_with (go_at_call 73; refine (less_c p (p - B) (isRefS p l vs U j) (El, Er, []) _ 0 _ 0 _ _ [w.heap.size + 1] [] _ _ _ _ _ HROW.out HOTH.out hp0 hp3 (by omega) (by omega) GG.out.res GG.out.right GG.out.resBy GE2.out gE3 (fun a ha => by cases ha) (by rw [GG.out.len]; exact GE1.out.symm) (by rw [GG.out.by_]; rfl)).mono ?_; rintro e w4 ⟨rfl, hrow, honly⟩)
            rw [← hstep.out] at hrow
            have hblk : w4.heap[w.heap.size + 1 + 1]? = some (.cells #[.slice (some ⟨w.heap.size + 1, 0, none⟩) U U, .int .i64 (isRefS p l vs U (j + 1)).2.1, .slice none 0 0] 84 (0, 0)) := by simpa using hrow.blk
            have hs7 := HS6.out.only (p := [_]) (q := [_]) honly (fun z hz => by simp at hz; omega) (fun x hx hp => by simp at hx hp; rcases hx with rfl | rfl <;> simp at hp <;> omega) hblk
            have HROW' := Lib.hid hrow
            clear hrow hblk
            refine ⟨⟨hs7.cellAt 0 rfl 0 rfl, cellL hs7.bel fv⟩, ?_⟩
            (repeat (first | (apply el_skip rfl (by rfl); try simp only [Act.put, List.setIfInBounds_toArray, List.set_cons_zero, List.set_cons_succ]) | (apply el_float rfl (by rfl); (· (intro w' hS; go_simp <;> with_reducible rfl)); (try simp only [Act.put, List.setIfInBounds_toArray, List.set_cons_zero, List.set_cons_succ]))))
            refine el_nil (NoPanic.normal ?_)
            go_wp2_with fail
            go_roundw
            case rel =>
              exact ⟨j + 1, hlt, by go_num, hin3.out, (hs7.sub (fun x hx => by simp at hx ⊢; rcases hx with rfl | rfl <;> simp)).up hs7.hi (Nat.le_refl _), HROW'.out.own0⟩
            case measure => simp [intOf]; omega
        · obtain rfl : j = l.length := by omega
          have hval := Lib.hid (show valsOk p vs l.length = true by
            simp only [valsOk, Bool.and_eq_true, decide_eq_true_eq, List.all_eq_true]
            refine ⟨by have := HVL.out; omega, fun y hy => ?_⟩
            obtain ⟨z, hz, rfl⟩ := List.getElem_of_mem hy
            have := hin.out z (by have := HVL.out; omega)
            simpa [List.getD, hz] using this)
          have q0 := hst.out.cellAt 1 rfl 0 rfl
          have q1 := hst.out.cellAt 1 rfl 1 rfl
          have hnj : ¬ ((l.length : Int) < vs.length) := by omega
          go_wp2_with fail
          refine (l07First_c _ _ _ (by have := ownSl_rd how.out; exact this)).mono ?_
          rintro e w4 ⟨rfl, rfl⟩
          have hall := Lib.hid (show decide (firstI (fun a => a != 0) (isRefS p l vs U l.length).1 < 0) = (isRefS p l vs U l.length).1.all (fun a => a == 0) by
            rw [← all_of_any0, ← firstI_any]
            by_cases h : 0 ≤ firstI (fun a => a != 0) (isRefS p l vs U l.length).1
            · simp [h]
            · simp [h]; omega)
          have hF := Lib.hid (show contrQ (isRefRow p l vs U l.length) = ((isRefS p l vs U l.length).1.all (fun a => a == 0) && (isRefS p l vs U l.length).2.1 != 0) by
            rw [← HF.out l.length (Nat.le_refl _), contrQ_flat])
          by_cases hfi : firstI (fun a => a != 0) (isRefS p l vs U l.length).1 < 0
          · have HFI := Lib.hid hfi
            go_wp2_with fail
            refine bodyPost_ret (v := .tuple #[.bool ((isRefS p l vs U l.length).2.1 != 0), .int .i64 0]) (by simp [results, Try.results22, go_sem]) rfl ⟨?_, hst.out.bel⟩
            have h1 := hall.out
            rw [decide_eq_true HFI.out] at h1
            unfold isRefF; simp only [HK.out, hval.out, Int.toNat_natCast, hF.out, ← h1, Bool.true_and]; rfl
          · have HFI := Lib.hid hfi
            go_wp2_with fail
            refine bodyPost_ret (v := .tuple #[.bool false, .int .i64 0]) (by simp [results, Try.results22, go_sem]) rfl ⟨?_, hst.out.bel⟩
            have h1 := hall.out
            rw [decide_eq_false (Int.not_lt.2 HFI.out)] at h1
            unfold isRefF; simp only [HK.out, hval.out, Int.toNat_natCast, hF.out, ← h1, Bool.false_and]; rfl

end Go.Proofs.Ytkbeihkjhmillaa
