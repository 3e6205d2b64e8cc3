/-
  CONTRACTS: FoldValues; both sides.
-/
import Derived.Test.YtllenfkbfeanmaaGreatTmplBFa
namespace Go.Proofs.YtllenfkbfeanmaaGreat
open Go.RowKit Go.Shelf Go.IntWalk
open Rep (Rd Own sz)
set_option linter.unusedSimpArgs false
set_option linter.unusedVariables false

/-- FoldValues: the value and the fault's number. -/
def foldF (t : Tmpl) (f : OpT) (l : List Int) : Int × Int :=
  if tmplOk t = true ∧ opOk t.1 f = true then
    match l with
    | [] => (0, 2)
    | z :: m => if f.1 = 2 ∧ valsOk t.1 (z :: m) (m.length + 1) = true then (foldV t.1 f z m, 0) else (0, 2)
  else (0, 1)
set_option maxRecDepth 100000 in
set_option maxHeartbeats 4000000 in
theorem FoldValues_c (t : Tmpl) (t0 t1 : Value) (f : OpT) (f0 f1 : Value) (l : List Int) (va : Value) (w : World) (ht : Rd w [t0, t1] t) (hf : Rd w [f0, f1] f) (ha : Rd w [va] l) :
    Calls Tryz.prog 9 #[.agg #[t0, t1], .agg #[f0, f1], va] w fun e w' => e = .returned (.tuple #[.int .i64 (foldF t f l).1, .int .i64 (foldF t f l).2]) ∧ Below w.heap.size w w' := by
  obtain ⟨size, rs⟩ := t
  obtain ⟨ar, tb⟩ := f
  have HT := Lib.hid ht
  have HF := Lib.hid hf
  have HA := Lib.hid ha
  have zt := rd_cons rfl ht
  obtain ⟨rfl, _⟩ := rd_i1 zt.1
  obtain ⟨at0, ct0, rfl, _⟩ := rd_list zt.2
  have zf := rd_cons rfl hf
  obtain ⟨rfl, _⟩ := rd_i1 zf.1
  obtain ⟨af, cf, rfl, _⟩ := rd_list zf.2
  obtain ⟨a, c, rfl, hra⟩ := rd_list ha
  have hb0 := (rdSl_len hra).2
  unfold maxLen at hb0
  clear ht hf ha zt zf hra
  have hs1 := (St.start w).alloc #[.int .i64 size, .slice at0 rs.length ct0] 26 (n := w.heap.size) (by simp)
  have k0_0 := hs1.cellAt 0 rfl 0 rfl
  have k0_1 := hs1.cellAt 0 rfl 1 rfl
  have hs2 := hs1.alloc #[.int .i64 ar, .slice af tb.length cf] 34 (n := w.heap.size + 1) (by simp)
  clear k0_0 k0_1
  have k0_0 := hs2.cellAt 0 rfl 0 rfl
  have k0_1 := hs2.cellAt 0 rfl 1 rfl
  have k1_0 := hs2.cellAt 1 rfl 0 rfl
  have k1_1 := hs2.cellAt 1 rfl 1 rfl
  go_enter Tryz.func9, Tryz.ntmps9
  go_wp2_with fail
  refine (ValidTemplate_c (size, rs) _ _ _ (Rd.mono HT.out hs2.bel)).mono ?_
  rintro e w3 ⟨rfl, hbw3⟩
  have hz_w3 : w.heap.size + 1 + 1 ≤ w3.heap.size := by have h9 := hbw3.size; (try simp at h9); omega
  have hs4 := hs2.step hbw3
  clear k0_0 k0_1 k1_0 k1_1
  have k0_0 := hs4.cellAt 0 rfl 0 rfl
  have k0_1 := hs4.cellAt 0 rfl 1 rfl
  have k1_0 := hs4.cellAt 1 rfl 0 rfl
  have k1_1 := hs4.cellAt 1 rfl 1 rfl
  cases h1 : tmplOk (size, rs) with
  | false =>
    have H1 := Lib.hid (show foldF (size, rs) (ar, tb) l = (0, 1) by unfold foldF; rw [if_neg (by rw [h1]; simp)])
    clear h1
    go_wp2_with fail
    refine bodyPost_ret (v := .tuple #[.int .i64 0, .int .i64 1]) (by simp [results, Tryz.results9, go_sem]) rfl ⟨?_, hs4.bel⟩
    rw [H1.out]
  | true =>
    have HT1 := Lib.hid h1
    have hs := (tmplOk_get h1).1
    simp only at hs
    clear h1
    go_wp2_with fail
    refine (ValidOp_c size (ar, tb) _ _ _ (Rd.mono HF.out hs4.bel)).mono ?_
    rintro e w5 ⟨rfl, hbw5⟩
    have hz_w5 : w3.heap.size ≤ w5.heap.size := by have h9 := hbw5.size; (try simp at h9); omega
    have hs6 := hs4.step hbw5
    clear k0_0 k0_1 k1_0 k1_1
    have k0_0 := hs6.cellAt 0 rfl 0 rfl
    have k0_1 := hs6.cellAt 0 rfl 1 rfl
    have k1_0 := hs6.cellAt 1 rfl 0 rfl
    have k1_1 := hs6.cellAt 1 rfl 1 rfl
    cases h2 : opOk size (ar, tb) with
    | false =>
      have H1 := Lib.hid (show foldF (size, rs) (ar, tb) l = (0, 1) by unfold foldF; simp only; rw [if_neg (by rw [h2]; simp)])
      clear h2
      go_wp2_with fail
      refine bodyPost_ret (v := .tuple #[.int .i64 0, .int .i64 1]) (by simp [results, Tryz.results9, go_sem]) rfl ⟨?_, hs6.bel⟩
      rw [H1.out]
    | true =>
      have HO1 := Lib.hid h2
      have H12 := Lib.hid (show foldF (size, rs) (ar, tb) [] = (0, 2) by unfold foldF; simp only; rw [if_pos ⟨HT1.out, h2⟩])
      have H13 := Lib.hid (fun (z : Int) (m : List Int) => show foldF (size, rs) (ar, tb) (z :: m) = if ar = 2 ∧ valsOk size (z :: m) (m.length + 1) = true then (foldV size (ar, tb) z m, 0) else (0, 2) by unfold foldF; simp only; rw [if_pos ⟨HT1.out, h2⟩])
      clear h2
      by_cases h3 : ar = 2
      · have hne : (ar != 2) = false := by simp [h3]
        have H3 := Lib.hid h3
        clear h3
        cases l with
        | nil =>
          simp only [List.length_nil] at *
          go_wp2_with fail
          refine bodyPost_ret (v := .tuple #[.int .i64 0, .int .i64 2]) (by simp [results, Tryz.results9, go_sem]) rfl ⟨?_, hs6.bel⟩
          rw [H12.out]
        | cons z m =>
          have hlen : (z :: m).length = m.length + 1 := by simp
          rw [hlen] at hb0
          have hl0 : (((z :: m).length : Int) == 0) = false := by simp; omega
          go_wp2_with fail
          refine (areValues_c size (z :: m) _ ((z :: m).length) _ (Rd.mono HA.out hs6.bel) (by omega) (by omega)).mono ?_
          rintro e w7 ⟨rfl, hbw7⟩
          have hz_w7 : w5.heap.size ≤ w7.heap.size := by have h9 := hbw7.size; (try simp at h9); omega
          have hs8 := hs6.step hbw7
          clear k0_0 k0_1 k1_0 k1_1
          have k0_0 := hs8.cellAt 0 rfl 0 rfl
          have k0_1 := hs8.cellAt 0 rfl 1 rfl
          have k1_0 := hs8.cellAt 1 rfl 0 rfl
          have k1_1 := hs8.cellAt 1 rfl 1 rfl
          rw [show valsOk size (z :: m) ((z :: m).length) = valsOk size (z :: m) (m.length + 1) by simp]
          cases h4 : valsOk size (z :: m) (m.length + 1) with
          | false =>
            have H4 := Lib.hid (show (foldF (size, rs) (ar, tb) (z :: m)) = (0, 2) by rw [H13.out, if_neg (fun h => by rw [h4] at h; exact absurd h.2 (by decide))])
            clear h4
            go_wp2_with fail
            refine bodyPost_ret (v := .tuple #[.int .i64 0, .int .i64 2]) (by simp [results, Tryz.results9, go_sem]) rfl ⟨?_, hs8.bel⟩
            rw [H4.out]
          | true =>
            have H4 := Lib.hid (show (foldF (size, rs) (ar, tb) (z :: m)) = (foldV size (ar, tb) z m, 0) by rw [H13.out, if_pos ⟨H3.out, h4⟩])
            have HV := Lib.hid (show ∀ a, a ∈ z :: m → 0 ≤ a ∧ a ≤ size - 1 by
              simp only [valsOk, Bool.and_eq_true, List.all_eq_true] at h4
              exact fun a h => inB_true (h4.2 a h))
            clear h4
            go_wp2_with fail
            refine (folded_c size (ar, tb) z m _ _ _ _ (Rd.mono HF.out hs8.bel) (Rd.mono HA.out hs8.bel) HO1.out H3.out HV.out).mono ?_
            rintro e w9 ⟨rfl, hbw9⟩
            have hz_w9 : w7.heap.size ≤ w9.heap.size := by have h9 := hbw9.size; (try simp at h9); omega
            have hs10 := hs8.step hbw9
            clear k0_0 k0_1 k1_0 k1_1
            have k0_0 := hs10.cellAt 0 rfl 0 rfl
            have k0_1 := hs10.cellAt 0 rfl 1 rfl
            have k1_0 := hs10.cellAt 1 rfl 0 rfl
            have k1_1 := hs10.cellAt 1 rfl 1 rfl
            go_wp2_with fail
            refine bodyPost_ret (v := .tuple #[.int .i64 (foldV size (ar, tb) z m), .int .i64 0]) (by simp [results, Tryz.results9, go_sem]) rfl ⟨?_, hs10.bel⟩
            rw [H4.out]
      · have hne : (ar != 2) = true := by simp [h3]
        have H3 := Lib.hid (show (foldF (size, rs) (ar, tb) l) = (0, 2) by
          cases l with
          | nil => exact H12.out
          | cons z m => rw [H13.out, if_neg (fun h => h3 h.1)])
        clear h3
        go_wp2_with fail
        refine bodyPost_ret (v := .tuple #[.int .i64 0, .int .i64 2]) (by simp [results, Tryz.results9, go_sem]) rfl ⟨?_, hs6.bel⟩
        rw [H3.out]
set_option maxRecDepth 100000 in
set_option maxHeartbeats 4000000 in
theorem sFoldValues_c (t : Tmpl) (t0 t1 : Value) (f : OpT) (f0 f1 : Value) (l : List Int) (va : Value) (w : World) (ht : Rd w [t0, t1] t) (hf : Rd w [f0, f1] f) (ha : Rd w [va] l) :
    Calls Tryz.prog 10 #[.agg #[t0, t1], .agg #[f0, f1], va] w fun e w' => e = .returned (.tuple #[.int .i64 (foldF t f l).1, .int .i64 (foldF t f l).2]) ∧ Below w.heap.size w w' := by
  obtain ⟨size, rs⟩ := t
  obtain ⟨ar, tb⟩ := f
  have HT := Lib.hid ht
  have HF := Lib.hid hf
  have HA := Lib.hid ha
  have zt := rd_cons rfl ht
  obtain ⟨rfl, _⟩ := rd_i1 zt.1
  obtain ⟨at0, ct0, rfl, _⟩ := rd_list zt.2
  have zf := rd_cons rfl hf
  obtain ⟨rfl, _⟩ := rd_i1 zf.1
  obtain ⟨af, cf, rfl, _⟩ := rd_list zf.2
  obtain ⟨a, c, rfl, hra⟩ := rd_list ha
  have hb0 := (rdSl_len hra).2
  unfold maxLen at hb0
  clear ht hf ha zt zf hra
  have hs11 := (St.start w).alloc #[.int .i64 size, .slice at0 rs.length ct0] 26 (n := w.heap.size) (by simp)
  have k0_0 := hs11.cellAt 0 rfl 0 rfl
  have k0_1 := hs11.cellAt 0 rfl 1 rfl
  have hs12 := hs11.alloc #[.int .i64 ar, .slice af tb.length cf] 34 (n := w.heap.size + 1) (by simp)
  clear k0_0 k0_1
  have k0_0 := hs12.cellAt 0 rfl 0 rfl
  have k0_1 := hs12.cellAt 0 rfl 1 rfl
  have k1_0 := hs12.cellAt 1 rfl 0 rfl
  have k1_1 := hs12.cellAt 1 rfl 1 rfl
  go_enter Tryz.func10, Tryz.ntmps10
  go_wp2_with fail
  refine (l01Template_c (size, rs) _ _ _ _ (Rd.mono HT.out hs12.bel) (hs12.cellAt 0 rfl 0 rfl) (hs12.cellAt 0 rfl 1 rfl)).mono ?_
  rintro e w13 ⟨rfl, hbw13⟩
  have hz_w13 : w.heap.size + 1 + 1 ≤ w13.heap.size := by have h9 := hbw13.size; (try simp at h9); omega
  have hs14 := hs12.step hbw13
  clear k0_0 k0_1 k1_0 k1_1
  have k0_0 := hs14.cellAt 0 rfl 0 rfl
  have k0_1 := hs14.cellAt 0 rfl 1 rfl
  have k1_0 := hs14.cellAt 1 rfl 0 rfl
  have k1_1 := hs14.cellAt 1 rfl 1 rfl
  cases h1 : tmplOk (size, rs) with
  | false =>
    have H1 := Lib.hid (show foldF (size, rs) (ar, tb) l = (0, 1) by unfold foldF; rw [if_neg (by rw [h1]; simp)])
    clear h1
    go_wp2_with fail
    refine bodyPost_ret (v := .tuple #[.int .i64 0, .int .i64 1]) (by simp [results, Tryz.results10, go_sem]) rfl ⟨?_, hs14.bel⟩
    rw [H1.out]
  | true =>
    have HT1 := Lib.hid h1
    have hs := (tmplOk_get h1).1
    simp only at hs
    clear h1
    go_wp2_with fail
    refine (l02Ok_c size (ar, tb) _ _ _ _ _ (Rd.mono HF.out hs14.bel) (hs14.cellAt 1 rfl 0 rfl) (hs14.cellAt 1 rfl 1 rfl)).mono ?_
    rintro e w15 ⟨rfl, hbw15⟩
    have hz_w15 : w13.heap.size ≤ w15.heap.size := by have h9 := hbw15.size; (try simp at h9); omega
    have hs16 := hs14.step hbw15
    clear k0_0 k0_1 k1_0 k1_1
    have k0_0 := hs16.cellAt 0 rfl 0 rfl
    have k0_1 := hs16.cellAt 0 rfl 1 rfl
    have k1_0 := hs16.cellAt 1 rfl 0 rfl
    have k1_1 := hs16.cellAt 1 rfl 1 rfl
    cases h2 : opOk size (ar, tb) with
    | false =>
      have H1 := Lib.hid (show foldF (size, rs) (ar, tb) l = (0, 1) by unfold foldF; simp only; rw [if_neg (by rw [h2]; simp)])
      clear h2
      go_wp2_with fail
      refine bodyPost_ret (v := .tuple #[.int .i64 0, .int .i64 1]) (by simp [results, Tryz.results10, go_sem]) rfl ⟨?_, hs16.bel⟩
      rw [H1.out]
    | true =>
      have HO1 := Lib.hid h2
      have H12 := Lib.hid (show foldF (size, rs) (ar, tb) [] = (0, 2) by unfold foldF; simp only; rw [if_pos ⟨HT1.out, h2⟩])
      have H13 := Lib.hid (fun (z : Int) (m : List Int) => show foldF (size, rs) (ar, tb) (z :: m) = if ar = 2 ∧ valsOk size (z :: m) (m.length + 1) = true then (foldV size (ar, tb) z m, 0) else (0, 2) by unfold foldF; simp only; rw [if_pos ⟨HT1.out, h2⟩])
      clear h2
      by_cases h3 : ar = 2
      · have hne : (ar != 2) = false := by simp [h3]
        have H3 := Lib.hid h3
        clear h3
        cases l with
        | nil =>
          simp only [List.length_nil] at *
          go_wp2_with fail
          refine bodyPost_ret (v := .tuple #[.int .i64 0, .int .i64 2]) (by simp [results, Tryz.results10, go_sem]) rfl ⟨?_, hs16.bel⟩
          rw [H12.out]
        | cons z m =>
          have hpos : 0 < (z :: m).length := by simp
          generalize hL : z :: m = L at *
          have HZM := Lib.hid hL.symm
          clear hL
          have hl0 : ((L.length : Int) == 0) = false := beq_eq_false_iff_ne.2 (by omega)
          have HF13 := Lib.hid (show foldF (size, rs) (ar, tb) L = if ar = 2 ∧ valsOk size L L.length = true then (foldV size (ar, tb) z m, 0) else (0, 2) by
            rw [HZM.out]; exact H13.out z m)
          go_wp2_with fail
          go_loopw [8] (fun i wl => ∃ k : Nat, k ≤ L.length ∧ i = .int .i64 k ∧ Hid (Below (w15).heap.size (w15) wl) ∧ Hid (∀ j (hj : j < L.length), j < k → inB L[j] 0 (size - 1) = true)) (fun i _ => L.length - (intOf i).toNat)
          case atStart => exact ⟨0, Nat.zero_le _, rfl, Below.refl _ _, fun j _ hj => absurd hj (Nat.not_lt_zero _)⟩
          case round =>
            obtain ⟨k, hk, rfl, hbl, hr⟩ := hrel
            have hbl2 := hbl.out
            have hz_wr : w15.heap.size ≤ wr.heap.size := by have h9 := hbl2.size; (try simp at h9); omega
            have hs17 := hs16.step hbl2
            clear k0_0 k0_1 k1_0 k1_1
            have k0_0 := hs17.cellAt 0 rfl 0 rfl
            have k0_1 := hs17.cellAt 0 rfl 1 rfl
            have k1_0 := hs17.cellAt 1 rfl 0 rfl
            have k1_1 := hs17.cellAt 1 rfl 1 rfl
            have HBL := Lib.hid hbl2
            clear hbl2 hbl
            by_cases hlt : k < L.length
            · obtain ⟨b, o, rfl, q0, _⟩ := rd_int_at HA.out k hlt
              have hkl : (k : Int) < L.length := by omega
              generalize hY : L[k] = Y at *
              have HY := Lib.hid hY
              clear hY
              clear k0_0 k0_1 k1_0 k1_1
              have k0_0 := hs17.cellAt 0 rfl 0 rfl
              have k0_1 := hs17.cellAt 0 rfl 1 rfl
              have k1_0 := hs17.cellAt 1 rfl 0 rfl
              have k1_1 := hs17.cellAt 1 rfl 1 rfl
              have q0_ := cellL hs17.bel q0
              clear k0_0 k0_1 k1_0 k1_1 q0_
              have k0_0 := hs17.cellAt 0 rfl 0 rfl
              have k0_1 := hs17.cellAt 0 rfl 1 rfl
              have k1_0 := hs17.cellAt 1 rfl 0 rfl
              have k1_1 := hs17.cellAt 1 rfl 1 rfl
              have q0_ := cellL hs17.bel q0
              cases hq : inB Y 0 (size - 1) with
              | false =>
                have HQ := Lib.hid (show (foldF (size, rs) (ar, tb) L) = (0, 2) by
                  rw [HF13.out, if_neg]
                  intro h
                  have h9 := h.2
                  simp only [valsOk, Bool.and_eq_true, List.all_eq_true] at h9
                  have := h9.2 _ (List.getElem_mem hlt)
                  rw [HY.out, hq] at this
                  exact absurd this (by decide))
                go_upto_region 8 with fail
                refine wp_region_noPanic (wp_region_tree4 (fun w' => w'.cell? ⟨w.heap.size, 0, none⟩ = some (.int .i64 size) ∧ w'.cell? ⟨w.heap.size, 1, none⟩ = some (.slice at0 rs.length ct0) ∧ w'.cell? ⟨w.heap.size + 1, 0, none⟩ = some (.int .i64 ar) ∧ w'.cell? ⟨w.heap.size + 1, 1, none⟩ = some (.slice af tb.length cf) ∧ w'.cell? ⟨b, o + k, none⟩ = some (.int .i64 Y)) (.float 0 (.float 1 (.float 2 (.float 3 (.float 4 (.float 5 (.float 6 (.hard 7 (.float 8 .nil))))))))) (by kernel_rfl) (by kernel_rfl) (by kernel_rfl) rfl ?_ (fun _ _ _ _ _ h => h) ?_)
                · exact ⟨(hs17.drew).cellAt 0 rfl 0 rfl, (hs17.drew).cellAt 0 rfl 1 rfl, (hs17.drew).cellAt 1 rfl 0 rfl, (hs17.drew).cellAt 1 rfl 1 rfl, cellL (hs17.drew).bel q0⟩
                have hs18 := hs17.drew
                have HBL_19 := Lib.hid (HBL.out.trans (((belowD _)).mono HBL.out.size))
                clear HBL
                clear k0_0 k0_1 k1_0 k1_1 q0_
                have hz_wd20 : wr.heap.size ≤ (wr.drew).heap.size := by simp
                generalize hgen_wd20 : wr.drew = wd20 at *
                have HG_wd20 := Lib.hid hgen_wd20
                clear hgen_wd20
                (repeat (first | (apply t4_skip rfl (by rfl); try simp only [Act.put, List.setIfInBounds_toArray, List.set_cons_zero, List.set_cons_succ]) | (apply t4_float rfl (by rfl); (· (intro w' hS; go_simp <;> with_reducible rfl)); (try simp only [Act.put, List.setIfInBounds_toArray, List.set_cons_zero, List.set_cons_succ]))))
                refine t4_hard rfl (by rfl) (fun K hK => ?_)
                go_wp2_with (go_at_call 29; refine (l00In_c Y 0 (size - 1) _).mono ?_; rintro e w21 ⟨rfl, rfl, rfl⟩)
                refine ⟨⟨hs18.cellAt 0 rfl 0 rfl, hs18.cellAt 0 rfl 1 rfl, hs18.cellAt 1 rfl 0 rfl, hs18.cellAt 1 rfl 1 rfl, cellL hs18.bel q0⟩, ?_⟩
                (repeat (first | (apply t4_skip rfl (by rfl); try simp only [Act.put, List.setIfInBounds_toArray, List.set_cons_zero, List.set_cons_succ]) | (apply t4_float rfl (by rfl); (· (intro w' hS; go_simp <;> with_reducible rfl)); (try simp only [Act.put, List.setIfInBounds_toArray, List.set_cons_zero, List.set_cons_succ]))))
                have k0_0 := hs18.cellAt 0 rfl 0 rfl
                have k0_1 := hs18.cellAt 0 rfl 1 rfl
                have k1_0 := hs18.cellAt 1 rfl 0 rfl
                have k1_1 := hs18.cellAt 1 rfl 1 rfl
                have q0_ := cellL hs18.bel q0
                refine t4_nil (NoPanic.normal ?_)
                go_wp2_with fail
                refine bodyPost_ret (v := .tuple #[.int .i64 0, .int .i64 2]) (by simp [results, Tryz.results10, go_sem]) rfl ⟨?_, hs18.bel⟩
                rw [← HZM.out, HQ.out]
              | true =>
                have HQ := Lib.hid hq
                go_upto_region 8 with fail
                refine wp_region_noPanic (wp_region_tree4 (fun w' => w'.cell? ⟨w.heap.size, 0, none⟩ = some (.int .i64 size) ∧ w'.cell? ⟨w.heap.size, 1, none⟩ = some (.slice at0 rs.length ct0) ∧ w'.cell? ⟨w.heap.size + 1, 0, none⟩ = some (.int .i64 ar) ∧ w'.cell? ⟨w.heap.size + 1, 1, none⟩ = some (.slice af tb.length cf) ∧ w'.cell? ⟨b, o + k, none⟩ = some (.int .i64 Y)) (.float 0 (.float 1 (.float 2 (.float 3 (.float 4 (.float 5 (.float 6 (.hard 7 (.float 8 .nil))))))))) (by kernel_rfl) (by kernel_rfl) (by kernel_rfl) rfl ?_ (fun _ _ _ _ _ h => h) ?_)
                · exact ⟨(hs17.drew).cellAt 0 rfl 0 rfl, (hs17.drew).cellAt 0 rfl 1 rfl, (hs17.drew).cellAt 1 rfl 0 rfl, (hs17.drew).cellAt 1 rfl 1 rfl, cellL (hs17.drew).bel q0⟩
                have hs22 := hs17.drew
                have HBL_23 := Lib.hid (HBL.out.trans (((belowD _)).mono HBL.out.size))
                clear HBL
                clear k0_0 k0_1 k1_0 k1_1 q0_
                have hz_wd24 : wr.heap.size ≤ (wr.drew).heap.size := by simp
                generalize hgen_wd24 : wr.drew = wd24 at *
                have HG_wd24 := Lib.hid hgen_wd24
                clear hgen_wd24
                (repeat (first | (apply t4_skip rfl (by rfl); try simp only [Act.put, List.setIfInBounds_toArray, List.set_cons_zero, List.set_cons_succ]) | (apply t4_float rfl (by rfl); (· (intro w' hS; go_simp <;> with_reducible rfl)); (try simp only [Act.put, List.setIfInBounds_toArray, List.set_cons_zero, List.set_cons_succ]))))
                refine t4_hard rfl (by rfl) (fun K hK => ?_)
                go_wp2_with (go_at_call 29; refine (l00In_c Y 0 (size - 1) _).mono ?_; rintro e w25 ⟨rfl, rfl, rfl⟩)
                refine ⟨⟨hs22.cellAt 0 rfl 0 rfl, hs22.cellAt 0 rfl 1 rfl, hs22.cellAt 1 rfl 0 rfl, hs22.cellAt 1 rfl 1 rfl, cellL hs22.bel q0⟩, ?_⟩
                (repeat (first | (apply t4_skip rfl (by rfl); try simp only [Act.put, List.setIfInBounds_toArray, List.set_cons_zero, List.set_cons_succ]) | (apply t4_float rfl (by rfl); (· (intro w' hS; go_simp <;> with_reducible rfl)); (try simp only [Act.put, List.setIfInBounds_toArray, List.set_cons_zero, List.set_cons_succ]))))
                have k0_0 := hs22.cellAt 0 rfl 0 rfl
                have k0_1 := hs22.cellAt 0 rfl 1 rfl
                have k1_0 := hs22.cellAt 1 rfl 0 rfl
                have k1_1 := hs22.cellAt 1 rfl 1 rfl
                have q0_ := cellL hs22.bel q0
                refine t4_nil (NoPanic.normal ?_)
                go_wp2_with fail
                go_roundw
                case rel =>
                  refine ⟨k + 1, by omega, by go_num, HBL_23.out, fun j hj hjk => ?_⟩
                  rcases Nat.lt_or_ge j k with h | h
                  · exact hr.out j hj h
                  · obtain rfl : j = k := by omega
                    rw [HY.out]; exact HQ.out
                case measure => simp [intOf]; omega
            · obtain rfl : k = L.length := by omega
              have hkl : ¬ ((L.length : Int) < L.length) := by omega
              have h8 : ∀ a, a ∈ L → inB a 0 (size - 1) = true := by
                intro y hy
                obtain ⟨j, hj, rfl⟩ := List.getElem_of_mem hy
                exact hr.out j hj hj
              have H4 := Lib.hid (show (foldF (size, rs) (ar, tb) L) = (foldV size (ar, tb) z m, 0) by
                rw [HF13.out, if_pos ⟨H3.out, by simp only [valsOk, Bool.and_eq_true, List.all_eq_true]; exact ⟨by simp, h8⟩⟩])
              have HV := Lib.hid (show ∀ a, a ∈ L → 0 ≤ a ∧ a ≤ size - 1 from fun a h => inB_true (h8 a h))
              clear h8
              go_wp2_with fail
              refine (l06Fold_c size (ar, tb) z m _ _ _ _ _ _ (Rd.mono HF.out hs17.bel) (hs17.cellAt 1 rfl 1 rfl) (HZM.out ▸ (Rd.mono HA.out hs17.bel)) HO1.out H3.out (HZM.out ▸ HV.out)).mono ?_
              rintro e w26 ⟨rfl, hbw26⟩
              have hz_w26 : wr.heap.size ≤ w26.heap.size := by have h9 := hbw26.size; (try simp at h9); omega
              have hs27 := hs17.step hbw26
              have HBL_28 := Lib.hid (HBL.out.trans ((hbw26).mono HBL.out.size))
              clear HBL
              clear k0_0 k0_1 k1_0 k1_1
              have k0_0 := hs27.cellAt 0 rfl 0 rfl
              have k0_1 := hs27.cellAt 0 rfl 1 rfl
              have k1_0 := hs27.cellAt 1 rfl 0 rfl
              have k1_1 := hs27.cellAt 1 rfl 1 rfl
              go_wp2_with fail
              refine bodyPost_ret (v := .tuple #[.int .i64 (foldV size (ar, tb) z m), .int .i64 0]) (by simp [results, Tryz.results10, go_sem]) rfl ⟨?_, hs27.bel⟩
              rw [← HZM.out, H4.out]
      · have hne : (ar != 2) = true := by simp [h3]
        have H3 := Lib.hid (show (foldF (size, rs) (ar, tb) l) = (0, 2) by
          cases l with
          | nil => exact H12.out
          | cons z m => rw [H13.out, if_neg (fun h => h3 h.1)])
        clear h3
        go_wp2_with fail
        refine bodyPost_ret (v := .tuple #[.int .i64 0, .int .i64 2]) (by simp [results, Tryz.results10, go_sem]) rfl ⟨?_, hs16.bel⟩
        rw [H3.out]

end Go.Proofs.YtllenfkbfeanmaaGreat

