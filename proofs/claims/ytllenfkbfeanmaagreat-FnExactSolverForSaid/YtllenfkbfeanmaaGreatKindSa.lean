/-
  CONTRACTS: kinds of operations: the program's side.
-/
import Derived.Test.YtllenfkbfeanmaaGreatKindPSa
import Derived.Test.YtllenfkbfeanmaaGreatRelOfSa
import Derived.Test.YtllenfkbfeanmaaGreatFailBSa
import Derived.Test.YtllenfkbfeanmaaGreatDomBSa
namespace Go.Proofs.YtllenfkbfeanmaaGreat
open Go.RowKit Go.Shelf Go.IntWalk
open Rep (Rd Own sz)
set_option linter.unusedSimpArgs false
set_option linter.unusedVariables false

set_option maxRecDepth 100000 in
set_option maxHeartbeats 4000000 in
theorem allLists_c (size : Int) (m : Nat) (g : Nat) (cb : Array Value) (q : List Int → Bool) (N : Nat) (w : World) (hs : 1 ≤ size) (hs2 : size ≤ 1000000) (hm2 : m ≤ 1000) (hN : size ^ m = (N : Int)) (hN2 : N ≤ 1000000)
    (eg : ∀ args w, (callFunc g args).run Tryz.prog w = .ok (.enter g args) w) (hby : RelC g cb w size m q) :
    Calls Tryz.prog 165 #[.int .i64 size, .int .i64 m, .func (.func g) #[] cb] w fun e w' => e = .returned (.bool (allL size m N q)) ∧ Below w.heap.size w w' := by
  have HBY := Lib.hid hby
  have HN := Lib.hid hN
  clear hby hN
  go_enter Tryz.func165, Tryz.ntmps165
  go_wp2_with fail
  refine (power_c size m _ (by omega) (by omega) (by omega) (by rw [Int.toNat_natCast, HN.out]; omega)).mono ?_
  rintro e w0 ⟨rfl, rfl⟩
  rw [Int.toNat_natCast, HN.out]
  go_wp2_with fail
  go_loopw [11] (fun i wr => ∃ k : Nat, k ≤ N ∧ i = .int .i64 k ∧ Hid (Below w.heap.size w wr) ∧ Hid (∀ n : Nat, n < k → q (digs size m (n : Int)) = true)) (fun i _ => N - (intOf i).toNat)
  case atStart => exact ⟨0, Nat.zero_le _, rfl, Below.refl _ _, fun n hn => absurd hn (Nat.not_lt_zero _)⟩
  case round =>
    obtain ⟨k, hk, rfl, hbl, hr⟩ := hrel
    by_cases hlt : k < N
    · have hkI : (k : Int) < N := by omega
      go_wp2_with fail
      refine (listOf_c size m k _ (by omega) (by omega) (by omega) (by omega) (by omega) (by omega)).mono ?_
      rintro e w1 ⟨v1, rfl, fr1, hb1⟩
      rw [Int.toNat_natCast] at fr1
      obtain ⟨a1, c1, e1, _⟩ := rd_list fr1.rd
      rw [digs_length] at e1
      subst e1
      have HFR := Lib.hid fr1
      have HB1 := Lib.hid (hbl.out.trans (hb1.mono hbl.out.size))
      clear fr1 hb1
      go_wp2_with fail
      go_at_fn g
      refine (HBY.out _ (digs size m k) _ HB1.out HFR.out.rd (digs_length _ _ _) (digs_mem _ (by omega) _ _)).mono ?_
      rintro e w2 ⟨rfl, hb2⟩
      have HB2 := Lib.hid (HB1.out.trans (hb2.mono HB1.out.size))
      clear hb2
      cases hq : q (digs size m k) with
      | false =>
        have H9 := Lib.hid (allL_no hlt hq)
        clear hq
        go_wp2_with fail
        go_ret
        exact ⟨ret_bool H9.out.symm, HB2.out⟩
      | true =>
        have H9 := Lib.hid (show ∀ n : Nat, n < k + 1 → q (digs size m (n : Int)) = true from fun n hn => by
          rcases Nat.lt_or_ge n k with h1 | h1
          · exact hr.out n h1
          · obtain rfl : n = k := by omega
            exact hq)
        clear hq
        go_wp2_with fail
        go_roundw
        case rel => exact ⟨k + 1, by omega, by go_num, HB2.out, H9.out⟩
        case measure => simp [intOf]; omega
    · obtain rfl : k = N := by omega
      have hnl : ¬ ((k : Int) < k) := by omega
      have H9 := Lib.hid (allL_yes hr.out)
      go_wp2_with fail
      go_ret
      exact ⟨ret_bool H9.out.symm, hbl.out⟩
set_option maxRecDepth 100000 in
set_option maxHeartbeats 4000000 in
theorem isKind1_by (size : Int) (f : OpT) (fb sb : Nat) (v0 v1 : Value) (w : World) (hf : Rd w [v0, v1] f) (hok : opOk size f = true) (h0 : w.cell? ⟨fb, 0, none⟩ = some v0) (h1 : w.cell? ⟨fb, 1, none⟩ = some v1) (hsb : w.cell? ⟨sb, 0, none⟩ = some (.int .i64 size)) :
    RelC 166 #[.pointer (some ⟨fb, 0, none⟩), .pointer (some ⟨sb, 0, none⟩)] w size 1 (fun l => decide (valOf size f (List.replicate f.1.toNat (l.getD 0 0)) = l.getD 0 0)) := by
  intro W y v hb hy hl hmem
  have g0 := cellL hb h0
  have g1 := cellL hb h1
  have gs := cellL hb hsb
  have HF := Lib.hid (Rd.mono hf hb)
  have har := (opOk_get hok).2.1
  have HOK := Lib.hid hok
  obtain ⟨y0, rfl⟩ : ∃ y0, y = [y0] := by
    match y, hl with
    | [y0], _ => exact ⟨y0, rfl⟩
  have hy0 := hmem y0 (by simp)
  have HY := Lib.hid hy
  clear h0 h1 hsb hf hb hmem hok hl
  show Calls Tryz.prog 166 #[_, .pointer (some ⟨fb, 0, none⟩), .pointer (some ⟨sb, 0, none⟩)] W _
  obtain ⟨ar, tb⟩ := f
  simp only at har ⊢
  obtain ⟨m, rfl⟩ : ∃ m : Nat, ar = (m : Int) := ⟨ar.toNat, by omega⟩
  have zf := rd_cons rfl HF.out
  obtain ⟨rfl, _⟩ := rd_i1 zf.1
  obtain ⟨at0, ct0, rfl, _⟩ := rd_list zf.2
  obtain ⟨ay, cy, rfl, _⟩ := rd_list HY.out
  obtain ⟨b1, o1, rfl, q0, _⟩ := rd_int_at HY.out 0 (by simp)
  rw [Nat.add_zero] at q0
  simp only [List.getElem_cons_zero] at q0
  rw [Int.toNat_natCast]
  show Calls _ _ _ _ (fun e w' => e = .returned (.bool (decide (valOf size ((m : Int), tb) (List.replicate m y0) = y0))) ∧ _)
  clear hy zf
  have hlen1 : (0 : Int) < (([y0] : List Int).length : Int) := by simp
  have HRV := Lib.hid (show ∀ a, a ∈ List.replicate m y0 → 0 ≤ a ∧ a ≤ size - 1 from fun a ha => by
    obtain ⟨_, rfl⟩ := List.mem_replicate.1 ha
    omega)
  have HRL := Lib.hid (show ((List.replicate m y0).length : Int) = (m : Int) by simp)
  have g0_ := cellL (St.start W).bel g0
  clear g0_
  have g0_ := cellL (St.start W).bel g0
  have g1_ := cellL (St.start W).bel g1
  clear g0_ g1_
  have g0_ := cellL (St.start W).bel g0
  have g1_ := cellL (St.start W).bel g1
  have gs_ := cellL (St.start W).bel gs
  clear g0_ g1_ gs_
  have g0_ := cellL (St.start W).bel g0
  have g1_ := cellL (St.start W).bel g1
  have gs_ := cellL (St.start W).bel gs
  have q0_ := cellL (St.start W).bel q0
  go_enter Tryz.func166, Tryz.ntmps166
  go_upto_region 1 with fail
  refine wp_region_noPanic (wp_region_tree4 (fun w' => w'.cell? ⟨fb, 0, none⟩ = some (.int .i64 m) ∧ w'.cell? ⟨fb, 1, none⟩ = some (.slice at0 tb.length ct0) ∧ w'.cell? ⟨sb, 0, none⟩ = some (.int .i64 size) ∧ w'.cell? ⟨b1, o1, none⟩ = some (.int .i64 y0)) (.float 0 (.float 1 (.float 2 (.float 3 (.float 4 (.float 7 (.float 8 (.float 9 (.hard 5 (.hard 6 (.float 10 (.float 11 .nil)))))))))))) (by kernel_rfl) (by kernel_rfl) (by kernel_rfl) rfl ?_ (fun _ _ _ _ _ h => h) ?_)
  · exact ⟨cellL ((St.start W).drew).bel g0, cellL ((St.start W).drew).bel g1, cellL ((St.start W).drew).bel gs, cellL ((St.start W).drew).bel q0⟩
  have hs1 := (St.start W).drew
  clear g0_ g1_ gs_ q0_
  have hz_wd2 : W.heap.size ≤ (W.drew).heap.size := by simp
  generalize hgen_wd2 : W.drew = wd2 at *
  have HG_wd2 := Lib.hid hgen_wd2
  clear hgen_wd2
  (repeat (first | (apply t4_skip rfl (by rfl); try simp only [Act.put, List.setIfInBounds_toArray, List.set_cons_zero, List.set_cons_succ]) | (apply t4_float rfl (by rfl); (· (intro w' hS; go_simp <;> with_reducible rfl)); (try simp only [Act.put, List.setIfInBounds_toArray, List.set_cons_zero, List.set_cons_succ]))))
  refine t4_hard rfl (by rfl) (fun K hK => ?_)
  go_wp2_with (go_at_call 158; refine (repeatInts_c y0 m _ _ (Rd.mono HY.out hs1.bel) (by omega) (by omega)).mono ?_; rintro e w3 ⟨v9, rfl, fr9, hbw3⟩)
  have hz_w3 : wd2.heap.size ≤ w3.heap.size := by have h9 := hbw3.size; (try simp at h9); omega
  have hs4 := hs1.step hbw3
  have HR9 := Lib.hid fr9
  clear fr9
  refine ⟨⟨cellL hs4.bel g0, cellL hs4.bel g1, cellL hs4.bel gs, cellL hs4.bel q0⟩, ?_⟩
  (repeat (first | (apply t4_skip rfl (by rfl); try simp only [Act.put, List.setIfInBounds_toArray, List.set_cons_zero, List.set_cons_succ]) | (apply t4_float rfl (by rfl); (· (intro w' hS; go_simp <;> with_reducible rfl)); (try simp only [Act.put, List.setIfInBounds_toArray, List.set_cons_zero, List.set_cons_succ]))))
  refine t4_hard rfl (by rfl) (fun K hK => ?_)
  go_wp2_with (go_at_call 95; refine (at_c size ((m : Int), tb) (List.replicate m y0) _ _ _ _ (Rd.mono HF.out hs4.bel) (Fresh.rd HR9.out) HOK.out HRL.out HRV.out).mono ?_; rintro e w5 ⟨rfl, hbw5⟩)
  have hz_w5 : w3.heap.size ≤ w5.heap.size := by have h9 := hbw5.size; (try simp at h9); omega
  have hs6 := hs4.step hbw5
  have HR9_7 := Lib.hid (Fresh.mono HR9.out hbw5)
  clear HR9
  refine ⟨⟨cellL hs6.bel g0, cellL hs6.bel g1, cellL hs6.bel gs, cellL hs6.bel q0⟩, ?_⟩
  (repeat (first | (apply t4_skip rfl (by rfl); try simp only [Act.put, List.setIfInBounds_toArray, List.set_cons_zero, List.set_cons_succ]) | (apply t4_float rfl (by rfl); (· (intro w' hS; go_simp <;> with_reducible rfl)); (try simp only [Act.put, List.setIfInBounds_toArray, List.set_cons_zero, List.set_cons_succ]))))
  have g0_ := cellL hs6.bel g0
  have g1_ := cellL hs6.bel g1
  have gs_ := cellL hs6.bel gs
  have q0_ := cellL hs6.bel q0
  refine t4_nil (NoPanic.normal ?_)
  go_wp2_with fail
  go_ret
  exact ⟨rfl, hs6.bel⟩
set_option maxRecDepth 100000 in
set_option maxHeartbeats 4000000 in
theorem isSymmetric1_by (size : Int) (f : OpT) (fb sb : Nat) (v0 v1 : Value) (w : World) (hf : Rd w [v0, v1] f) (hok : opOk size f = true) (h2 : f.1 = 2) (h0 : w.cell? ⟨fb, 0, none⟩ = some v0) (h1 : w.cell? ⟨fb, 1, none⟩ = some v1) (hsb : w.cell? ⟨sb, 0, none⟩ = some (.int .i64 size)) :
    RelC 193 #[.pointer (some ⟨fb, 0, none⟩), .pointer (some ⟨sb, 0, none⟩)] w size 2 (fun l => decide (valOf size f l = valOf size f (srtL l))) := by
  intro W y v hb hy hl hmem
  have g0 := cellL hb h0
  have g1 := cellL hb h1
  have gs := cellL hb hsb
  have HF := Lib.hid (Rd.mono hf hb)
  have HOK := Lib.hid hok
  have HY := Lib.hid hy
  have HV1 := Lib.hid (show ∀ a, a ∈ y → 0 ≤ a ∧ a ≤ size - 1 from fun a ha => by have := hmem a ha; omega)
  have HV2 := Lib.hid (show ∀ a, a ∈ srtL y → 0 ≤ a ∧ a ≤ size - 1 from fun a ha => HV1.out a (srt_mem.1 ha))
  have HL1 := Lib.hid (show (y.length : Int) = f.1 by rw [h2, hl]; rfl)
  have HL2 := Lib.hid (show ((srtL y).length : Int) = f.1 by rw [srt_len, h2, hl]; rfl)
  have HSL := Lib.hid (srt_len y)
  have HL9 := Lib.hid hl
  clear h0 h1 hsb hf hb hmem hok hl
  show Calls Tryz.prog 193 #[_, .pointer (some ⟨fb, 0, none⟩), .pointer (some ⟨sb, 0, none⟩)] W _
  obtain ⟨ar, tb⟩ := f
  simp only at h2 ⊢
  subst h2
  have zf := rd_cons rfl HF.out
  obtain ⟨rfl, _⟩ := rd_i1 zf.1
  obtain ⟨at0, ct0, rfl, _⟩ := rd_list zf.2
  obtain ⟨ay, cy, rfl, _⟩ := rd_list HY.out
  clear hy zf
  have g0_ := cellL (St.start W).bel g0
  clear g0_
  have g0_ := cellL (St.start W).bel g0
  have g1_ := cellL (St.start W).bel g1
  clear g0_ g1_
  have g0_ := cellL (St.start W).bel g0
  have g1_ := cellL (St.start W).bel g1
  have gs_ := cellL (St.start W).bel gs
  go_enter Tryz.func193, Tryz.ntmps193
  go_wp2_with fail
  refine (cloneIntsA_c y _ _ HY.out (by rw [HL9.out]; omega)).mono ?_
  rintro e w1 ⟨v1, rfl, hA1, hb1⟩
  obtain ⟨hrow, hbk, hI⟩ := acc_ints_get hA1
  rcases hrow.2 with ⟨e0, h0⟩ | ⟨g, cap, cur, rfl, hb, hg, hn2, hm, hs, ht⟩
  · rw [HL9.out] at h0; omega
  have hgs : g < w1.heap.size := (Array.getElem?_eq_some_iff.1 hg).1
  have HROW := Lib.hid hrow
  have HI := Lib.hid hI
  have HB := Lib.hid hb1
  clear hA1 hrow hbk hI hb1 hg hs ht
  go_wp2_with fail
  refine (sortInts_c W.heap.size g cap y w1 HROW.out (by rw [HL9.out]; omega)).mono ?_
  rintro e w2 ⟨rfl, hrow2, hbut2⟩
  rw [HSL.out] at hrow2
  have hb2 := HB.out.trans (hbut2.below (B := W.heap.size) (by simp; exact hb) HB.out.size)
  have hgs2 : g < w2.heap.size := by have := hbut2.size; omega
  have HA2 := Lib.hid (show Rd w2 [.slice (some ⟨g, 0, none⟩) y.length cap] (srtL y) from by
    have h := acc_ints_mk (B := W.heap.size) (H := w2.heap.size) (l := srtL y) (by rw [HSL.out]; exact hrow2) (fun k hk => by
      simp [Value.ownBlock] at hk
      subst hk
      exact ⟨hb, hgs2⟩) (fun a ha => HI.out a (srt_mem.1 ha))
    exact h.rd)
  have hs2 := (St.start W).step hb2
  clear hrow2 hbut2
  have g0_ := cellL hs2.bel g0
  have g1_ := cellL hs2.bel g1
  have gs_ := cellL hs2.bel gs
  go_upto_region 3 with fail
  refine wp_region_noPanic (wp_region_tree4 (fun w' => w'.cell? ⟨fb, 0, none⟩ = some (.int .i64 2) ∧ w'.cell? ⟨fb, 1, none⟩ = some (.slice at0 tb.length ct0) ∧ w'.cell? ⟨sb, 0, none⟩ = some (.int .i64 size)) (.float 0 (.float 1 (.float 2 (.float 4 (.float 5 (.float 6 (.hard 3 (.hard 7 (.float 8 (.float 9 .nil)))))))))) (by kernel_rfl) (by kernel_rfl) (by kernel_rfl) rfl ?_ (fun _ _ _ _ _ h => h) ?_)
  · exact ⟨cellL (hs2.drew).bel g0, cellL (hs2.drew).bel g1, cellL (hs2.drew).bel gs⟩
  have hs8 := hs2.drew
  have HA2_9 := Lib.hid (Rd.mono HA2.out (belowD _))
  clear HA2
  clear g0_ g1_ gs_
  have hz_wd10 : w2.heap.size ≤ (w2.drew).heap.size := by simp
  generalize hgen_wd10 : w2.drew = wd10 at *
  have HG_wd10 := Lib.hid hgen_wd10
  clear hgen_wd10
  (repeat (first | (apply t4_skip rfl (by rfl); try simp only [Act.put, List.setIfInBounds_toArray, List.set_cons_zero, List.set_cons_succ]) | (apply t4_float rfl (by rfl); (· (intro w' hS; go_simp <;> with_reducible rfl)); (try simp only [Act.put, List.setIfInBounds_toArray, List.set_cons_zero, List.set_cons_succ]))))
  refine t4_hard rfl (by rfl) (fun K hK => ?_)
  go_wp2_with (go_at_call 95; refine (at_c size ((2 : Int), tb) y _ _ _ _ (Rd.mono HF.out hs8.bel) (Rd.mono HY.out hs8.bel) HOK.out HL1.out HV1.out).mono ?_; rintro e w11 ⟨rfl, hbw11⟩)
  have hz_w11 : wd10.heap.size ≤ w11.heap.size := by have h9 := hbw11.size; (try simp at h9); omega
  have hs12 := hs8.step hbw11
  have HA2_13 := Lib.hid (Rd.mono HA2_9.out hbw11)
  clear HA2_9
  refine ⟨⟨cellL hs12.bel g0, cellL hs12.bel g1, cellL hs12.bel gs⟩, ?_⟩
  (repeat (first | (apply t4_skip rfl (by rfl); try simp only [Act.put, List.setIfInBounds_toArray, List.set_cons_zero, List.set_cons_succ]) | (apply t4_float rfl (by rfl); (· (intro w' hS; go_simp <;> with_reducible rfl)); (try simp only [Act.put, List.setIfInBounds_toArray, List.set_cons_zero, List.set_cons_succ]))))
  refine t4_hard rfl (by rfl) (fun K hK => ?_)
  go_wp2_with (go_at_call 95; refine (at_c size ((2 : Int), tb) (srtL y) _ _ _ _ (Rd.mono HF.out hs12.bel) HA2_13.out HOK.out HL2.out HV2.out).mono ?_; rintro e w14 ⟨rfl, hbw14⟩)
  have hz_w14 : w11.heap.size ≤ w14.heap.size := by have h9 := hbw14.size; (try simp at h9); omega
  have hs15 := hs12.step hbw14
  have HA2_16 := Lib.hid (Rd.mono HA2_13.out hbw14)
  clear HA2_13
  refine ⟨⟨cellL hs15.bel g0, cellL hs15.bel g1, cellL hs15.bel gs⟩, ?_⟩
  (repeat (first | (apply t4_skip rfl (by rfl); try simp only [Act.put, List.setIfInBounds_toArray, List.set_cons_zero, List.set_cons_succ]) | (apply t4_float rfl (by rfl); (· (intro w' hS; go_simp <;> with_reducible rfl)); (try simp only [Act.put, List.setIfInBounds_toArray, List.set_cons_zero, List.set_cons_succ]))))
  have g0_ := cellL hs15.bel g0
  have g1_ := cellL hs15.bel g1
  have gs_ := cellL hs15.bel gs
  refine t4_nil (NoPanic.normal ?_)
  go_wp2_with fail
  go_ret
  exact ⟨rfl, hs15.bel⟩
set_option maxRecDepth 100000 in
set_option maxHeartbeats 4000000 in
theorem isSymmetric_c (size : Int) (f : OpT) (v0 v1 : Value) (w : World) (hf : Rd w [v0, v1] f) (hok : opOk size f = true) (h2 : f.1 = 2) :
    Calls Tryz.prog 169 #[.int .i64 size, .agg #[v0, v1]] w fun e w' => e = .returned (.bool (symB size f)) ∧ Below w.heap.size w w' := by
  have hs := (opOk_get hok).1
  obtain ⟨ar, tb⟩ := f
  simp only at h2
  subst h2
  have HF := Lib.hid hf
  have HOK := Lib.hid hok
  have HS := Lib.hid (sym_same hs.1 ((2 : Int), tb))
  have zf := rd_cons rfl hf
  obtain ⟨rfl, _⟩ := rd_i1 zf.1
  obtain ⟨at0, ct0, rfl, _⟩ := rd_list zf.2
  have hN : size ^ 2 = ((size.toNat * size.toNat : Nat) : Int) := by
    rw [Int.natCast_mul, Int.toNat_of_nonneg (by omega), Int.pow_succ, Int.pow_succ, Int.pow_zero, Int.one_mul]
  have hN2 : size.toNat * size.toNat ≤ 1000000 := Nat.le_trans (Nat.mul_le_mul (show size.toNat ≤ 4 by omega) (show size.toNat ≤ 4 by omega)) (by decide)
  have HN := Lib.hid hN
  have HN2 := Lib.hid hN2
  have eg : ∀ args w, (callFunc 193 args).run Tryz.prog w = .ok (.enter 193 args) w := enters_of Tryz.func193 (by kernel_rfl) rfl
  clear hf zf hok hN hN2
  have hs17 := (St.start w).alloc #[.int .i64 size] 2 (n := w.heap.size) (by simp)
  have k0_0 := hs17.cellAt 0 rfl 0 rfl
  have hs18 := hs17.alloc #[.int .i64 2, .slice at0 tb.length ct0] 34 (n := w.heap.size + 1) (by simp)
  clear k0_0
  have k0_0 := hs18.cellAt 0 rfl 0 rfl
  have k1_0 := hs18.cellAt 1 rfl 0 rfl
  have k1_1 := hs18.cellAt 1 rfl 1 rfl
  go_enter Tryz.func169, Tryz.ntmps169
  go_wp2_with fail
  refine (allLists_c size 2 193 _ _ _ _ (by omega) (by omega) (by omega) HN.out HN2.out eg (isSymmetric1_by size ((2 : Int), tb) (w.heap.size + 1) (w.heap.size) _ _ _ (Rd.mono HF.out hs18.bel) HOK.out rfl (hs18.cellAt 1 rfl 0 rfl) (hs18.cellAt 1 rfl 1 rfl) (hs18.cellAt 0 rfl 0 rfl))).mono ?_
  rintro e w5 ⟨rfl, hb5⟩
  have HB := Lib.hid (hs18.bel.trans (hb5.mono hs18.bel.size))
  clear hb5
  have HQ := Lib.hid (show allL size 2 (size.toNat * size.toNat) (fun l => decide (valOf size ((2 : Int), tb) l = valOf size ((2 : Int), tb) (srtL l))) = symB size ((2 : Int), tb) from HS.out)
  rw [HQ.out]
  go_wp2_with fail
  go_ret
  exact ⟨rfl, HB.out⟩

set_option maxRecDepth 100000 in
set_option maxHeartbeats 8000000 in
theorem isKind3_by (size : Int) (f : OpT) (fb sb : Nat) (v0 v1 : Value) (w : World) (hf : Rd w [v0, v1] f) (hok : opOk size f = true) (h2 : f.1 = 2) (h0 : w.cell? ⟨fb, 0, none⟩ = some v0) (h1 : w.cell? ⟨fb, 1, none⟩ = some v1) (hsb : w.cell? ⟨sb, 0, none⟩ = some (.int .i64 size)) :
    RelC 170 #[.pointer (some ⟨fb, 0, none⟩), .pointer (some ⟨sb, 0, none⟩)] w size 3 (fun l => decide (valOf size f [valOf size f [l.getD 0 0, l.getD 1 0], l.getD 2 0] = valOf size f [l.getD 0 0, valOf size f [l.getD 1 0, l.getD 2 0]])) := by
  intro W y v hb hy hl hmem
  have g0 := cellL hb h0
  have g1 := cellL hb h1
  have gs := cellL hb hsb
  have HF := Lib.hid (Rd.mono hf hb)
  have HOK := Lib.hid hok
  have hs := (opOk_get hok).1
  obtain ⟨a, b, c, rfl⟩ : ∃ a b c, y = [a, b, c] := by
    match y, hl with
    | [a, b, c], _ => exact ⟨a, b, c, rfl⟩
  have HY := Lib.hid hy
  have ha := hmem a (by simp)
  have hb' := hmem b (by simp)
  have hc := hmem c (by simp)
  have HV := Lib.hid (fun (x z : Int) (hx : 0 ≤ x ∧ x ≤ size - 1) (hz : 0 ≤ z ∧ z ≤ size - 1) => show ∀ e, e ∈ [x, z] → 0 ≤ e ∧ e ≤ size - 1 from fun e he => by simp at he; rcases he with rfl | rfl <;> assumption)
  have HLN := Lib.hid (fun (x z : Int) => show (([x, z] : List Int).length : Int) = f.1 by rw [h2]; rfl)
  have HVO := Lib.hid (fun (x z : Int) (hx : 0 ≤ x ∧ x ≤ size - 1) (hz : 0 ≤ z ∧ z ≤ size - 1) => show 0 ≤ valOf size f [x, z] ∧ valOf size f [x, z] ≤ size - 1 from by
    obtain ⟨_, _, _, e2, e3, e4, _⟩ := valOf_at hok (HLN.out x z) (HV.out x z hx hz)
    exact ⟨e3, e4⟩)
  have hA : 0 ≤ a ∧ a ≤ size - 1 := by omega
  have hB : 0 ≤ b ∧ b ≤ size - 1 := by omega
  have hC : 0 ≤ c ∧ c ≤ size - 1 := by omega
  have hL := HVO.out a b hA hB
  have hR := HVO.out b c hB hC
  clear h0 h1 hsb hf hb hmem hok hl ha hb' hc
  show Calls Tryz.prog 170 #[_, .pointer (some ⟨fb, 0, none⟩), .pointer (some ⟨sb, 0, none⟩)] W _
  obtain ⟨ar, tb⟩ := f
  simp only at h2
  subst h2
  have zf := rd_cons rfl HF.out
  obtain ⟨rfl, _⟩ := rd_i1 zf.1
  obtain ⟨at0, ct0, rfl, _⟩ := rd_list zf.2
  obtain ⟨ay, cy, rfl, _⟩ := rd_list HY.out
  obtain ⟨b1, o1, rfl, q0, _⟩ := rd_int_at HY.out 0 (by simp)
  obtain ⟨b2, o2, e2, q1, _⟩ := rd_int_at HY.out 1 (by simp)
  simp only [Option.some.injEq, Addr.mk.injEq, and_true] at e2
  obtain ⟨rfl, rfl⟩ := e2
  obtain ⟨b2, o2, e2, q2, _⟩ := rd_int_at HY.out 2 (by simp)
  simp only [Option.some.injEq, Addr.mk.injEq, and_true] at e2
  obtain ⟨rfl, rfl⟩ := e2
  rw [Nat.add_zero] at q0
  simp only [List.getElem_cons_zero, List.getElem_cons_succ] at q0 q1 q2
  show Calls _ _ _ _ (fun e w' => e = .returned (.bool (decide (valOf size ((2 : Int), tb) [valOf size ((2 : Int), tb) [a, b], c] = valOf size ((2 : Int), tb) [a, valOf size ((2 : Int), tb) [b, c]]))) ∧ _)
  have HIA := Lib.hid (show I64 a from i64_of _ (by omega) (by omega))
  have HIB := Lib.hid (show I64 b from i64_of _ (by omega) (by omega))
  have HIC := Lib.hid (show I64 c from i64_of _ (by omega) (by omega))
  have HIL := Lib.hid (show I64 (valOf size ((2 : Int), tb) [a, b]) from i64_of _ (by omega) (by omega))
  have HIR := Lib.hid (show I64 (valOf size ((2 : Int), tb) [b, c]) from i64_of _ (by omega) (by omega))
  have HLV := Lib.hid hL
  have HRV := Lib.hid hR
  clear hy zf hL hR
  have g0_ := cellL (St.start W).bel g0
  clear g0_
  have g0_ := cellL (St.start W).bel g0
  have g1_ := cellL (St.start W).bel g1
  clear g0_ g1_
  have g0_ := cellL (St.start W).bel g0
  have g1_ := cellL (St.start W).bel g1
  have gs_ := cellL (St.start W).bel gs
  clear g0_ g1_ gs_
  have g0_ := cellL (St.start W).bel g0
  have g1_ := cellL (St.start W).bel g1
  have gs_ := cellL (St.start W).bel gs
  have q0_ := cellL (St.start W).bel q0
  clear g0_ g1_ gs_ q0_
  have g0_ := cellL (St.start W).bel g0
  have g1_ := cellL (St.start W).bel g1
  have gs_ := cellL (St.start W).bel gs
  have q0_ := cellL (St.start W).bel q0
  have q1_ := cellL (St.start W).bel q1
  clear g0_ g1_ gs_ q0_ q1_
  have g0_ := cellL (St.start W).bel g0
  have g1_ := cellL (St.start W).bel g1
  have gs_ := cellL (St.start W).bel gs
  have q0_ := cellL (St.start W).bel q0
  have q1_ := cellL (St.start W).bel q1
  have q2_ := cellL (St.start W).bel q2
  go_enter Tryz.func170, Tryz.ntmps170
  go_upto_region 1 with fail
  refine wp_region_noPanic (wp_region_tree4 (fun w' => w'.cell? ⟨fb, 0, none⟩ = some (.int .i64 2) ∧ w'.cell? ⟨fb, 1, none⟩ = some (.slice at0 tb.length ct0) ∧ w'.cell? ⟨sb, 0, none⟩ = some (.int .i64 size) ∧ w'.cell? ⟨b1, o1, none⟩ = some (.int .i64 a) ∧ w'.cell? ⟨b1, o1 + 1, none⟩ = some (.int .i64 b) ∧ w'.cell? ⟨b1, o1 + 2, none⟩ = some (.int .i64 c)) (.float 0 (.float 1 (.float 2 (.float 3 (.float 4 (.float 5 (.float 6 (.float 7 (.float 8 (.float 9 (.float 12 (.float 13 (.float 14 (.float 17 (.float 18 (.float 19 (.float 20 (.float 21 (.float 22 (.float 23 (.float 24 (.float 25 (.float 26 (.float 27 (.float 28 (.float 29 (.fork2 10 (.fork2 11 (.fork2 15 (.fork2 16 (.hard 30 (.hard 31 (.hard 32 (.hard 33 (.float 34 (.float 35 .nil)))))) 30 (.hard 16 (.hard 31 (.hard 32 (.hard 33 (.float 34 (.float 35 .nil))))))) 30 (.hard 15 (.hard 16 (.hard 31 (.hard 32 (.hard 33 (.float 34 (.float 35 .nil)))))))) 30 (.hard 11 (.hard 15 (.hard 16 (.hard 31 (.hard 32 (.hard 33 (.float 34 (.float 35 .nil))))))))) 30 (.hard 10 (.hard 11 (.hard 15 (.hard 16 (.hard 31 (.hard 32 (.hard 33 (.float 34 (.float 35 .nil)))))))))))))))))))))))))))))))))))) (by kernel_rfl) (by kernel_rfl) (by kernel_rfl) rfl ?_ (fun _ _ _ _ _ h => h) ?_)
  · exact ⟨cellL ((St.start W).drew).bel g0, cellL ((St.start W).drew).bel g1, cellL ((St.start W).drew).bel gs, cellL ((St.start W).drew).bel q0, cellL ((St.start W).drew).bel q1, cellL ((St.start W).drew).bel q2⟩
  have hs19 := (St.start W).drew
  clear g0_ g1_ gs_ q0_ q1_ q2_
  have hz_wd20 : W.heap.size ≤ (W.drew).heap.size := by simp
  generalize hgen_wd20 : W.drew = wd20 at *
  have HG_wd20 := Lib.hid hgen_wd20
  clear hgen_wd20
  (repeat (first | (apply t4_skip rfl (by rfl); try simp only [Act.put, List.setIfInBounds_toArray, List.set_cons_zero, List.set_cons_succ]) | (apply t4_float rfl (by rfl); (· (intro w' hS; go_simp <;> with_reducible rfl)); (try simp only [Act.put, List.setIfInBounds_toArray, List.set_cons_zero, List.set_cons_succ]))))
  refine t4_fork2 ?_ ?_
  · refine t4_hard rfl (by rfl) (fun K hK => ?_)
    go_wp2_with fail
    have hs21 := hs19.alloc #[.int .i64 a, .int .i64 b] 2 (n := wd20.heap.size) (by simp)
    refine ⟨⟨cellL hs21.bel g0, cellL hs21.bel g1, cellL hs21.bel gs, cellL hs21.bel q0, cellL hs21.bel q1, cellL hs21.bel q2⟩, ?_⟩
    (repeat (first | (apply t4_skip rfl (by rfl); try simp only [Act.put, List.setIfInBounds_toArray, List.set_cons_zero, List.set_cons_succ]) | (apply t4_float rfl (by rfl); (· (intro w' hS; go_simp <;> with_reducible rfl)); (try simp only [Act.put, List.setIfInBounds_toArray, List.set_cons_zero, List.set_cons_succ]))))
    refine t4_fork2 ?_ ?_
    · refine t4_hard rfl (by rfl) (fun K hK => ?_)
      go_wp2_with (go_at_call 95; refine (at_c size ((2 : Int), tb) [a, b] _ _ _ _ (Rd.mono HF.out hs21.bel) (rd_lit2 HIA.out HIB.out (hs21.cellAt 0 rfl 0 rfl) (hs21.cellAt 0 rfl 1 rfl)) HOK.out (HLN.out a b) (HV.out a b hA hB)).mono ?_; rintro e w22 ⟨rfl, hbw22⟩)
      have hz_w22 : wd20.heap.size + 1 ≤ w22.heap.size := by have h9 := hbw22.size; (try simp at h9); omega
      have hs23 := hs21.step hbw22
      refine ⟨⟨cellL hs23.bel g0, cellL hs23.bel g1, cellL hs23.bel gs, cellL hs23.bel q0, cellL hs23.bel q1, cellL hs23.bel q2⟩, ?_⟩
      (repeat (first | (apply t4_skip rfl (by rfl); try simp only [Act.put, List.setIfInBounds_toArray, List.set_cons_zero, List.set_cons_succ]) | (apply t4_float rfl (by rfl); (· (intro w' hS; go_simp <;> with_reducible rfl)); (try simp only [Act.put, List.setIfInBounds_toArray, List.set_cons_zero, List.set_cons_succ]))))
      refine t4_fork2 ?_ ?_
      · refine t4_hard rfl (by rfl) (fun K hK => ?_)
        go_wp2_with fail
        have hs24 := hs23.alloc #[.int .i64 (valOf size ((2 : Int), tb) [a, b]), .int .i64 c] 2 (n := w22.heap.size) (by simp)
        refine ⟨⟨cellL hs24.bel g0, cellL hs24.bel g1, cellL hs24.bel gs, cellL hs24.bel q0, cellL hs24.bel q1, cellL hs24.bel q2⟩, ?_⟩
        (repeat (first | (apply t4_skip rfl (by rfl); try simp only [Act.put, List.setIfInBounds_toArray, List.set_cons_zero, List.set_cons_succ]) | (apply t4_float rfl (by rfl); (· (intro w' hS; go_simp <;> with_reducible rfl)); (try simp only [Act.put, List.setIfInBounds_toArray, List.set_cons_zero, List.set_cons_succ]))))
        refine t4_fork2 ?_ ?_
        · refine t4_hard rfl (by rfl) (fun K hK => ?_)
          go_wp2_with (go_at_call 95; refine (at_c size ((2 : Int), tb) [valOf size ((2 : Int), tb) [a, b], c] _ _ _ _ (Rd.mono HF.out hs24.bel) (rd_lit2 HIL.out HIC.out (hs24.cellAt 1 rfl 0 rfl) (hs24.cellAt 1 rfl 1 rfl)) HOK.out (HLN.out _ c) (HV.out _ c HLV.out hC)).mono ?_; rintro e w25 ⟨rfl, hbw25⟩)
          have hz_w25 : w22.heap.size + 1 ≤ w25.heap.size := by have h9 := hbw25.size; (try simp at h9); omega
          have hs26 := hs24.step hbw25
          refine ⟨⟨cellL hs26.bel g0, cellL hs26.bel g1, cellL hs26.bel gs, cellL hs26.bel q0, cellL hs26.bel q1, cellL hs26.bel q2⟩, ?_⟩
          (repeat (first | (apply t4_skip rfl (by rfl); try simp only [Act.put, List.setIfInBounds_toArray, List.set_cons_zero, List.set_cons_succ]) | (apply t4_float rfl (by rfl); (· (intro w' hS; go_simp <;> with_reducible rfl)); (try simp only [Act.put, List.setIfInBounds_toArray, List.set_cons_zero, List.set_cons_succ]))))
          refine t4_hard rfl (by rfl) (fun K hK => ?_)
          go_wp2_with fail
          have hs27 := hs26.alloc #[.int .i64 b, .int .i64 c] 2 (n := w25.heap.size) (by simp)
          refine ⟨⟨cellL hs27.bel g0, cellL hs27.bel g1, cellL hs27.bel gs, cellL hs27.bel q0, cellL hs27.bel q1, cellL hs27.bel q2⟩, ?_⟩
          (repeat (first | (apply t4_skip rfl (by rfl); try simp only [Act.put, List.setIfInBounds_toArray, List.set_cons_zero, List.set_cons_succ]) | (apply t4_float rfl (by rfl); (· (intro w' hS; go_simp <;> with_reducible rfl)); (try simp only [Act.put, List.setIfInBounds_toArray, List.set_cons_zero, List.set_cons_succ]))))
          refine t4_hard rfl (by rfl) (fun K hK => ?_)
          go_wp2_with (go_at_call 95; refine (at_c size ((2 : Int), tb) [b, c] _ _ _ _ (Rd.mono HF.out hs27.bel) (rd_lit2 HIB.out HIC.out (hs27.cellAt 2 rfl 0 rfl) (hs27.cellAt 2 rfl 1 rfl)) HOK.out (HLN.out b c) (HV.out b c hB hC)).mono ?_; rintro e w28 ⟨rfl, hbw28⟩)
          have hz_w28 : w25.heap.size + 1 ≤ w28.heap.size := by have h9 := hbw28.size; (try simp at h9); omega
          have hs29 := hs27.step hbw28
          refine ⟨⟨cellL hs29.bel g0, cellL hs29.bel g1, cellL hs29.bel gs, cellL hs29.bel q0, cellL hs29.bel q1, cellL hs29.bel q2⟩, ?_⟩
          (repeat (first | (apply t4_skip rfl (by rfl); try simp only [Act.put, List.setIfInBounds_toArray, List.set_cons_zero, List.set_cons_succ]) | (apply t4_float rfl (by rfl); (· (intro w' hS; go_simp <;> with_reducible rfl)); (try simp only [Act.put, List.setIfInBounds_toArray, List.set_cons_zero, List.set_cons_succ]))))
          refine t4_hard rfl (by rfl) (fun K hK => ?_)
          go_wp2_with fail
          have hs30 := hs29.alloc #[.int .i64 a, .int .i64 (valOf size ((2 : Int), tb) [b, c])] 2 (n := w28.heap.size) (by simp)
          refine ⟨⟨cellL hs30.bel g0, cellL hs30.bel g1, cellL hs30.bel gs, cellL hs30.bel q0, cellL hs30.bel q1, cellL hs30.bel q2⟩, ?_⟩
          (repeat (first | (apply t4_skip rfl (by rfl); try simp only [Act.put, List.setIfInBounds_toArray, List.set_cons_zero, List.set_cons_succ]) | (apply t4_float rfl (by rfl); (· (intro w' hS; go_simp <;> with_reducible rfl)); (try simp only [Act.put, List.setIfInBounds_toArray, List.set_cons_zero, List.set_cons_succ]))))
          refine t4_hard rfl (by rfl) (fun K hK => ?_)
          go_wp2_with (go_at_call 95; refine (at_c size ((2 : Int), tb) [a, valOf size ((2 : Int), tb) [b, c]] _ _ _ _ (Rd.mono HF.out hs30.bel) (rd_lit2 HIA.out HIR.out (hs30.cellAt 3 rfl 0 rfl) (hs30.cellAt 3 rfl 1 rfl)) HOK.out (HLN.out a _) (HV.out a _ hA HRV.out)).mono ?_; rintro e w31 ⟨rfl, hbw31⟩)
          have hz_w31 : w28.heap.size + 1 ≤ w31.heap.size := by have h9 := hbw31.size; (try simp at h9); omega
          have hs32 := hs30.step hbw31
          refine ⟨⟨cellL hs32.bel g0, cellL hs32.bel g1, cellL hs32.bel gs, cellL hs32.bel q0, cellL hs32.bel q1, cellL hs32.bel q2⟩, ?_⟩
          (repeat (first | (apply t4_skip rfl (by rfl); try simp only [Act.put, List.setIfInBounds_toArray, List.set_cons_zero, List.set_cons_succ]) | (apply t4_float rfl (by rfl); (· (intro w' hS; go_simp <;> with_reducible rfl)); (try simp only [Act.put, List.setIfInBounds_toArray, List.set_cons_zero, List.set_cons_succ]))))
          have k0_0 := hs32.cellAt 0 rfl 0 rfl
          have k0_1 := hs32.cellAt 0 rfl 1 rfl
          have k1_0 := hs32.cellAt 1 rfl 0 rfl
          have k1_1 := hs32.cellAt 1 rfl 1 rfl
          have k2_0 := hs32.cellAt 2 rfl 0 rfl
          have k2_1 := hs32.cellAt 2 rfl 1 rfl
          have k3_0 := hs32.cellAt 3 rfl 0 rfl
          have k3_1 := hs32.cellAt 3 rfl 1 rfl
          have g0_ := cellL hs32.bel g0
          have g1_ := cellL hs32.bel g1
          have gs_ := cellL hs32.bel gs
          have q0_ := cellL hs32.bel q0
          have q1_ := cellL hs32.bel q1
          have q2_ := cellL hs32.bel q2
          refine t4_nil (NoPanic.normal ?_)
          go_wp2_with fail
          go_ret
          exact ⟨rfl, hs32.bel⟩
        · refine t4_hard rfl (by rfl) (fun K hK => ?_)
          go_wp2_with fail
          have hs33 := hs24.alloc #[.int .i64 b, .int .i64 c] 2 (n := w22.heap.size + 1) (by simp)
          refine ⟨⟨cellL hs33.bel g0, cellL hs33.bel g1, cellL hs33.bel gs, cellL hs33.bel q0, cellL hs33.bel q1, cellL hs33.bel q2⟩, ?_⟩
          (repeat (first | (apply t4_skip rfl (by rfl); try simp only [Act.put, List.setIfInBounds_toArray, List.set_cons_zero, List.set_cons_succ]) | (apply t4_float rfl (by rfl); (· (intro w' hS; go_simp <;> with_reducible rfl)); (try simp only [Act.put, List.setIfInBounds_toArray, List.set_cons_zero, List.set_cons_succ]))))
          refine t4_hard rfl (by rfl) (fun K hK => ?_)
          go_wp2_with (go_at_call 95; refine (at_c size ((2 : Int), tb) [valOf size ((2 : Int), tb) [a, b], c] _ _ _ _ (Rd.mono HF.out hs33.bel) (rd_lit2 HIL.out HIC.out (hs33.cellAt 1 rfl 0 rfl) (hs33.cellAt 1 rfl 1 rfl)) HOK.out (HLN.out _ c) (HV.out _ c HLV.out hC)).mono ?_; rintro e w34 ⟨rfl, hbw34⟩)
          have hz_w34 : w22.heap.size + 1 + 1 ≤ w34.heap.size := by have h9 := hbw34.size; (try simp at h9); omega
          have hs35 := hs33.step hbw34
          refine ⟨⟨cellL hs35.bel g0, cellL hs35.bel g1, cellL hs35.bel gs, cellL hs35.bel q0, cellL hs35.bel q1, cellL hs35.bel q2⟩, ?_⟩
          (repeat (first | (apply t4_skip rfl (by rfl); try simp only [Act.put, List.setIfInBounds_toArray, List.set_cons_zero, List.set_cons_succ]) | (apply t4_float rfl (by rfl); (· (intro w' hS; go_simp <;> with_reducible rfl)); (try simp only [Act.put, List.setIfInBounds_toArray, List.set_cons_zero, List.set_cons_succ]))))
          refine t4_hard rfl (by rfl) (fun K hK => ?_)
          go_wp2_with (go_at_call 95; refine (at_c size ((2 : Int), tb) [b, c] _ _ _ _ (Rd.mono HF.out hs35.bel) (rd_lit2 HIB.out HIC.out (hs35.cellAt 2 rfl 0 rfl) (hs35.cellAt 2 rfl 1 rfl)) HOK.out (HLN.out b c) (HV.out b c hB hC)).mono ?_; rintro e w36 ⟨rfl, hbw36⟩)
          have hz_w36 : w34.heap.size ≤ w36.heap.size := by have h9 := hbw36.size; (try simp at h9); omega
          have hs37 := hs35.step hbw36
          refine ⟨⟨cellL hs37.bel g0, cellL hs37.bel g1, cellL hs37.bel gs, cellL hs37.bel q0, cellL hs37.bel q1, cellL hs37.bel q2⟩, ?_⟩
          (repeat (first | (apply t4_skip rfl (by rfl); try simp only [Act.put, List.setIfInBounds_toArray, List.set_cons_zero, List.set_cons_succ]) | (apply t4_float rfl (by rfl); (· (intro w' hS; go_simp <;> with_reducible rfl)); (try simp only [Act.put, List.setIfInBounds_toArray, List.set_cons_zero, List.set_cons_succ]))))
          refine t4_hard rfl (by rfl) (fun K hK => ?_)
          go_wp2_with fail
          have hs38 := hs37.alloc #[.int .i64 a, .int .i64 (valOf size ((2 : Int), tb) [b, c])] 2 (n := w36.heap.size) (by simp)
          refine ⟨⟨cellL hs38.bel g0, cellL hs38.bel g1, cellL hs38.bel gs, cellL hs38.bel q0, cellL hs38.bel q1, cellL hs38.bel q2⟩, ?_⟩
          (repeat (first | (apply t4_skip rfl (by rfl); try simp only [Act.put, List.setIfInBounds_toArray, List.set_cons_zero, List.set_cons_succ]) | (apply t4_float rfl (by rfl); (· (intro w' hS; go_simp <;> with_reducible rfl)); (try simp only [Act.put, List.setIfInBounds_toArray, List.set_cons_zero, List.set_cons_succ]))))
          refine t4_hard rfl (by rfl) (fun K hK => ?_)
          go_wp2_with (go_at_call 95; refine (at_c size ((2 : Int), tb) [a, valOf size ((2 : Int), tb) [b, c]] _ _ _ _ (Rd.mono HF.out hs38.bel) (rd_lit2 HIA.out HIR.out (hs38.cellAt 3 rfl 0 rfl) (hs38.cellAt 3 rfl 1 rfl)) HOK.out (HLN.out a _) (HV.out a _ hA HRV.out)).mono ?_; rintro e w39 ⟨rfl, hbw39⟩)
          have hz_w39 : w36.heap.size + 1 ≤ w39.heap.size := by have h9 := hbw39.size; (try simp at h9); omega
          have hs40 := hs38.step hbw39
          refine ⟨⟨cellL hs40.bel g0, cellL hs40.bel g1, cellL hs40.bel gs, cellL hs40.bel q0, cellL hs40.bel q1, cellL hs40.bel q2⟩, ?_⟩
          (repeat (first | (apply t4_skip rfl (by rfl); try simp only [Act.put, List.setIfInBounds_toArray, List.set_cons_zero, List.set_cons_succ]) | (apply t4_float rfl (by rfl); (· (intro w' hS; go_simp <;> with_reducible rfl)); (try simp only [Act.put, List.setIfInBounds_toArray, List.set_cons_zero, List.set_cons_succ]))))
          have k0_0 := hs40.cellAt 0 rfl 0 rfl
          have k0_1 := hs40.cellAt 0 rfl 1 rfl
          have k1_0 := hs40.cellAt 1 rfl 0 rfl
          have k1_1 := hs40.cellAt 1 rfl 1 rfl
          have k2_0 := hs40.cellAt 2 rfl 0 rfl
          have k2_1 := hs40.cellAt 2 rfl 1 rfl
          have k3_0 := hs40.cellAt 3 rfl 0 rfl
          have k3_1 := hs40.cellAt 3 rfl 1 rfl
          have g0_ := cellL hs40.bel g0
          have g1_ := cellL hs40.bel g1
          have gs_ := cellL hs40.bel gs
          have q0_ := cellL hs40.bel q0
          have q1_ := cellL hs40.bel q1
          have q2_ := cellL hs40.bel q2
          refine t4_nil (NoPanic.normal ?_)
          go_wp2_with fail
          go_ret
          exact ⟨rfl, hs40.bel⟩
      · refine t4_hard rfl (by rfl) (fun K hK => ?_)
        go_wp2_with fail
        have hs41 := hs23.alloc #[.int .i64 b, .int .i64 c] 2 (n := w22.heap.size) (by simp)
        refine ⟨⟨cellL hs41.bel g0, cellL hs41.bel g1, cellL hs41.bel gs, cellL hs41.bel q0, cellL hs41.bel q1, cellL hs41.bel q2⟩, ?_⟩
        (repeat (first | (apply t4_skip rfl (by rfl); try simp only [Act.put, List.setIfInBounds_toArray, List.set_cons_zero, List.set_cons_succ]) | (apply t4_float rfl (by rfl); (· (intro w' hS; go_simp <;> with_reducible rfl)); (try simp only [Act.put, List.setIfInBounds_toArray, List.set_cons_zero, List.set_cons_succ]))))
        refine t4_hard rfl (by rfl) (fun K hK => ?_)
        go_wp2_with fail
        have hs42 := hs41.alloc #[.int .i64 (valOf size ((2 : Int), tb) [a, b]), .int .i64 c] 2 (n := w22.heap.size + 1) (by simp)
        refine ⟨⟨cellL hs42.bel g0, cellL hs42.bel g1, cellL hs42.bel gs, cellL hs42.bel q0, cellL hs42.bel q1, cellL hs42.bel q2⟩, ?_⟩
        (repeat (first | (apply t4_skip rfl (by rfl); try simp only [Act.put, List.setIfInBounds_toArray, List.set_cons_zero, List.set_cons_succ]) | (apply t4_float rfl (by rfl); (· (intro w' hS; go_simp <;> with_reducible rfl)); (try simp only [Act.put, List.setIfInBounds_toArray, List.set_cons_zero, List.set_cons_succ]))))
        refine t4_hard rfl (by rfl) (fun K hK => ?_)
        go_wp2_with (go_at_call 95; refine (at_c size ((2 : Int), tb) [valOf size ((2 : Int), tb) [a, b], c] _ _ _ _ (Rd.mono HF.out hs42.bel) (rd_lit2 HIL.out HIC.out (hs42.cellAt 2 rfl 0 rfl) (hs42.cellAt 2 rfl 1 rfl)) HOK.out (HLN.out _ c) (HV.out _ c HLV.out hC)).mono ?_; rintro e w43 ⟨rfl, hbw43⟩)
        have hz_w43 : w22.heap.size + 1 + 1 ≤ w43.heap.size := by have h9 := hbw43.size; (try simp at h9); omega
        have hs44 := hs42.step hbw43
        refine ⟨⟨cellL hs44.bel g0, cellL hs44.bel g1, cellL hs44.bel gs, cellL hs44.bel q0, cellL hs44.bel q1, cellL hs44.bel q2⟩, ?_⟩
        (repeat (first | (apply t4_skip rfl (by rfl); try simp only [Act.put, List.setIfInBounds_toArray, List.set_cons_zero, List.set_cons_succ]) | (apply t4_float rfl (by rfl); (· (intro w' hS; go_simp <;> with_reducible rfl)); (try simp only [Act.put, List.setIfInBounds_toArray, List.set_cons_zero, List.set_cons_succ]))))
        refine t4_hard rfl (by rfl) (fun K hK => ?_)
        go_wp2_with (go_at_call 95; refine (at_c size ((2 : Int), tb) [b, c] _ _ _ _ (Rd.mono HF.out hs44.bel) (rd_lit2 HIB.out HIC.out (hs44.cellAt 1 rfl 0 rfl) (hs44.cellAt 1 rfl 1 rfl)) HOK.out (HLN.out b c) (HV.out b c hB hC)).mono ?_; rintro e w45 ⟨rfl, hbw45⟩)
        have hz_w45 : w43.heap.size ≤ w45.heap.size := by have h9 := hbw45.size; (try simp at h9); omega
        have hs46 := hs44.step hbw45
        refine ⟨⟨cellL hs46.bel g0, cellL hs46.bel g1, cellL hs46.bel gs, cellL hs46.bel q0, cellL hs46.bel q1, cellL hs46.bel q2⟩, ?_⟩
        (repeat (first | (apply t4_skip rfl (by rfl); try simp only [Act.put, List.setIfInBounds_toArray, List.set_cons_zero, List.set_cons_succ]) | (apply t4_float rfl (by rfl); (· (intro w' hS; go_simp <;> with_reducible rfl)); (try simp only [Act.put, List.setIfInBounds_toArray, List.set_cons_zero, List.set_cons_succ]))))
        refine t4_hard rfl (by rfl) (fun K hK => ?_)
        go_wp2_with fail
        have hs47 := hs46.alloc #[.int .i64 a, .int .i64 (valOf size ((2 : Int), tb) [b, c])] 2 (n := w45.heap.size) (by simp)
        refine ⟨⟨cellL hs47.bel g0, cellL hs47.bel g1, cellL hs47.bel gs, cellL hs47.bel q0, cellL hs47.bel q1, cellL hs47.bel q2⟩, ?_⟩
        (repeat (first | (apply t4_skip rfl (by rfl); try simp only [Act.put, List.setIfInBounds_toArray, List.set_cons_zero, List.set_cons_succ]) | (apply t4_float rfl (by rfl); (· (intro w' hS; go_simp <;> with_reducible rfl)); (try simp only [Act.put, List.setIfInBounds_toArray, List.set_cons_zero, List.set_cons_succ]))))
        refine t4_hard rfl (by rfl) (fun K hK => ?_)
        go_wp2_with (go_at_call 95; refine (at_c size ((2 : Int), tb) [a, valOf size ((2 : Int), tb) [b, c]] _ _ _ _ (Rd.mono HF.out hs47.bel) (rd_lit2 HIA.out HIR.out (hs47.cellAt 3 rfl 0 rfl) (hs47.cellAt 3 rfl 1 rfl)) HOK.out (HLN.out a _) (HV.out a _ hA HRV.out)).mono ?_; rintro e w48 ⟨rfl, hbw48⟩)
        have hz_w48 : w45.heap.size + 1 ≤ w48.heap.size := by have h9 := hbw48.size; (try simp at h9); omega
        have hs49 := hs47.step hbw48
        refine ⟨⟨cellL hs49.bel g0, cellL hs49.bel g1, cellL hs49.bel gs, cellL hs49.bel q0, cellL hs49.bel q1, cellL hs49.bel q2⟩, ?_⟩
        (repeat (first | (apply t4_skip rfl (by rfl); try simp only [Act.put, List.setIfInBounds_toArray, List.set_cons_zero, List.set_cons_succ]) | (apply t4_float rfl (by rfl); (· (intro w' hS; go_simp <;> with_reducible rfl)); (try simp only [Act.put, List.setIfInBounds_toArray, List.set_cons_zero, List.set_cons_succ]))))
        have k0_0 := hs49.cellAt 0 rfl 0 rfl
        have k0_1 := hs49.cellAt 0 rfl 1 rfl
        have k1_0 := hs49.cellAt 1 rfl 0 rfl
        have k1_1 := hs49.cellAt 1 rfl 1 rfl
        have k2_0 := hs49.cellAt 2 rfl 0 rfl
        have k2_1 := hs49.cellAt 2 rfl 1 rfl
        have k3_0 := hs49.cellAt 3 rfl 0 rfl
        have k3_1 := hs49.cellAt 3 rfl 1 rfl
        have g0_ := cellL hs49.bel g0
        have g1_ := cellL hs49.bel g1
        have gs_ := cellL hs49.bel gs
        have q0_ := cellL hs49.bel q0
        have q1_ := cellL hs49.bel q1
        have q2_ := cellL hs49.bel q2
        refine t4_nil (NoPanic.normal ?_)
        go_wp2_with fail
        go_ret
        exact ⟨rfl, hs49.bel⟩
    · refine t4_hard rfl (by rfl) (fun K hK => ?_)
      go_wp2_with fail
      have hs50 := hs21.alloc #[.int .i64 b, .int .i64 c] 2 (n := wd20.heap.size + 1) (by simp)
      refine ⟨⟨cellL hs50.bel g0, cellL hs50.bel g1, cellL hs50.bel gs, cellL hs50.bel q0, cellL hs50.bel q1, cellL hs50.bel q2⟩, ?_⟩
      (repeat (first | (apply t4_skip rfl (by rfl); try simp only [Act.put, List.setIfInBounds_toArray, List.set_cons_zero, List.set_cons_succ]) | (apply t4_float rfl (by rfl); (· (intro w' hS; go_simp <;> with_reducible rfl)); (try simp only [Act.put, List.setIfInBounds_toArray, List.set_cons_zero, List.set_cons_succ]))))
      refine t4_hard rfl (by rfl) (fun K hK => ?_)
      go_wp2_with (go_at_call 95; refine (at_c size ((2 : Int), tb) [a, b] _ _ _ _ (Rd.mono HF.out hs50.bel) (rd_lit2 HIA.out HIB.out (hs50.cellAt 0 rfl 0 rfl) (hs50.cellAt 0 rfl 1 rfl)) HOK.out (HLN.out a b) (HV.out a b hA hB)).mono ?_; rintro e w51 ⟨rfl, hbw51⟩)
      have hz_w51 : wd20.heap.size + 1 + 1 ≤ w51.heap.size := by have h9 := hbw51.size; (try simp at h9); omega
      have hs52 := hs50.step hbw51
      refine ⟨⟨cellL hs52.bel g0, cellL hs52.bel g1, cellL hs52.bel gs, cellL hs52.bel q0, cellL hs52.bel q1, cellL hs52.bel q2⟩, ?_⟩
      (repeat (first | (apply t4_skip rfl (by rfl); try simp only [Act.put, List.setIfInBounds_toArray, List.set_cons_zero, List.set_cons_succ]) | (apply t4_float rfl (by rfl); (· (intro w' hS; go_simp <;> with_reducible rfl)); (try simp only [Act.put, List.setIfInBounds_toArray, List.set_cons_zero, List.set_cons_succ]))))
      refine t4_hard rfl (by rfl) (fun K hK => ?_)
      go_wp2_with fail
      have hs53 := hs52.alloc #[.int .i64 (valOf size ((2 : Int), tb) [a, b]), .int .i64 c] 2 (n := w51.heap.size) (by simp)
      refine ⟨⟨cellL hs53.bel g0, cellL hs53.bel g1, cellL hs53.bel gs, cellL hs53.bel q0, cellL hs53.bel q1, cellL hs53.bel q2⟩, ?_⟩
      (repeat (first | (apply t4_skip rfl (by rfl); try simp only [Act.put, List.setIfInBounds_toArray, List.set_cons_zero, List.set_cons_succ]) | (apply t4_float rfl (by rfl); (· (intro w' hS; go_simp <;> with_reducible rfl)); (try simp only [Act.put, List.setIfInBounds_toArray, List.set_cons_zero, List.set_cons_succ]))))
      refine t4_hard rfl (by rfl) (fun K hK => ?_)
      go_wp2_with (go_at_call 95; refine (at_c size ((2 : Int), tb) [valOf size ((2 : Int), tb) [a, b], c] _ _ _ _ (Rd.mono HF.out hs53.bel) (rd_lit2 HIL.out HIC.out (hs53.cellAt 2 rfl 0 rfl) (hs53.cellAt 2 rfl 1 rfl)) HOK.out (HLN.out _ c) (HV.out _ c HLV.out hC)).mono ?_; rintro e w54 ⟨rfl, hbw54⟩)
      have hz_w54 : w51.heap.size + 1 ≤ w54.heap.size := by have h9 := hbw54.size; (try simp at h9); omega
      have hs55 := hs53.step hbw54
      refine ⟨⟨cellL hs55.bel g0, cellL hs55.bel g1, cellL hs55.bel gs, cellL hs55.bel q0, cellL hs55.bel q1, cellL hs55.bel q2⟩, ?_⟩
      (repeat (first | (apply t4_skip rfl (by rfl); try simp only [Act.put, List.setIfInBounds_toArray, List.set_cons_zero, List.set_cons_succ]) | (apply t4_float rfl (by rfl); (· (intro w' hS; go_simp <;> with_reducible rfl)); (try simp only [Act.put, List.setIfInBounds_toArray, List.set_cons_zero, List.set_cons_succ]))))
      refine t4_hard rfl (by rfl) (fun K hK => ?_)
      go_wp2_with (go_at_call 95; refine (at_c size ((2 : Int), tb) [b, c] _ _ _ _ (Rd.mono HF.out hs55.bel) (rd_lit2 HIB.out HIC.out (hs55.cellAt 1 rfl 0 rfl) (hs55.cellAt 1 rfl 1 rfl)) HOK.out (HLN.out b c) (HV.out b c hB hC)).mono ?_; rintro e w56 ⟨rfl, hbw56⟩)
      have hz_w56 : w54.heap.size ≤ w56.heap.size := by have h9 := hbw56.size; (try simp at h9); omega
      have hs57 := hs55.step hbw56
      refine ⟨⟨cellL hs57.bel g0, cellL hs57.bel g1, cellL hs57.bel gs, cellL hs57.bel q0, cellL hs57.bel q1, cellL hs57.bel q2⟩, ?_⟩
      (repeat (first | (apply t4_skip rfl (by rfl); try simp only [Act.put, List.setIfInBounds_toArray, List.set_cons_zero, List.set_cons_succ]) | (apply t4_float rfl (by rfl); (· (intro w' hS; go_simp <;> with_reducible rfl)); (try simp only [Act.put, List.setIfInBounds_toArray, List.set_cons_zero, List.set_cons_succ]))))
      refine t4_hard rfl (by rfl) (fun K hK => ?_)
      go_wp2_with fail
      have hs58 := hs57.alloc #[.int .i64 a, .int .i64 (valOf size ((2 : Int), tb) [b, c])] 2 (n := w56.heap.size) (by simp)
      refine ⟨⟨cellL hs58.bel g0, cellL hs58.bel g1, cellL hs58.bel gs, cellL hs58.bel q0, cellL hs58.bel q1, cellL hs58.bel q2⟩, ?_⟩
      (repeat (first | (apply t4_skip rfl (by rfl); try simp only [Act.put, List.setIfInBounds_toArray, List.set_cons_zero, List.set_cons_succ]) | (apply t4_float rfl (by rfl); (· (intro w' hS; go_simp <;> with_reducible rfl)); (try simp only [Act.put, List.setIfInBounds_toArray, List.set_cons_zero, List.set_cons_succ]))))
      refine t4_hard rfl (by rfl) (fun K hK => ?_)
      go_wp2_with (go_at_call 95; refine (at_c size ((2 : Int), tb) [a, valOf size ((2 : Int), tb) [b, c]] _ _ _ _ (Rd.mono HF.out hs58.bel) (rd_lit2 HIA.out HIR.out (hs58.cellAt 3 rfl 0 rfl) (hs58.cellAt 3 rfl 1 rfl)) HOK.out (HLN.out a _) (HV.out a _ hA HRV.out)).mono ?_; rintro e w59 ⟨rfl, hbw59⟩)
      have hz_w59 : w56.heap.size + 1 ≤ w59.heap.size := by have h9 := hbw59.size; (try simp at h9); omega
      have hs60 := hs58.step hbw59
      refine ⟨⟨cellL hs60.bel g0, cellL hs60.bel g1, cellL hs60.bel gs, cellL hs60.bel q0, cellL hs60.bel q1, cellL hs60.bel q2⟩, ?_⟩
      (repeat (first | (apply t4_skip rfl (by rfl); try simp only [Act.put, List.setIfInBounds_toArray, List.set_cons_zero, List.set_cons_succ]) | (apply t4_float rfl (by rfl); (· (intro w' hS; go_simp <;> with_reducible rfl)); (try simp only [Act.put, List.setIfInBounds_toArray, List.set_cons_zero, List.set_cons_succ]))))
      have k0_0 := hs60.cellAt 0 rfl 0 rfl
      have k0_1 := hs60.cellAt 0 rfl 1 rfl
      have k1_0 := hs60.cellAt 1 rfl 0 rfl
      have k1_1 := hs60.cellAt 1 rfl 1 rfl
      have k2_0 := hs60.cellAt 2 rfl 0 rfl
      have k2_1 := hs60.cellAt 2 rfl 1 rfl
      have k3_0 := hs60.cellAt 3 rfl 0 rfl
      have k3_1 := hs60.cellAt 3 rfl 1 rfl
      have g0_ := cellL hs60.bel g0
      have g1_ := cellL hs60.bel g1
      have gs_ := cellL hs60.bel gs
      have q0_ := cellL hs60.bel q0
      have q1_ := cellL hs60.bel q1
      have q2_ := cellL hs60.bel q2
      refine t4_nil (NoPanic.normal ?_)
      go_wp2_with fail
      go_ret
      exact ⟨rfl, hs60.bel⟩
  · refine t4_hard rfl (by rfl) (fun K hK => ?_)
    go_wp2_with fail
    have hs61 := hs19.alloc #[.int .i64 b, .int .i64 c] 2 (n := wd20.heap.size) (by simp)
    refine ⟨⟨cellL hs61.bel g0, cellL hs61.bel g1, cellL hs61.bel gs, cellL hs61.bel q0, cellL hs61.bel q1, cellL hs61.bel q2⟩, ?_⟩
    (repeat (first | (apply t4_skip rfl (by rfl); try simp only [Act.put, List.setIfInBounds_toArray, List.set_cons_zero, List.set_cons_succ]) | (apply t4_float rfl (by rfl); (· (intro w' hS; go_simp <;> with_reducible rfl)); (try simp only [Act.put, List.setIfInBounds_toArray, List.set_cons_zero, List.set_cons_succ]))))
    refine t4_hard rfl (by rfl) (fun K hK => ?_)
    go_wp2_with fail
    have hs62 := hs61.alloc #[.int .i64 a, .int .i64 b] 2 (n := wd20.heap.size + 1) (by simp)
    refine ⟨⟨cellL hs62.bel g0, cellL hs62.bel g1, cellL hs62.bel gs, cellL hs62.bel q0, cellL hs62.bel q1, cellL hs62.bel q2⟩, ?_⟩
    (repeat (first | (apply t4_skip rfl (by rfl); try simp only [Act.put, List.setIfInBounds_toArray, List.set_cons_zero, List.set_cons_succ]) | (apply t4_float rfl (by rfl); (· (intro w' hS; go_simp <;> with_reducible rfl)); (try simp only [Act.put, List.setIfInBounds_toArray, List.set_cons_zero, List.set_cons_succ]))))
    refine t4_hard rfl (by rfl) (fun K hK => ?_)
    go_wp2_with (go_at_call 95; refine (at_c size ((2 : Int), tb) [a, b] _ _ _ _ (Rd.mono HF.out hs62.bel) (rd_lit2 HIA.out HIB.out (hs62.cellAt 1 rfl 0 rfl) (hs62.cellAt 1 rfl 1 rfl)) HOK.out (HLN.out a b) (HV.out a b hA hB)).mono ?_; rintro e w63 ⟨rfl, hbw63⟩)
    have hz_w63 : wd20.heap.size + 1 + 1 ≤ w63.heap.size := by have h9 := hbw63.size; (try simp at h9); omega
    have hs64 := hs62.step hbw63
    refine ⟨⟨cellL hs64.bel g0, cellL hs64.bel g1, cellL hs64.bel gs, cellL hs64.bel q0, cellL hs64.bel q1, cellL hs64.bel q2⟩, ?_⟩
    (repeat (first | (apply t4_skip rfl (by rfl); try simp only [Act.put, List.setIfInBounds_toArray, List.set_cons_zero, List.set_cons_succ]) | (apply t4_float rfl (by rfl); (· (intro w' hS; go_simp <;> with_reducible rfl)); (try simp only [Act.put, List.setIfInBounds_toArray, List.set_cons_zero, List.set_cons_succ]))))
    refine t4_hard rfl (by rfl) (fun K hK => ?_)
    go_wp2_with fail
    have hs65 := hs64.alloc #[.int .i64 (valOf size ((2 : Int), tb) [a, b]), .int .i64 c] 2 (n := w63.heap.size) (by simp)
    refine ⟨⟨cellL hs65.bel g0, cellL hs65.bel g1, cellL hs65.bel gs, cellL hs65.bel q0, cellL hs65.bel q1, cellL hs65.bel q2⟩, ?_⟩
    (repeat (first | (apply t4_skip rfl (by rfl); try simp only [Act.put, List.setIfInBounds_toArray, List.set_cons_zero, List.set_cons_succ]) | (apply t4_float rfl (by rfl); (· (intro w' hS; go_simp <;> with_reducible rfl)); (try simp only [Act.put, List.setIfInBounds_toArray, List.set_cons_zero, List.set_cons_succ]))))
    refine t4_hard rfl (by rfl) (fun K hK => ?_)
    go_wp2_with (go_at_call 95; refine (at_c size ((2 : Int), tb) [valOf size ((2 : Int), tb) [a, b], c] _ _ _ _ (Rd.mono HF.out hs65.bel) (rd_lit2 HIL.out HIC.out (hs65.cellAt 2 rfl 0 rfl) (hs65.cellAt 2 rfl 1 rfl)) HOK.out (HLN.out _ c) (HV.out _ c HLV.out hC)).mono ?_; rintro e w66 ⟨rfl, hbw66⟩)
    have hz_w66 : w63.heap.size + 1 ≤ w66.heap.size := by have h9 := hbw66.size; (try simp at h9); omega
    have hs67 := hs65.step hbw66
    refine ⟨⟨cellL hs67.bel g0, cellL hs67.bel g1, cellL hs67.bel gs, cellL hs67.bel q0, cellL hs67.bel q1, cellL hs67.bel q2⟩, ?_⟩
    (repeat (first | (apply t4_skip rfl (by rfl); try simp only [Act.put, List.setIfInBounds_toArray, List.set_cons_zero, List.set_cons_succ]) | (apply t4_float rfl (by rfl); (· (intro w' hS; go_simp <;> with_reducible rfl)); (try simp only [Act.put, List.setIfInBounds_toArray, List.set_cons_zero, List.set_cons_succ]))))
    refine t4_hard rfl (by rfl) (fun K hK => ?_)
    go_wp2_with (go_at_call 95; refine (at_c size ((2 : Int), tb) [b, c] _ _ _ _ (Rd.mono HF.out hs67.bel) (rd_lit2 HIB.out HIC.out (hs67.cellAt 0 rfl 0 rfl) (hs67.cellAt 0 rfl 1 rfl)) HOK.out (HLN.out b c) (HV.out b c hB hC)).mono ?_; rintro e w68 ⟨rfl, hbw68⟩)
    have hz_w68 : w66.heap.size ≤ w68.heap.size := by have h9 := hbw68.size; (try simp at h9); omega
    have hs69 := hs67.step hbw68
    refine ⟨⟨cellL hs69.bel g0, cellL hs69.bel g1, cellL hs69.bel gs, cellL hs69.bel q0, cellL hs69.bel q1, cellL hs69.bel q2⟩, ?_⟩
    (repeat (first | (apply t4_skip rfl (by rfl); try simp only [Act.put, List.setIfInBounds_toArray, List.set_cons_zero, List.set_cons_succ]) | (apply t4_float rfl (by rfl); (· (intro w' hS; go_simp <;> with_reducible rfl)); (try simp only [Act.put, List.setIfInBounds_toArray, List.set_cons_zero, List.set_cons_succ]))))
    refine t4_hard rfl (by rfl) (fun K hK => ?_)
    go_wp2_with fail
    have hs70 := hs69.alloc #[.int .i64 a, .int .i64 (valOf size ((2 : Int), tb) [b, c])] 2 (n := w68.heap.size) (by simp)
    refine ⟨⟨cellL hs70.bel g0, cellL hs70.bel g1, cellL hs70.bel gs, cellL hs70.bel q0, cellL hs70.bel q1, cellL hs70.bel q2⟩, ?_⟩
    (repeat (first | (apply t4_skip rfl (by rfl); try simp only [Act.put, List.setIfInBounds_toArray, List.set_cons_zero, List.set_cons_succ]) | (apply t4_float rfl (by rfl); (· (intro w' hS; go_simp <;> with_reducible rfl)); (try simp only [Act.put, List.setIfInBounds_toArray, List.set_cons_zero, List.set_cons_succ]))))
    refine t4_hard rfl (by rfl) (fun K hK => ?_)
    go_wp2_with (go_at_call 95; refine (at_c size ((2 : Int), tb) [a, valOf size ((2 : Int), tb) [b, c]] _ _ _ _ (Rd.mono HF.out hs70.bel) (rd_lit2 HIA.out HIR.out (hs70.cellAt 3 rfl 0 rfl) (hs70.cellAt 3 rfl 1 rfl)) HOK.out (HLN.out a _) (HV.out a _ hA HRV.out)).mono ?_; rintro e w71 ⟨rfl, hbw71⟩)
    have hz_w71 : w68.heap.size + 1 ≤ w71.heap.size := by have h9 := hbw71.size; (try simp at h9); omega
    have hs72 := hs70.step hbw71
    refine ⟨⟨cellL hs72.bel g0, cellL hs72.bel g1, cellL hs72.bel gs, cellL hs72.bel q0, cellL hs72.bel q1, cellL hs72.bel q2⟩, ?_⟩
    (repeat (first | (apply t4_skip rfl (by rfl); try simp only [Act.put, List.setIfInBounds_toArray, List.set_cons_zero, List.set_cons_succ]) | (apply t4_float rfl (by rfl); (· (intro w' hS; go_simp <;> with_reducible rfl)); (try simp only [Act.put, List.setIfInBounds_toArray, List.set_cons_zero, List.set_cons_succ]))))
    have k0_0 := hs72.cellAt 0 rfl 0 rfl
    have k0_1 := hs72.cellAt 0 rfl 1 rfl
    have k1_0 := hs72.cellAt 1 rfl 0 rfl
    have k1_1 := hs72.cellAt 1 rfl 1 rfl
    have k2_0 := hs72.cellAt 2 rfl 0 rfl
    have k2_1 := hs72.cellAt 2 rfl 1 rfl
    have k3_0 := hs72.cellAt 3 rfl 0 rfl
    have k3_1 := hs72.cellAt 3 rfl 1 rfl
    have g0_ := cellL hs72.bel g0
    have g1_ := cellL hs72.bel g1
    have gs_ := cellL hs72.bel gs
    have q0_ := cellL hs72.bel q0
    have q1_ := cellL hs72.bel q1
    have q2_ := cellL hs72.bel q2
    refine t4_nil (NoPanic.normal ?_)
    go_wp2_with fail
    go_ret
    exact ⟨rfl, hs72.bel⟩
set_option maxRecDepth 100000 in
set_option maxHeartbeats 4000000 in
theorem isKindI_c (size : Int) (f : OpT) (v0 v1 : Value) (w : World) (hf : Rd w [v0, v1] f) (hok : opOk size f = true) :
    Calls Tryz.prog 132 #[.int .i64 size, .agg #[v0, v1], .int .i64 3] w fun e w' => e = .returned (.bool (idemB size f)) ∧ Below w.heap.size w w' := by
  have hs := (opOk_get hok).1
  obtain ⟨ar, tb⟩ := f
  have HF := Lib.hid hf
  have HOK := Lib.hid hok
  have zf := rd_cons rfl hf
  obtain ⟨rfl, _⟩ := rd_i1 zf.1
  obtain ⟨at0, ct0, rfl, _⟩ := rd_list zf.2
  have HN := Lib.hid (show size ^ 1 = ((size.toNat : Nat) : Int) by rw [Int.pow_succ, Int.pow_zero, Int.one_mul, Int.toNat_of_nonneg (by omega)])
  have hN2 : size.toNat ≤ 1000000 := by omega
  have eg : ∀ args w, (callFunc 166 args).run Tryz.prog w = .ok (.enter 166 args) w := enters_of Tryz.func166 (by kernel_rfl) rfl
  clear hf zf hok
  have hs73 := (St.start w).alloc #[.int .i64 size] 2 (n := w.heap.size) (by simp)
  have k0_0 := hs73.cellAt 0 rfl 0 rfl
  have hs74 := hs73.alloc #[.int .i64 ar, .slice at0 tb.length ct0] 34 (n := w.heap.size + 1) (by simp)
  clear k0_0
  have k0_0 := hs74.cellAt 0 rfl 0 rfl
  have k1_0 := hs74.cellAt 1 rfl 0 rfl
  have k1_1 := hs74.cellAt 1 rfl 1 rfl
  go_enter Tryz.func132, Tryz.ntmps132
  go_wp2_with fail
  refine (allLists_c size 1 166 _ _ _ _ (by omega) (by omega) (by omega) HN.out hN2 eg (isKind1_by size (ar, tb) (w.heap.size + 1) (w.heap.size) _ _ _ (Rd.mono HF.out hs74.bel) HOK.out (hs74.cellAt 1 rfl 0 rfl) (hs74.cellAt 1 rfl 1 rfl) (hs74.cellAt 0 rfl 0 rfl))).mono ?_
  rintro e w5 ⟨rfl, hb5⟩
  have HB := Lib.hid (hs74.bel.trans (hb5.mono hs74.bel.size))
  clear hb5
  go_wp2_with fail
  go_ret
  exact ⟨rfl, HB.out⟩
set_option maxRecDepth 100000 in
set_option maxHeartbeats 4000000 in
theorem isKindC_c (size : Int) (f : OpT) (v0 v1 : Value) (w : World) (hf : Rd w [v0, v1] f) (hok : opOk size f = true) :
    Calls Tryz.prog 132 #[.int .i64 size, .agg #[v0, v1], .int .i64 5] w fun e w' => e = .returned (.bool (decide (f.1 = 2) && symB size f)) ∧ Below w.heap.size w w' := by
  have hs := (opOk_get hok).1
  obtain ⟨ar, tb⟩ := f
  have HF := Lib.hid hf
  have HOK := Lib.hid hok
  have zf := rd_cons rfl hf
  obtain ⟨rfl, _⟩ := rd_i1 zf.1
  obtain ⟨at0, ct0, rfl, _⟩ := rd_list zf.2
  clear hf zf hok
  have hs75 := (St.start w).alloc #[.int .i64 size] 2 (n := w.heap.size) (by simp)
  have k0_0 := hs75.cellAt 0 rfl 0 rfl
  have hs76 := hs75.alloc #[.int .i64 ar, .slice at0 tb.length ct0] 34 (n := w.heap.size + 1) (by simp)
  clear k0_0
  have k0_0 := hs76.cellAt 0 rfl 0 rfl
  have k1_0 := hs76.cellAt 1 rfl 0 rfl
  have k1_1 := hs76.cellAt 1 rfl 1 rfl
  go_enter Tryz.func132, Tryz.ntmps132
  by_cases h2 : ar = 2
  · have hb2 : (ar == 2) = true := by simp [h2]
    have H1 := Lib.hid (show (decide (ar = 2) && symB size (ar, tb)) = symB size (ar, tb) by rw [decide_eq_true h2, Bool.true_and])
    have H2 := Lib.hid h2
    clear h2
    go_wp2_with fail
    refine (isSymmetric_c size (ar, tb) _ _ _ (Rd.mono HF.out hs76.bel) HOK.out H2.out).mono ?_
    rintro e w77 ⟨rfl, hbw77⟩
    have hz_w77 : w.heap.size + 1 + 1 ≤ w77.heap.size := by have h9 := hbw77.size; (try simp at h9); omega
    have hs78 := hs76.step hbw77
    clear k0_0 k1_0 k1_1
    have k0_0 := hs78.cellAt 0 rfl 0 rfl
    have k1_0 := hs78.cellAt 1 rfl 0 rfl
    have k1_1 := hs78.cellAt 1 rfl 1 rfl
    go_wp2_with fail
    go_ret
    exact ⟨ret_bool H1.out.symm, hs78.bel⟩
  · have hb2 : (ar == 2) = false := by simp [h2]
    have H1 := Lib.hid (show (decide (ar = 2) && symB size (ar, tb)) = false by rw [decide_eq_false h2, Bool.false_and])
    clear h2
    go_wp2_with fail
    go_ret
    exact ⟨ret_bool H1.out.symm, hs76.bel⟩
set_option maxRecDepth 100000 in
set_option maxHeartbeats 4000000 in
theorem isKindS_c (size : Int) (f : OpT) (v0 v1 : Value) (w : World) (hf : Rd w [v0, v1] f) (hok : opOk size f = true) :
    Calls Tryz.prog 132 #[.int .i64 size, .agg #[v0, v1], .int .i64 6] w fun e w' => e = .returned (.bool (semiB size f)) ∧ Below w.heap.size w w' := by
  have hs := (opOk_get hok).1
  obtain ⟨ar, tb⟩ := f
  have HF := Lib.hid hf
  have HOK := Lib.hid hok
  have zf := rd_cons rfl hf
  obtain ⟨rfl, _⟩ := rd_i1 zf.1
  obtain ⟨at0, ct0, rfl, _⟩ := rd_list zf.2
  have hN : size ^ 3 = ((size.toNat * size.toNat * size.toNat : Nat) : Int) := by
    rw [Int.natCast_mul, Int.natCast_mul, Int.toNat_of_nonneg (by omega), Int.pow_succ, Int.pow_succ, Int.pow_succ, Int.pow_zero, Int.one_mul]
  have HN := Lib.hid hN
  have HN2 := Lib.hid (show size.toNat * size.toNat * size.toNat ≤ 1000000 from Nat.le_trans (Nat.mul_le_mul (Nat.mul_le_mul (show size.toNat ≤ 4 by omega) (show size.toNat ≤ 4 by omega)) (show size.toNat ≤ 4 by omega)) (by decide))
  have eg : ∀ args w, (callFunc 170 args).run Tryz.prog w = .ok (.enter 170 args) w := enters_of Tryz.func170 (by kernel_rfl) rfl
  clear hf zf hok hN
  have hs79 := (St.start w).alloc #[.int .i64 size] 2 (n := w.heap.size) (by simp)
  have k0_0 := hs79.cellAt 0 rfl 0 rfl
  have hs80 := hs79.alloc #[.int .i64 ar, .slice at0 tb.length ct0] 34 (n := w.heap.size + 1) (by simp)
  clear k0_0
  have k0_0 := hs80.cellAt 0 rfl 0 rfl
  have k1_0 := hs80.cellAt 1 rfl 0 rfl
  have k1_1 := hs80.cellAt 1 rfl 1 rfl
  go_enter Tryz.func132, Tryz.ntmps132
  go_wp2_with fail
  refine (isKindI_c size (ar, tb) _ _ _ (Rd.mono HF.out hs80.bel) HOK.out).mono ?_
  rintro e w81 ⟨rfl, hbw81⟩
  have hz_w81 : w.heap.size + 1 + 1 ≤ w81.heap.size := by have h9 := hbw81.size; (try simp at h9); omega
  have hs82 := hs80.step hbw81
  clear k0_0 k1_0 k1_1
  have k0_0 := hs82.cellAt 0 rfl 0 rfl
  have k1_0 := hs82.cellAt 1 rfl 0 rfl
  have k1_1 := hs82.cellAt 1 rfl 1 rfl
  cases h1 : idemB size (ar, tb) with
  | false =>
    have H1 := Lib.hid (show semiB size (ar, tb) = false by unfold semiB; rw [h1]; rfl)
    clear h1
    go_wp2_with fail
    go_ret
    exact ⟨ret_bool H1.out.symm, hs82.bel⟩
  | true =>
    have HI := Lib.hid h1
    clear h1
    go_wp2_with fail
    refine (isKindC_c size (ar, tb) _ _ _ (Rd.mono HF.out hs82.bel) HOK.out).mono ?_
    rintro e w83 ⟨rfl, hbw83⟩
    have hz_w83 : w81.heap.size ≤ w83.heap.size := by have h9 := hbw83.size; (try simp at h9); omega
    have hs84 := hs82.step hbw83
    clear k0_0 k1_0 k1_1
    have k0_0 := hs84.cellAt 0 rfl 0 rfl
    have k1_0 := hs84.cellAt 1 rfl 0 rfl
    have k1_1 := hs84.cellAt 1 rfl 1 rfl
    cases h2 : (decide ((ar, tb).1 = 2) && symB size (ar, tb)) with
    | false =>
      have H1 := Lib.hid (show semiB size (ar, tb) = false by unfold semiB; rw [h2, Bool.and_false, Bool.false_and])
      clear h2
      go_wp2_with fail
      go_ret
      exact ⟨ret_bool H1.out.symm, hs84.bel⟩
    | true =>
      have hh := h2
      rw [Bool.and_eq_true] at hh
      have H2 := Lib.hid (show ar = 2 from of_decide_eq_true hh.1)
      have H1 := Lib.hid (show semiB size (ar, tb) = assocB size (ar, tb) by unfold semiB; rw [h2, HI.out, Bool.true_and, Bool.true_and])
      clear h2 hh
      go_wp2_with fail
      refine (allLists_c size 3 170 _ _ _ _ (by omega) (by omega) (by omega) HN.out HN2.out eg (isKind3_by size (ar, tb) (w.heap.size + 1) (w.heap.size) _ _ _ (Rd.mono HF.out hs84.bel) HOK.out H2.out (hs84.cellAt 1 rfl 0 rfl) (hs84.cellAt 1 rfl 1 rfl) (hs84.cellAt 0 rfl 0 rfl))).mono ?_
      rintro e w5 ⟨rfl, hb5⟩
      have HB := Lib.hid (hs84.bel.trans (hb5.mono hs84.bel.size))
      clear hb5
      have HQ := Lib.hid (show allL size 3 (size.toNat * size.toNat * size.toNat) (fun l => decide (valOf size (ar, tb) [valOf size (ar, tb) [l.getD 0 0, l.getD 1 0], l.getD 2 0] = valOf size (ar, tb) [l.getD 0 0, valOf size (ar, tb) [l.getD 1 0, l.getD 2 0]])) = semiB size (ar, tb) from H1.out.symm)
      rw [HQ.out]
      go_wp2_with fail
      go_ret
      exact ⟨rfl, HB.out⟩

end Go.Proofs.YtllenfkbfeanmaaGreat

