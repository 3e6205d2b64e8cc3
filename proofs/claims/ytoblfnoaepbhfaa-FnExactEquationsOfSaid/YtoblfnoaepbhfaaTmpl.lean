/-
  CONTRACTS: valid relations, templates, operations; both sides.
-/
import Derived.Test.YtoblfnoaepbhfaaRelP
import Derived.Test.YtoblfnoaepbhfaaDig
import Derived.Deep.DeepCutAuto
namespace Go.Proofs.Ytoblfnoaepbhfaa
open Go.RowKit Go.Shelf Go.IntWalk
open Rep (Rd Own sz)
set_option linter.unusedSimpArgs false
set_option linter.unusedVariables false

theorem isSize_c (n : Int) (w : World) : Calls Try.prog 90 #[.int .i64 n] w fun e w' => e = .returned (.bool (inB n 1 4)) ∧ w = w' := by
  go_enter Try.func90, Try.ntmps90
  go_wp2_with fail
  refine (within_c n 1 4 _).mono ?_
  rintro e w1 ⟨rfl, rfl⟩
  go_wp2_with fail
  go_ret
  exact ⟨rfl, rfl⟩
theorem isArity_c (n : Int) (w : World) : Calls Try.prog 91 #[.int .i64 n] w fun e w' => e = .returned (.bool (inB n 1 4)) ∧ w = w' := by
  go_enter Try.func91, Try.ntmps91
  go_wp2_with fail
  refine (within_c n 1 4 _).mono ?_
  rintro e w1 ⟨rfl, rfl⟩
  go_wp2_with fail
  go_ret
  exact ⟨rfl, rfl⟩
theorem isVars_c (n : Int) (w : World) : Calls Try.prog 112 #[.int .i64 n] w fun e w' => e = .returned (.bool (inB n 1 10)) ∧ w = w' := by
  go_enter Try.func112, Try.ntmps112
  go_wp2_with fail
  refine (within_c n 1 10 _).mono ?_
  rintro e w1 ⟨rfl, rfl⟩
  go_wp2_with fail
  go_ret
  exact ⟨rfl, rfl⟩
theorem l01Size_c (n : Int) (w : World) : Calls Try.prog 83 #[.int .i64 n] w fun e w' => e = .returned (.bool (inB n 1 4)) ∧ w = w' := by
  go_enter Try.func83, Try.ntmps83
  go_wp2_with fail
  refine (l00In_c n 1 4 _).mono ?_
  rintro e w1 ⟨rfl, rfl⟩
  go_wp2_with fail
  go_ret
  exact ⟨rfl, rfl⟩
theorem l01Arity_c (n : Int) (w : World) : Calls Try.prog 84 #[.int .i64 n] w fun e w' => e = .returned (.bool (inB n 1 4)) ∧ w = w' := by
  go_enter Try.func84, Try.ntmps84
  go_wp2_with fail
  refine (l00In_c n 1 4 _).mono ?_
  rintro e w1 ⟨rfl, rfl⟩
  go_wp2_with fail
  go_ret
  exact ⟨rfl, rfl⟩
theorem isNaN_c (n : Int) (w : World) : Calls Try.prog 156 #[.int .i64 n] w fun e w' => e = .returned (.bool false) ∧ w = w' := by
  have h : (n != n) = false := by simp
  go_enter Try.func156, Try.ntmps156
  go_wp2_with fail
  go_ret
  exact ⟨ret_bool (by simp), rfl⟩
set_option maxHeartbeats 400000 in
theorem cmpCompare_c (a b : Int) (w : World) : Calls Try.prog 131 #[.int .i64 a, .int .i64 b] w fun e w' => e = .returned (.int .i64 (if a < b then -1 else if b < a then 1 else 0)) ∧ w = w' := by
  by_cases h1 : a < b
  · rw [if_pos h1]
    go_enter Try.func131, Try.ntmps131
    go_wp2_with (first | (go_at_call 156; refine (isNaN_c _ _).mono ?_; rintro e w' ⟨rfl, rfl⟩))
    go_ret
    exact ⟨rfl, rfl⟩
  · rw [if_neg h1]
    by_cases h2 : b < a
    · rw [if_pos h2]
      go_enter Try.func131, Try.ntmps131
      go_wp2_with (first | (go_at_call 156; refine (isNaN_c _ _).mono ?_; rintro e w' ⟨rfl, rfl⟩))
      go_ret
      exact ⟨rfl, rfl⟩
    · rw [if_neg h2]
      go_enter Try.func131, Try.ntmps131
      go_wp2_with (first | (go_at_call 156; refine (isNaN_c _ _).mono ?_; rintro e w' ⟨rfl, rfl⟩))
      go_ret
      exact ⟨rfl, rfl⟩
set_option maxRecDepth 100000 in
set_option maxHeartbeats 2000000 in
theorem compare_c (l m : List Int) (v0 v1 : Value) (w : World) (r0 : Rd w [v0] l) (r1 : Rd w [v1] m) :
    Calls Try.prog 93 #[v0, v1] w fun e w' => e = .returned (.int .i64 (cmpL l m)) ∧ w = w' := by
  obtain ⟨a, c, rfl, h0⟩ := rd_list r0
  obtain ⟨a', c', rfl, h1⟩ := rd_list r1
  have hb0 := (rdSl_len h0).2
  have hb1 := (rdSl_len h1).2
  unfold maxLen at hb0 hb1
  have HR := Lib.hid r0
  have HM := Lib.hid r1
  clear r0 r1 h0 h1
  go_enter Try.func93, Try.ntmps93
  go_wp2_with fail
  go_loop [11] (fun i => ∃ k : Nat, k ≤ l.length ∧ i = .int .i64 k ∧ Hid (k ≤ m.length ∧ cmpL l m = cmpL (l.drop k) (m.drop k))) (fun i => l.length - (intOf i).toNat)
  case atStart => exact ⟨0, Nat.zero_le _, rfl, Nat.zero_le _, rfl⟩
  case round =>
    obtain ⟨k, hk, rfl, hc⟩ := hrel
    have hkm := hc.out.1
    by_cases hlt : k < l.length
    · obtain ⟨b, o, rfl, q0, _⟩ := rd_int_at HR.out k hlt
      by_cases hm : k < m.length
      · obtain ⟨b2, o2, rfl, q1, _⟩ := rd_int_at HM.out k hm
        have HD := Lib.hid (hc.out.2.trans (cmp_drop l m k hlt hm))
        have hng : ¬ ((m.length : Int) ≤ k) := by omega
        have hmi : (k : Int) < m.length := by omega
        generalize l[k] = A at *
        generalize m[k] = B at *
        go_wp2_with fail
        refine (cmpCompare_c A B _).mono ?_
        rintro e w1 ⟨rfl, rfl⟩
        by_cases h1 : A < B
        · rw [if_pos h1]
          have HC := Lib.hid (show cmpL l m = -1 by rw [HD.out, if_pos h1])
          go_wp2_with fail
          go_ret
          exact ⟨ret_int HC.out.symm, rfl⟩
        · rw [if_neg h1]
          by_cases h2 : B < A
          · rw [if_pos h2]
            have HC := Lib.hid (show cmpL l m = 1 by rw [HD.out, if_neg h1, if_pos h2])
            go_wp2_with fail
            go_ret
            exact ⟨ret_int HC.out.symm, rfl⟩
          · rw [if_neg h2]
            have HC := Lib.hid (show cmpL l m = cmpL (l.drop (k + 1)) (m.drop (k + 1)) by rw [HD.out, if_neg h1, if_neg h2])
            go_wp2_with fail
            go_round
            case rel => exact ⟨k + 1, by omega, by go_num, by omega, HC.out⟩
            case measure => simp [intOf]; omega
      · have HC := Lib.hid (show cmpL l m = 1 by
          rw [hc.out.2, List.drop_of_length_le (show m.length ≤ k by omega), List.drop_eq_getElem_cons hlt]; rfl)
        have hng : (m.length : Int) ≤ k := by omega
        go_wp2_with fail
        go_ret
        exact ⟨ret_int HC.out.symm, rfl⟩
    · obtain rfl : k = l.length := by omega
      by_cases hm : l.length < m.length
      · have HC := Lib.hid (show cmpL l m = -1 by
          rw [hc.out.2, List.drop_length, List.drop_eq_getElem_cons hm]; rfl)
        go_wp2_with fail
        go_ret
        exact ⟨ret_int HC.out.symm, rfl⟩
      · have HC := Lib.hid (show cmpL l m = 0 by
          rw [hc.out.2, List.drop_length, List.drop_of_length_le (by omega)]; rfl)
        go_wp2_with fail
        go_ret
        exact ⟨ret_int HC.out.symm, rfl⟩
set_option maxRecDepth 100000 in
set_option maxHeartbeats 2000000 in
theorem l01Before_c (l m : List Int) (v0 v1 : Value) (w : World) (r0 : Rd w [v0] l) (r1 : Rd w [v1] m) (hlm : l.length = m.length) :
    Calls Try.prog 86 #[v0, v1] w fun e w' => e = .returned (.bool (befL l m)) ∧ Below w.heap.size w w' := by
  obtain ⟨a, c, rfl, h0⟩ := rd_list r0
  obtain ⟨a', c', rfl, h1⟩ := rd_list r1
  have hb0 := (rdSl_len h0).2
  unfold maxLen at hb0
  have HLM := Lib.hid hlm
  have HR := Lib.hid r0
  have HM := Lib.hid r1
  clear r0 r1 h0 h1 hlm
  go_enter Try.func86, Try.ntmps86
  go_wp2_with fail
  go_loopw [5] (fun i wl => ∃ k : Nat, k ≤ l.length ∧ i = .int .i64 k ∧ Hid (Below w.heap.size w wl) ∧ Hid (befL l m = befL (l.drop k) (m.drop k))) (fun i _ => l.length - (intOf i).toNat)
  case atStart => exact ⟨0, Nat.zero_le _, rfl, Below.refl _ _, rfl⟩
  case round =>
    obtain ⟨k, hk, rfl, hbl, hc⟩ := hrel
    have hsr := (St.start w).step hbl.out
    by_cases hlt : k < l.length
    · have hm : k < m.length := by have := HLM.out; omega
      obtain ⟨b, o, rfl, q0, _⟩ := rd_int_at HR.out k hlt
      obtain ⟨b2, o2, rfl, q1, _⟩ := rd_int_at HM.out k hm
      have HD := Lib.hid (hc.out.trans (bef_drop l m k hlt hm))
      have hmi : (k : Int) < m.length := by omega
      have hli : (k : Int) < l.length := by omega
      generalize l[k] = A at *
      generalize m[k] = B at *
      have q0_ := cellL hsr.bel q0
      clear q0_
      have q0_ := cellL hsr.bel q0
      have q1_ := cellL hsr.bel q1
      by_cases h1 : A = B
      · have h2 : (A != B) = false := by simp [h1]
        have HC := Lib.hid (show befL l m = befL (l.drop (k + 1)) (m.drop (k + 1)) by rw [HD.out, if_pos h1])
        clear h1
        go_upto_region 4 with fail
        refine wp_region_noPanic (wp_region_tree4 (fun w' => w'.cell? ⟨b, o + k, none⟩ = some (.int .i64 A) ∧ w'.cell? ⟨b2, o2 + k, none⟩ = some (.int .i64 B)) (.float 0 (.float 1 (.float 2 (.float 3 (.float 4 (.float 5 (.float 6 (.float 7 (.float 8 .nil))))))))) (by kernel_rfl) (by kernel_rfl) (by kernel_rfl) rfl ?_ (fun _ _ _ _ _ h => h) ?_)
        · exact ⟨cellL (hsr.drew).bel q0, cellL (hsr.drew).bel q1⟩
        have hs1 := hsr.drew
        clear q0_ q1_
        have hz_wd2 : wr.heap.size ≤ (wr.drew).heap.size := by simp
        generalize hgen_wd2 : wr.drew = wd2 at *
        have HG_wd2 := Lib.hid hgen_wd2
        clear hgen_wd2
        (repeat (first | (apply t4_skip rfl (by rfl); try simp only [Act.put, List.setIfInBounds_toArray, List.set_cons_zero, List.set_cons_succ]) | (apply t4_float rfl (by rfl); (· (intro w' hS; go_simp <;> with_reducible rfl)); (try simp only [Act.put, List.setIfInBounds_toArray, List.set_cons_zero, List.set_cons_succ]))))
        have q0_ := cellL hs1.bel q0
        have q1_ := cellL hs1.bel q1
        refine t4_nil (NoPanic.normal ?_)
        go_wp2_with fail
        go_roundw
        case rel => exact ⟨k + 1, by omega, by go_num, hs1.bel, HC.out⟩
        case measure => simp [intOf]; omega
      · have h2 : (A != B) = true := by simp [h1]
        have HC := Lib.hid (show befL l m = decide (A < B) by rw [HD.out, if_neg h1])
        clear h1
        go_upto_region 4 with fail
        refine wp_region_noPanic (wp_region_tree4 (fun w' => w'.cell? ⟨b, o + k, none⟩ = some (.int .i64 A) ∧ w'.cell? ⟨b2, o2 + k, none⟩ = some (.int .i64 B)) (.float 0 (.float 1 (.float 2 (.float 3 (.float 4 (.float 5 (.float 6 (.float 7 (.float 8 .nil))))))))) (by kernel_rfl) (by kernel_rfl) (by kernel_rfl) rfl ?_ (fun _ _ _ _ _ h => h) ?_)
        · exact ⟨cellL (hsr.drew).bel q0, cellL (hsr.drew).bel q1⟩
        have hs3 := hsr.drew
        clear q0_ q1_
        have hz_wd4 : wr.heap.size ≤ (wr.drew).heap.size := by simp
        generalize hgen_wd4 : wr.drew = wd4 at *
        have HG_wd4 := Lib.hid hgen_wd4
        clear hgen_wd4
        (repeat (first | (apply t4_skip rfl (by rfl); try simp only [Act.put, List.setIfInBounds_toArray, List.set_cons_zero, List.set_cons_succ]) | (apply t4_float rfl (by rfl); (· (intro w' hS; go_simp <;> with_reducible rfl)); (try simp only [Act.put, List.setIfInBounds_toArray, List.set_cons_zero, List.set_cons_succ]))))
        have q0_ := cellL hs3.bel q0
        have q1_ := cellL hs3.bel q1
        refine t4_nil (NoPanic.normal ?_)
        go_upto_region 5 with fail
        refine wp_region_noPanic (wp_region_tree4 (fun w' => w'.cell? ⟨b, o + k, none⟩ = some (.int .i64 A) ∧ w'.cell? ⟨b2, o2 + k, none⟩ = some (.int .i64 B)) (.float 0 (.float 1 (.float 2 (.float 3 (.float 4 (.float 5 (.float 6 (.float 7 (.float 8 (.float 9 .nil)))))))))) (by kernel_rfl) (by kernel_rfl) (by kernel_rfl) rfl ?_ (fun _ _ _ _ _ h => h) ?_)
        · exact ⟨cellL (hs3.drew).bel q0, cellL (hs3.drew).bel q1⟩
        have hs5 := hs3.drew
        clear q0_ q1_
        have hz_wd6 : wd4.heap.size ≤ (wd4.drew).heap.size := by simp
        generalize hgen_wd6 : wd4.drew = wd6 at *
        have HG_wd6 := Lib.hid hgen_wd6
        clear hgen_wd6
        (repeat (first | (apply t4_skip rfl (by rfl); try simp only [Act.put, List.setIfInBounds_toArray, List.set_cons_zero, List.set_cons_succ]) | (apply t4_float rfl (by rfl); (· (intro w' hS; go_simp <;> with_reducible rfl)); (try simp only [Act.put, List.setIfInBounds_toArray, List.set_cons_zero, List.set_cons_succ]))))
        have q0_ := cellL hs5.bel q0
        have q1_ := cellL hs5.bel q1
        refine t4_nil (NoPanic.normal ?_)
        go_wp2_with fail
        go_ret
        exact ⟨ret_bool HC.out.symm, hs5.bel⟩
    · obtain rfl : k = l.length := by omega
      have HC := Lib.hid (show befL l m = false by rw [hc.out, List.drop_length]; rfl)
      go_wp2_with fail
      go_ret
      exact ⟨ret_bool HC.out.symm, hsr.bel⟩
set_option maxRecDepth 100000 in
set_option maxHeartbeats 2000000 in
theorem l01Tuple_c (size ar : Int) (l : List Int) (v0 : Value) (w : World) (r0 : Rd w [v0] l) (hs0 : -1000 ≤ size) (hs1 : size ≤ 1000000000) :
    Calls Try.prog 85 #[.int .i64 size, .int .i64 ar, v0] w fun e w' => e = .returned (.bool (valsOk size l ar)) ∧ w = w' := by
  obtain ⟨a, c, rfl, h0⟩ := rd_list r0
  have hb0 := (rdSl_len h0).2
  unfold maxLen at hb0
  have HR := Lib.hid r0
  clear r0 h0
  go_enter Try.func85, Try.ntmps85
  go_wp2_with fail
  go_loop [7] (fun i => ∃ k : Nat, k ≤ l.length ∧ i = .int .i64 k ∧ Hid (∀ j (hj : j < l.length), j < k → inB l[j] 0 (size - 1) = true)) (fun i => l.length - (intOf i).toNat)
  case atStart => exact ⟨0, Nat.zero_le _, rfl, fun j _ hj => absurd hj (Nat.not_lt_zero _)⟩
  case round =>
    obtain ⟨k, hk, rfl, hr⟩ := hrel
    by_cases hlt : k < l.length
    · obtain ⟨b, o, rfl, q0, _⟩ := rd_int_at HR.out k hlt
      go_wp2_with fail
      refine (l00In_c l[k] 0 (size - 1) _).mono ?_
      rintro e w1 ⟨rfl, rfl⟩
      cases hq : inB l[k] 0 (size - 1) with
      | false =>
        have HQ := Lib.hid (show valsOk size l ar = false by
          simp only [valsOk, Bool.and_eq_false_iff]
          exact .inr (List.all_eq_false.2 ⟨_, List.getElem_mem hlt, by simp [hq]⟩))
        clear hq
        go_wp2_with fail
        go_ret
        exact ⟨ret_bool HQ.out.symm, rfl⟩
      | true =>
        have HQ := Lib.hid hq
        clear hq
        go_wp2_with fail
        go_round
        case rel =>
          refine ⟨k + 1, by omega, by go_num, fun j hj hjk => ?_⟩
          rcases Nat.lt_or_ge j k with h | h
          · exact hr.out j hj h
          · obtain rfl : j = k := by omega
            exact HQ.out
        case measure => simp [intOf]; omega
    · obtain rfl : k = l.length := by omega
      have HA := Lib.hid (show l.all (fun a => inB a 0 (size - 1)) = true by
        rw [List.all_eq_true]
        intro y hy
        obtain ⟨j, hj, rfl⟩ := List.getElem_of_mem hy
        exact hr.out j hj hj)
      by_cases hn : (l.length : Int) = ar
      · have hn1 : ((l.length : Int) == ar) = true := by simpa using hn
        have HQ := Lib.hid (show valsOk size l ar = true by unfold valsOk; rw [HA.out, decide_eq_true hn]; rfl)
        clear hn
        go_wp2_with fail
        go_ret
        exact ⟨ret_bool (by rw [HQ.out] <;> first | rfl | simp [hn1]), rfl⟩
      · have hn1 : ((l.length : Int) == ar) = false := by simpa using hn
        have HQ := Lib.hid (show valsOk size l ar = false by unfold valsOk; rw [decide_eq_false hn]; rfl)
        clear hn
        go_wp2_with fail
        go_ret
        exact ⟨ret_bool (by rw [HQ.out] <;> first | rfl | simp [hn1]), rfl⟩
theorem valsOk_len {p n : Int} {l : List Int} (h : valsOk p l n = true) : (l.length : Int) = n := by
  simp only [valsOk, Bool.and_eq_true, decide_eq_true_eq] at h
  exact h.1
set_option maxRecDepth 100000 in
set_option maxHeartbeats 4000000 in
theorem ValidRel_c (size : Int) (r : RelT) (v0 v1 : Value) (w : World) (hr : Rd w [v0, v1] r) :
    Calls Try.prog 61 #[.int .i64 size, .agg #[v0, v1]] w fun e w' => e = .returned (.bool (relOk size r)) ∧ Below w.heap.size w w' := by
  obtain ⟨ar, l⟩ := r
  have HR := Lib.hid hr
  have z7 := rd_cons rfl hr
  obtain ⟨rfl, hIar⟩ := rd_i1 z7.1
  obtain ⟨a, c, rfl, hRl⟩ := rd_list z7.2
  clear hr z7
  have hb0 := (rdSl_len hRl).2
  unfold maxLen at hb0
  have HL := Lib.hid hRl
  clear hRl
  have hs8 := (St.start w).alloc #[.int .i64 ar, .slice a l.length c] 31 (n := w.heap.size) (by simp)
  have k0_0 := hs8.cellAt 0 rfl 0 rfl
  have k0_1 := hs8.cellAt 0 rfl 1 rfl
  go_enter Try.func61, Try.ntmps61
  go_wp2_with fail
  refine (isSize_c size _).mono ?_
  rintro e w9 ⟨rfl, rfl, rfl⟩
  cases h1 : inB size 1 4 with
  | false =>
    have H1 := Lib.hid (show relOk size (ar, l) = false by simp only [relOk, h1, Bool.false_and])
    clear h1
    go_wp2_with fail
    go_ret
    exact ⟨ret_bool H1.out.symm, hs8.bel⟩
  | true =>
    have hs := inB_true h1
    have H1 := Lib.hid h1
    clear h1
    go_wp2_with fail
    refine (isArity_c ar _).mono ?_
    rintro e w10 ⟨rfl, rfl, rfl⟩
    cases h2 : inB ar 1 4 with
    | false =>
      have H2 := Lib.hid (show relOk size (ar, l) = false by simp only [relOk, h2, Bool.and_false, Bool.false_and])
      clear h2
      go_wp2_with fail
      go_ret
      exact ⟨ret_bool H2.out.symm, hs8.bel⟩
    | true =>
      have har := inB_true h2
      have H2 := Lib.hid h2
      have H3 := Lib.hid (show relOk size (ar, l) = tupsOk size ar l by simp only [relOk, H1.out, h2, Bool.true_and])
      clear h2
      have HB0 := Lib.hid hs8.bel
      go_wp2_with fail
      go_loopw [19] (fun i wl => ∃ k : Nat, k ≤ l.length ∧ i = .int .i64 k ∧ Hid (Below ((w.alloc (.cells #[.int .i64 ar, .slice a l.length c] 31))).heap.size ((w.alloc (.cells #[.int .i64 ar, .slice a l.length c] 31))) wl) ∧ Hid (∀ j, j < k → tupAt size ar l j = true)) (fun i _ => l.length - (intOf i).toNat)
      case atStart => exact ⟨0, Nat.zero_le _, rfl, Below.refl _ _, fun j hj => absurd hj (Nat.not_lt_zero _)⟩
      case round =>
        obtain ⟨k, hk, rfl, hbl, ht⟩ := hrel
        have hbl2 := hbl.out
        have hz_wr : w.heap.size + 1 ≤ wr.heap.size := by have h9 := hbl2.size; (try simp at h9); omega
        have hs11 := hs8.step hbl2
        clear k0_0 k0_1
        have k0_0 := hs11.cellAt 0 rfl 0 rfl
        have k0_1 := hs11.cellAt 0 rfl 1 rfl
        have HBL := Lib.hid hbl2
        clear hbl2 hbl
        by_cases hlt : k < l.length
        · obtain ⟨b, o, u0, rfl, f0, hx⟩ := rdSl_one rfl (rdSl_mono hs11.bel HL.out) k hlt
          have HX := Lib.hid hx
          clear hx
          obtain ⟨a0, c0, rfl, _⟩ := rd_list HX.out
          go_wp2_with fail
          refine (areValues_c size l[k] _ ar _ HX.out (by omega) (by omega)).mono ?_
          rintro e w12 ⟨rfl, hbw12⟩
          have hz_w12 : wr.heap.size ≤ w12.heap.size := by have h9 := hbw12.size; (try simp at h9); omega
          have hs13 := hs11.step hbw12
          have f0_14 := cellL hbw12 f0
          clear f0
          have HBL_15 := Lib.hid (HBL.out.trans ((hbw12).mono HBL.out.size))
          clear HBL
          have HX_16 := Lib.hid (Rd.mono HX.out hbw12)
          clear HX
          clear k0_0 k0_1
          have k0_0 := hs13.cellAt 0 rfl 0 rfl
          have k0_1 := hs13.cellAt 0 rfl 1 rfl
          cases h4 : valsOk size l[k] ar with
          | false =>
            have H4 := Lib.hid (show relOk size (ar, l) = false by
              rw [H3.out]
              exact tupsOk_not k hlt (by simp [tupAt, List.getD, hlt, h4]))
            clear h4
            go_wp2_with fail
            go_ret
            exact ⟨ret_bool H4.out.symm, hs13.bel⟩
          | true =>
            have H4 := Lib.hid h4
            clear h4
            cases k with
            | zero =>
              go_wp2_with fail
              go_roundw
              case rel =>
                refine ⟨1, by omega, by go_num, HBL_15.out, fun j hj => ?_⟩
                obtain rfl : j = 0 := by omega
                simp [tupAt, List.getD, hlt, H4.out]
              case measure => simp [intOf]; omega
            | succ j =>
              obtain ⟨b', o', u1, e1, f1, hy⟩ := rdSl_one rfl (rdSl_mono hs13.bel HL.out) j (by omega)
              simp only [Option.some.injEq, Addr.mk.injEq, and_true] at e1
              obtain ⟨rfl, rfl⟩ := e1
              have HY := Lib.hid hy
              clear hy
              obtain ⟨a1, c1, rfl, _⟩ := rd_list HY.out
              have ej : ((↑(j + 1) : Int) - 1).toNat = j := by omega
              have ej1 : (0 : Int) ≤ (↑(j + 1) : Int) - 1 := by omega
              have ej2 : (↑(j + 1) : Int) - 1 < l.length := by omega
              go_wp2_with fail
              refine (compare_c l[j] l[j + 1] _ _ _ HY.out HX_16.out).mono ?_
              rintro e w17 ⟨rfl, rfl, rfl⟩
              have hcb := cmp_bd l[j] l[j + 1]
              by_cases h5 : cmpL l[j] l[j + 1] < 0
              · have hT := Lib.hid (show tupAt size ar l (j + 1) = true by simp [tupAt, List.getD, hlt, H4.out, show j < l.length by omega, h5])
                have h6 : ¬ (0 ≤ cmpL l[j] l[j + 1]) := by omega
                go_wp2_with fail
                go_roundw
                case rel =>
                  refine ⟨j + 2, by omega, by go_num, HBL_15.out, fun i hi => ?_⟩
                  rcases Nat.lt_or_ge i (j + 1) with h | h
                  · exact ht.out i h
                  · obtain rfl : i = j + 1 := by omega
                    exact hT.out
                case measure => simp [intOf]; omega
              · have H5 := Lib.hid (show relOk size (ar, l) = false by
                  rw [H3.out]
                  exact tupsOk_not (j + 1) hlt (by simp [tupAt, List.getD, hlt, show j < l.length by omega, h5]))
                have h6 : 0 ≤ cmpL l[j] l[j + 1] := by omega
                go_wp2_with fail
                go_ret
                exact ⟨ret_bool H5.out.symm, hs13.bel⟩
        · obtain rfl : k = l.length := by omega
          have HT := Lib.hid (tupsOk_of ht.out)
          go_wp2_with fail
          go_ret
          exact ⟨ret_bool (by rw [H3.out, HT.out]), hs11.bel⟩
set_option maxRecDepth 100000 in
set_option maxHeartbeats 4000000 in
theorem l01Ok_c (size : Int) (r : RelT) (pb po : Nat) (v0 v1 : Value) (w : World) (hr : Rd w [v0, v1] r) (hc0 : w.cell? ⟨pb, po, none⟩ = some v0) (hc1 : w.cell? ⟨pb, po + 1, none⟩ = some v1) :
    Calls Try.prog 51 #[.int .i64 size, .pointer (some ⟨pb, po, none⟩)] w fun e w' => e = .returned (.bool (relOk size r)) ∧ Below w.heap.size w w' := by
  obtain ⟨ar, l⟩ := r
  have HR := Lib.hid hr
  have z18 := rd_cons rfl hr
  obtain ⟨rfl, hIar⟩ := rd_i1 z18.1
  obtain ⟨a, c, rfl, hRl⟩ := rd_list z18.2
  clear hr z18
  have hb0 := (rdSl_len hRl).2
  unfold maxLen at hb0
  have HL := Lib.hid hRl
  clear hRl
  have hc0_ := cellL (St.start w).bel hc0
  clear hc0_
  have hc0_ := cellL (St.start w).bel hc0
  have hc1_ := cellL (St.start w).bel hc1
  go_enter Try.func51, Try.ntmps51
  go_wp2_with fail
  refine (l01Size_c size _).mono ?_
  rintro e w19 ⟨rfl, rfl, rfl⟩
  cases h1 : inB size 1 4 with
  | false =>
    have H1 := Lib.hid (show relOk size (ar, l) = false by simp only [relOk, h1, Bool.false_and])
    clear h1
    go_wp2_with fail
    go_ret
    exact ⟨ret_bool H1.out.symm, (St.start w).bel⟩
  | true =>
    have hs := inB_true h1
    have H1 := Lib.hid h1
    clear h1
    go_wp2_with fail
    refine (l01Arity_c ar _).mono ?_
    rintro e w20 ⟨rfl, rfl, rfl⟩
    cases h2 : inB ar 1 4 with
    | false =>
      have H2 := Lib.hid (show relOk size (ar, l) = false by simp only [relOk, h2, Bool.and_false, Bool.false_and])
      clear h2
      go_wp2_with fail
      go_ret
      exact ⟨ret_bool H2.out.symm, (St.start w).bel⟩
    | true =>
      have har := inB_true h2
      have H2 := Lib.hid h2
      have H3 := Lib.hid (show relOk size (ar, l) = tupsOk size ar l by simp only [relOk, H1.out, h2, Bool.true_and])
      clear h2
      go_wp2_with fail
      go_loopw [5] (fun i wl => ∃ k : Nat, k ≤ l.length ∧ i = .int .i64 k ∧ Hid (Below w.heap.size w wl) ∧ Hid (∀ j, j < k → tupAt size ar l j = true)) (fun i _ => l.length - (intOf i).toNat)
      case atStart => exact ⟨0, Nat.zero_le _, rfl, Below.refl _ _, fun j hj => absurd hj (Nat.not_lt_zero _)⟩
      case round =>
        obtain ⟨k, hk, rfl, hbl, ht⟩ := hrel
        have hsr := (St.start w).step hbl.out
        have hc0_ := cellL hsr.bel hc0
        have hc1_ := cellL hsr.bel hc1
        clear hbl
        by_cases hlt : k < l.length
        · obtain ⟨b, o, u0, rfl, f0, hx⟩ := rdSl_one rfl HL.out k hlt
          have HX := Lib.hid hx
          clear hx
          obtain ⟨a0, c0, rfl, _⟩ := rd_list HX.out
          clear hc0_ hc1_
          have hc0_ := cellL hsr.bel hc0
          have hc1_ := cellL hsr.bel hc1
          have f0_ := cellL hsr.bel f0
          clear hc0_ hc1_ f0_
          have hc0_ := cellL hsr.bel hc0
          have hc1_ := cellL hsr.bel hc1
          have f0_ := cellL hsr.bel f0
          have hkl : (k : Int) < l.length := by omega
          cases h4 : valsOk size l[k] ar with
          | false =>
            have H4 := Lib.hid (show relOk size (ar, l) = false by
              rw [H3.out]
              exact tupsOk_not k hlt (by simp [tupAt, List.getD, hlt, h4]))
            go_upto_region 6 with fail
            refine wp_region_noPanic (wp_region_tree4 (fun w' => w'.cell? ⟨pb, po, none⟩ = some (.int .i64 ar) ∧ w'.cell? ⟨pb, po + 1, none⟩ = some (.slice (some ⟨b, o, none⟩) l.length c) ∧ w'.cell? ⟨b, o + k, none⟩ = some (.slice a0 l[k].length c0)) (.float 0 (.float 1 (.float 2 (.float 3 (.float 4 (.float 5 (.float 6 (.float 7 (.float 8 (.float 9 (.float 10 (.float 11 (.hard 12 (.float 13 (.float 14 (.float 15 (.float 16 (.float 17 (.float 18 (.float 19 (.float 20 (.float 21 (.float 22 (.float 23 (.float 24 (.float 25 (.float 26 (.float 27 (.float 28 (.float 29 (.float 30 (.float 31 (.float 32 (.hard 33 (.float 34 (.float 35 (.float 36 .nil))))))))))))))))))))))))))))))))))))) (by kernel_rfl) (by kernel_rfl) (by kernel_rfl) rfl ?_ (fun _ _ _ _ _ h => h) ?_)
            · exact ⟨cellL (hsr.drew).bel hc0, cellL (hsr.drew).bel hc1, cellL (hsr.drew).bel f0⟩
            have hs21 := hsr.drew
            clear hc0_ hc1_ f0_
            have hz_wd22 : wr.heap.size ≤ (wr.drew).heap.size := by simp
            generalize hgen_wd22 : wr.drew = wd22 at *
            have HG_wd22 := Lib.hid hgen_wd22
            clear hgen_wd22
            (repeat (first | (apply t4_skip rfl (by rfl); try simp only [Act.put, List.setIfInBounds_toArray, List.set_cons_zero, List.set_cons_succ]) | (apply t4_float rfl (by rfl); (· (intro w' hS; go_simp <;> with_reducible rfl)); (try simp only [Act.put, List.setIfInBounds_toArray, List.set_cons_zero, List.set_cons_succ]))))
            refine t4_hard rfl (by rfl) (fun K hK => ?_)
            go_wp2_with (go_at_call 85; refine (l01Tuple_c size ar l[k] _ _ (Rd.mono HX.out hs21.bel) (by omega) (by omega)).mono ?_; rintro e w23 ⟨rfl, rfl, rfl⟩)
            refine ⟨⟨cellL hs21.bel hc0, cellL hs21.bel hc1, cellL hs21.bel f0⟩, ?_⟩
            (repeat (first | (apply t4_skip rfl (by rfl); try simp only [Act.put, List.setIfInBounds_toArray, List.set_cons_zero, List.set_cons_succ]) | (apply t4_float rfl (by rfl); (· (intro w' hS; go_simp <;> with_reducible rfl)); (try simp only [Act.put, List.setIfInBounds_toArray, List.set_cons_zero, List.set_cons_succ]))))
            refine t4_hskip rfl (by rfl) ?_ ?_
            · exact ⟨cellL hs21.bel hc0, cellL hs21.bel hc1, cellL hs21.bel f0⟩
            (try simp only [Act.put, List.setIfInBounds_toArray, List.set_cons_zero, List.set_cons_succ])
            (repeat (first | (apply t4_skip rfl (by rfl); try simp only [Act.put, List.setIfInBounds_toArray, List.set_cons_zero, List.set_cons_succ]) | (apply t4_float rfl (by rfl); (· (intro w' hS; go_simp <;> with_reducible rfl)); (try simp only [Act.put, List.setIfInBounds_toArray, List.set_cons_zero, List.set_cons_succ]))))
            have hc0_ := cellL hs21.bel hc0
            have hc1_ := cellL hs21.bel hc1
            have f0_ := cellL hs21.bel f0
            refine t4_nil (NoPanic.normal ?_)
            go_wp2_with fail
            go_ret
            exact ⟨ret_bool H4.out.symm, hs21.bel⟩
          | true =>
            have H4 := Lib.hid h4
            by_cases hk0 : k = 0
            · have hk1 : ¬ ((0 : Int) < k) := by omega
              have HK0 := Lib.hid hk0
              have HD := Lib.hid (show decide (0 < k) = false by simp [hk0])
              clear hk0 hk1
              go_upto_region 6 with fail
              refine wp_region_noPanic (wp_region_tree4 (fun w' => w'.cell? ⟨pb, po, none⟩ = some (.int .i64 ar) ∧ w'.cell? ⟨pb, po + 1, none⟩ = some (.slice (some ⟨b, o, none⟩) l.length c) ∧ w'.cell? ⟨b, o + k, none⟩ = some (.slice a0 l[k].length c0)) (.float 0 (.float 1 (.float 2 (.float 3 (.float 4 (.float 5 (.float 6 (.float 7 (.float 8 (.float 9 (.float 10 (.float 11 (.hard 12 (.float 13 (.float 14 (.float 15 (.float 16 (.float 17 (.float 18 (.float 19 (.float 20 (.float 21 (.float 22 (.float 23 (.float 24 (.float 25 (.float 26 (.float 27 (.float 28 (.float 29 (.float 30 (.float 31 (.float 32 (.hard 33 (.float 34 (.float 35 (.float 36 .nil))))))))))))))))))))))))))))))))))))) (by kernel_rfl) (by kernel_rfl) (by kernel_rfl) rfl ?_ (fun _ _ _ _ _ h => h) ?_)
              · exact ⟨cellL (hsr.drew).bel hc0, cellL (hsr.drew).bel hc1, cellL (hsr.drew).bel f0⟩
              have hs24 := hsr.drew
              clear hc0_ hc1_ f0_
              have hz_wd25 : wr.heap.size ≤ (wr.drew).heap.size := by simp
              generalize hgen_wd25 : wr.drew = wd25 at *
              have HG_wd25 := Lib.hid hgen_wd25
              clear hgen_wd25
              (repeat (first | (apply t4_skip rfl (by rfl); try simp only [Act.put, List.setIfInBounds_toArray, List.set_cons_zero, List.set_cons_succ]) | (apply t4_float rfl (by rfl); (· (intro w' hS; go_simp <;> with_reducible rfl)); (try simp only [Act.put, List.setIfInBounds_toArray, List.set_cons_zero, List.set_cons_succ]))))
              (try (rw [HD.out]; (repeat (first | (apply t4_skip rfl (by rfl); try simp only [Act.put, List.setIfInBounds_toArray, List.set_cons_zero, List.set_cons_succ]) | (apply t4_float rfl (by rfl); (· (intro w' hS; go_simp <;> with_reducible rfl)); (try simp only [Act.put, List.setIfInBounds_toArray, List.set_cons_zero, List.set_cons_succ]))))))
              refine t4_hard rfl (by rfl) (fun K hK => ?_)
              go_wp2_with (go_at_call 85; refine (l01Tuple_c size ar l[k] _ _ (Rd.mono HX.out hs24.bel) (by omega) (by omega)).mono ?_; rintro e w26 ⟨rfl, rfl, rfl⟩)
              refine ⟨⟨cellL hs24.bel hc0, cellL hs24.bel hc1, cellL hs24.bel f0⟩, ?_⟩
              (repeat (first | (apply t4_skip rfl (by rfl); try simp only [Act.put, List.setIfInBounds_toArray, List.set_cons_zero, List.set_cons_succ]) | (apply t4_float rfl (by rfl); (· (intro w' hS; go_simp <;> with_reducible rfl)); (try simp only [Act.put, List.setIfInBounds_toArray, List.set_cons_zero, List.set_cons_succ]))))
              (try (rw [HD.out]; (repeat (first | (apply t4_skip rfl (by rfl); try simp only [Act.put, List.setIfInBounds_toArray, List.set_cons_zero, List.set_cons_succ]) | (apply t4_float rfl (by rfl); (· (intro w' hS; go_simp <;> with_reducible rfl)); (try simp only [Act.put, List.setIfInBounds_toArray, List.set_cons_zero, List.set_cons_succ]))))))
              refine t4_hskip rfl (by rfl) ?_ ?_
              · exact ⟨cellL hs24.bel hc0, cellL hs24.bel hc1, cellL hs24.bel f0⟩
              (try simp only [Act.put, List.setIfInBounds_toArray, List.set_cons_zero, List.set_cons_succ])
              (repeat (first | (apply t4_skip rfl (by rfl); try simp only [Act.put, List.setIfInBounds_toArray, List.set_cons_zero, List.set_cons_succ]) | (apply t4_float rfl (by rfl); (· (intro w' hS; go_simp <;> with_reducible rfl)); (try simp only [Act.put, List.setIfInBounds_toArray, List.set_cons_zero, List.set_cons_succ]))))
              (try (rw [HD.out]; (repeat (first | (apply t4_skip rfl (by rfl); try simp only [Act.put, List.setIfInBounds_toArray, List.set_cons_zero, List.set_cons_succ]) | (apply t4_float rfl (by rfl); (· (intro w' hS; go_simp <;> with_reducible rfl)); (try simp only [Act.put, List.setIfInBounds_toArray, List.set_cons_zero, List.set_cons_succ]))))))
              have hc0_ := cellL hs24.bel hc0
              have hc1_ := cellL hs24.bel hc1
              have f0_ := cellL hs24.bel f0
              refine t4_nil (NoPanic.normal ?_)
              go_wp2_with fail
              go_roundw
              case rel =>
                refine ⟨k + 1, by omega, by go_num, hs24.bel, fun j hj => ?_⟩
                have hk0 := HK0.out
                obtain rfl : j = k := by omega
                unfold tupAt
                rw [show l.getD j [] = l[j] by simp [List.getD, hlt], H4.out, decide_eq_true hk0]
                rfl
              case measure => simp [intOf]; omega
            · obtain ⟨j, hkj⟩ : ∃ j, k = j + 1 := ⟨k - 1, by omega⟩
              have HD := Lib.hid (show decide (0 < k) = true by simp [hkj])
              have hjl : j < l.length := by omega
              obtain ⟨b', o', u1, e1, f1, hy⟩ := rdSl_one rfl HL.out j hjl
              simp only [Option.some.injEq, Addr.mk.injEq, and_true] at e1
              obtain ⟨rfl, rfl⟩ := e1
              have HY := Lib.hid hy
              clear hy
              obtain ⟨a1, c1, rfl, _⟩ := rd_list HY.out
              clear hc0_ hc1_ f0_
              have hc0_ := cellL hsr.bel hc0
              have hc1_ := cellL hsr.bel hc1
              have f0_ := cellL hsr.bel f0
              have f1_ := cellL hsr.bel f1
              clear hc0_ hc1_ f0_ f1_
              have hc0_ := cellL hsr.bel hc0
              have hc1_ := cellL hsr.bel hc1
              have f0_ := cellL hsr.bel f0
              have f1_ := cellL hsr.bel f1
              have HLE := Lib.hid (show l[j].length = l[k].length by
                have h := ht.out j (by omega)
                simp only [tupAt, Bool.and_eq_true] at h
                have h9 := h.1
                rw [show l.getD j [] = l[j] by simp [List.getD, show j < l.length by omega, show k - 1 = j by omega, hk0]] at h9
                have e1 := valsOk_len h9
                have e2 := valsOk_len h4
                omega)
              have ej : (k : Int) - 1 = (j : Int) := by omega
              have ejw : IntKind.i64.wrap (j : Int) = (j : Int) := i64_in _ (by omega)
              have HKJ := Lib.hid hkj
              clear hkj
              cases h5 : befL l[j] l[k] with
              | false =>
                have H5 := Lib.hid (show relOk size (ar, l) = false by
                  have hkj := HKJ.out
                  have h6 := cmp_bef _ _ HLE.out
                  rw [h5] at h6
                  rw [H3.out]
                  exact tupsOk_not k hlt (by simp [tupAt, List.getD, hlt, show j < l.length by omega, show k - 1 = j by omega, hk0]; exact fun _ => by simpa using h6.symm))
                go_upto_region 6 with fail
                refine wp_region_noPanic (wp_region_tree4 (fun w' => w'.cell? ⟨pb, po, none⟩ = some (.int .i64 ar) ∧ w'.cell? ⟨pb, po + 1, none⟩ = some (.slice (some ⟨b, o, none⟩) l.length c) ∧ w'.cell? ⟨b, o + k, none⟩ = some (.slice a0 l[k].length c0) ∧ w'.cell? ⟨b, o + j, none⟩ = some (.slice a1 l[j].length c1)) (.float 0 (.float 1 (.float 2 (.float 3 (.float 4 (.float 5 (.float 6 (.float 7 (.float 8 (.float 9 (.float 10 (.float 11 (.hard 12 (.float 13 (.float 14 (.float 15 (.float 16 (.float 17 (.float 18 (.float 19 (.float 20 (.float 21 (.float 22 (.float 23 (.float 24 (.float 25 (.float 26 (.float 27 (.float 28 (.float 29 (.float 30 (.float 31 (.float 32 (.hard 33 (.float 34 (.float 35 (.float 36 .nil))))))))))))))))))))))))))))))))))))) (by kernel_rfl) (by kernel_rfl) (by kernel_rfl) rfl ?_ (fun _ _ _ _ _ h => h) ?_)
                · exact ⟨cellL (hsr.drew).bel hc0, cellL (hsr.drew).bel hc1, cellL (hsr.drew).bel f0, cellL (hsr.drew).bel f1⟩
                have hs27 := hsr.drew
                clear hc0_ hc1_ f0_ f1_
                have hz_wd28 : wr.heap.size ≤ (wr.drew).heap.size := by simp
                generalize hgen_wd28 : wr.drew = wd28 at *
                have HG_wd28 := Lib.hid hgen_wd28
                clear hgen_wd28
                (repeat (first | (apply t4_skip rfl (by rfl); try simp only [Act.put, List.setIfInBounds_toArray, List.set_cons_zero, List.set_cons_succ]) | (apply t4_float rfl (by rfl); (· (intro w' hS; go_simp <;> with_reducible rfl)); (try simp only [Act.put, List.setIfInBounds_toArray, List.set_cons_zero, List.set_cons_succ]))))
                (try (rw [HD.out]; (repeat (first | (apply t4_skip rfl (by rfl); try simp only [Act.put, List.setIfInBounds_toArray, List.set_cons_zero, List.set_cons_succ]) | (apply t4_float rfl (by rfl); (· (intro w' hS; go_simp <;> with_reducible rfl)); (try simp only [Act.put, List.setIfInBounds_toArray, List.set_cons_zero, List.set_cons_succ]))))))
                refine t4_hard rfl (by rfl) (fun K hK => ?_)
                go_wp2_with (go_at_call 85; refine (l01Tuple_c size ar l[k] _ _ (Rd.mono HX.out hs27.bel) (by omega) (by omega)).mono ?_; rintro e w29 ⟨rfl, rfl, rfl⟩)
                refine ⟨⟨cellL hs27.bel hc0, cellL hs27.bel hc1, cellL hs27.bel f0, cellL hs27.bel f1⟩, ?_⟩
                (repeat (first | (apply t4_skip rfl (by rfl); try simp only [Act.put, List.setIfInBounds_toArray, List.set_cons_zero, List.set_cons_succ]) | (apply t4_float rfl (by rfl); (· (intro w' hS; go_simp <;> with_reducible rfl)); (try simp only [Act.put, List.setIfInBounds_toArray, List.set_cons_zero, List.set_cons_succ]))))
                (try (rw [HD.out]; (repeat (first | (apply t4_skip rfl (by rfl); try simp only [Act.put, List.setIfInBounds_toArray, List.set_cons_zero, List.set_cons_succ]) | (apply t4_float rfl (by rfl); (· (intro w' hS; go_simp <;> with_reducible rfl)); (try simp only [Act.put, List.setIfInBounds_toArray, List.set_cons_zero, List.set_cons_succ]))))))
                refine t4_hard rfl (by rfl) (fun K hK => ?_)
                go_wp2_with (go_at_call 86; refine (l01Before_c l[j] l[k] _ _ _ (Rd.mono HY.out hs27.bel) (Rd.mono HX.out hs27.bel) HLE.out).mono ?_; rintro e w30 ⟨rfl, hbw30⟩)
                have hz_w30 : wd28.heap.size ≤ w30.heap.size := by have h9 := hbw30.size; (try simp at h9); omega
                have hs31 := hs27.step hbw30
                refine ⟨⟨cellL hs31.bel hc0, cellL hs31.bel hc1, cellL hs31.bel f0, cellL hs31.bel f1⟩, ?_⟩
                (repeat (first | (apply t4_skip rfl (by rfl); try simp only [Act.put, List.setIfInBounds_toArray, List.set_cons_zero, List.set_cons_succ]) | (apply t4_float rfl (by rfl); (· (intro w' hS; go_simp <;> with_reducible rfl)); (try simp only [Act.put, List.setIfInBounds_toArray, List.set_cons_zero, List.set_cons_succ]))))
                (try (rw [HD.out]; (repeat (first | (apply t4_skip rfl (by rfl); try simp only [Act.put, List.setIfInBounds_toArray, List.set_cons_zero, List.set_cons_succ]) | (apply t4_float rfl (by rfl); (· (intro w' hS; go_simp <;> with_reducible rfl)); (try simp only [Act.put, List.setIfInBounds_toArray, List.set_cons_zero, List.set_cons_succ]))))))
                have hc0_ := cellL hs31.bel hc0
                have hc1_ := cellL hs31.bel hc1
                have f0_ := cellL hs31.bel f0
                have f1_ := cellL hs31.bel f1
                refine t4_nil (NoPanic.normal ?_)
                go_wp2_with fail
                go_ret
                exact ⟨ret_bool H5.out.symm, hs31.bel⟩
              | true =>
                have H5 := Lib.hid (show tupAt size ar l k = true by
                  have hkj := HKJ.out
                  have h6 := cmp_bef _ _ HLE.out
                  rw [h5] at h6
                  simp [tupAt, List.getD, hlt, H4.out, show j < l.length by omega, show k - 1 = j by omega, hk0]
                  simpa using h6.symm)
                go_upto_region 6 with fail
                refine wp_region_noPanic (wp_region_tree4 (fun w' => w'.cell? ⟨pb, po, none⟩ = some (.int .i64 ar) ∧ w'.cell? ⟨pb, po + 1, none⟩ = some (.slice (some ⟨b, o, none⟩) l.length c) ∧ w'.cell? ⟨b, o + k, none⟩ = some (.slice a0 l[k].length c0) ∧ w'.cell? ⟨b, o + j, none⟩ = some (.slice a1 l[j].length c1)) (.float 0 (.float 1 (.float 2 (.float 3 (.float 4 (.float 5 (.float 6 (.float 7 (.float 8 (.float 9 (.float 10 (.float 11 (.hard 12 (.float 13 (.float 14 (.float 15 (.float 16 (.float 17 (.float 18 (.float 19 (.float 20 (.float 21 (.float 22 (.float 23 (.float 24 (.float 25 (.float 26 (.float 27 (.float 28 (.float 29 (.float 30 (.float 31 (.float 32 (.hard 33 (.float 34 (.float 35 (.float 36 .nil))))))))))))))))))))))))))))))))))))) (by kernel_rfl) (by kernel_rfl) (by kernel_rfl) rfl ?_ (fun _ _ _ _ _ h => h) ?_)
                · exact ⟨cellL (hsr.drew).bel hc0, cellL (hsr.drew).bel hc1, cellL (hsr.drew).bel f0, cellL (hsr.drew).bel f1⟩
                have hs32 := hsr.drew
                clear hc0_ hc1_ f0_ f1_
                have hz_wd33 : wr.heap.size ≤ (wr.drew).heap.size := by simp
                generalize hgen_wd33 : wr.drew = wd33 at *
                have HG_wd33 := Lib.hid hgen_wd33
                clear hgen_wd33
                (repeat (first | (apply t4_skip rfl (by rfl); try simp only [Act.put, List.setIfInBounds_toArray, List.set_cons_zero, List.set_cons_succ]) | (apply t4_float rfl (by rfl); (· (intro w' hS; go_simp <;> with_reducible rfl)); (try simp only [Act.put, List.setIfInBounds_toArray, List.set_cons_zero, List.set_cons_succ]))))
                (try (rw [HD.out]; (repeat (first | (apply t4_skip rfl (by rfl); try simp only [Act.put, List.setIfInBounds_toArray, List.set_cons_zero, List.set_cons_succ]) | (apply t4_float rfl (by rfl); (· (intro w' hS; go_simp <;> with_reducible rfl)); (try simp only [Act.put, List.setIfInBounds_toArray, List.set_cons_zero, List.set_cons_succ]))))))
                refine t4_hard rfl (by rfl) (fun K hK => ?_)
                go_wp2_with (go_at_call 85; refine (l01Tuple_c size ar l[k] _ _ (Rd.mono HX.out hs32.bel) (by omega) (by omega)).mono ?_; rintro e w34 ⟨rfl, rfl, rfl⟩)
                refine ⟨⟨cellL hs32.bel hc0, cellL hs32.bel hc1, cellL hs32.bel f0, cellL hs32.bel f1⟩, ?_⟩
                (repeat (first | (apply t4_skip rfl (by rfl); try simp only [Act.put, List.setIfInBounds_toArray, List.set_cons_zero, List.set_cons_succ]) | (apply t4_float rfl (by rfl); (· (intro w' hS; go_simp <;> with_reducible rfl)); (try simp only [Act.put, List.setIfInBounds_toArray, List.set_cons_zero, List.set_cons_succ]))))
                (try (rw [HD.out]; (repeat (first | (apply t4_skip rfl (by rfl); try simp only [Act.put, List.setIfInBounds_toArray, List.set_cons_zero, List.set_cons_succ]) | (apply t4_float rfl (by rfl); (· (intro w' hS; go_simp <;> with_reducible rfl)); (try simp only [Act.put, List.setIfInBounds_toArray, List.set_cons_zero, List.set_cons_succ]))))))
                refine t4_hard rfl (by rfl) (fun K hK => ?_)
                go_wp2_with (go_at_call 86; refine (l01Before_c l[j] l[k] _ _ _ (Rd.mono HY.out hs32.bel) (Rd.mono HX.out hs32.bel) HLE.out).mono ?_; rintro e w35 ⟨rfl, hbw35⟩)
                have hz_w35 : wd33.heap.size ≤ w35.heap.size := by have h9 := hbw35.size; (try simp at h9); omega
                have hs36 := hs32.step hbw35
                refine ⟨⟨cellL hs36.bel hc0, cellL hs36.bel hc1, cellL hs36.bel f0, cellL hs36.bel f1⟩, ?_⟩
                (repeat (first | (apply t4_skip rfl (by rfl); try simp only [Act.put, List.setIfInBounds_toArray, List.set_cons_zero, List.set_cons_succ]) | (apply t4_float rfl (by rfl); (· (intro w' hS; go_simp <;> with_reducible rfl)); (try simp only [Act.put, List.setIfInBounds_toArray, List.set_cons_zero, List.set_cons_succ]))))
                (try (rw [HD.out]; (repeat (first | (apply t4_skip rfl (by rfl); try simp only [Act.put, List.setIfInBounds_toArray, List.set_cons_zero, List.set_cons_succ]) | (apply t4_float rfl (by rfl); (· (intro w' hS; go_simp <;> with_reducible rfl)); (try simp only [Act.put, List.setIfInBounds_toArray, List.set_cons_zero, List.set_cons_succ]))))))
                have hc0_ := cellL hs36.bel hc0
                have hc1_ := cellL hs36.bel hc1
                have f0_ := cellL hs36.bel f0
                have f1_ := cellL hs36.bel f1
                refine t4_nil (NoPanic.normal ?_)
                go_wp2_with fail
                go_roundw
                case rel =>
                  refine ⟨k + 1, by omega, by go_num, hs36.bel, fun i hi => ?_⟩
                  rcases Nat.lt_or_ge i k with h | h
                  · exact ht.out i h
                  · obtain rfl : i = k := by omega
                    exact H5.out
                case measure => simp [intOf]; omega
        · obtain rfl : k = l.length := by omega
          have HT := Lib.hid (tupsOk_of ht.out)
          have hkl : ¬ ((l.length : Int) < l.length) := by omega
          go_wp2_with fail
          go_ret
          exact ⟨ret_bool (by rw [H3.out, HT.out]), hsr.bel⟩

end Go.Proofs.Ytoblfnoaepbhfaa
