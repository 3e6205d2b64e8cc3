/-
  CONTRACTS: lists that rise; the domains of an instance: the reference's side.
-/
import Derived.Test.YtjkjfjpajmjglaaGreatRise
import Derived.Test.YtjkjfjpajmjglaaGreatInst
namespace Go.Proofs.YtjkjfjpajmjglaaGreat
open Go.RowKit Go.Shelf Go.IntWalk
open Rep (Rd Own sz)
set_option linter.unusedSimpArgs false
set_option linter.unusedVariables false

theorem risesB_of {lo hi : Int} {l : List Int} (h : ∀ j, j < l.length → risAt lo hi l j = true) : risesB lo hi l = true := by
  unfold risesB
  rw [List.all_eq_true]
  exact fun j hj => h j (List.mem_range.1 hj)
theorem risesB_not {lo hi : Int} {l : List Int} (j : Nat) (hj : j < l.length) (h : risAt lo hi l j = false) : risesB lo hi l = false := by
  unfold risesB
  rw [List.all_eq_false]
  exact ⟨j, List.mem_range.2 hj, by rw [h]; decide⟩
set_option maxRecDepth 100000 in
set_option maxHeartbeats 4000000 in
theorem l00Rises_c (l : List Int) (lo hi : Int) (v : Value) (w : World) (r : Rd w [v] l) :
    Calls Tryz.prog 216 #[v, .int .i64 lo, .int .i64 hi] w fun e w' => e = .returned (.bool (risesB lo hi l)) ∧ Below w.heap.size w w' := by
  obtain ⟨a, c, rfl, h0⟩ := rd_list r
  have hb0 := (rdSl_len h0).2
  unfold maxLen at hb0
  have HR := Lib.hid r
  clear r h0
  go_enter Tryz.func216, Tryz.ntmps216
  go_wp2_with fail
  go_loopw [7] (fun i wl => ∃ k : Nat, k ≤ l.length ∧ i = .int .i64 k ∧ Hid (Below w.heap.size w wl) ∧ Hid (∀ j, j < k → risAt lo hi l j = true)) (fun i _ => l.length - (intOf i).toNat)
  case atStart => exact ⟨0, Nat.zero_le _, rfl, Below.refl _ _, fun j hj => absurd hj (Nat.not_lt_zero _)⟩
  case round =>
    obtain ⟨k, hk, rfl, hbl, ht⟩ := hrel
    have hsr := (St.start w).step hbl.out
    clear hbl
    by_cases hlt : k < l.length
    · obtain ⟨b, o, rfl, q0, _⟩ := rd_int_at HR.out k hlt
      have hkl : (k : Int) < l.length := by omega
      have HRA := Lib.hid (show risAt lo hi l k = (inB l[k] lo hi && (decide (k = 0) || decide (l.getD (k - 1) 0 < l[k]))) by unfold risAt; rw [show l.getD k 0 = l[k] by simp [List.getD, hlt]])
      have HNO := Lib.hid (fun h => risesB_not (lo := lo) (hi := hi) (l := l) k hlt h)
      have HNX := Lib.hid (fun (h : risAt lo hi l k = true) => show ∀ j, j < k + 1 → risAt lo hi l j = true from fun j hj => by
        rcases Nat.lt_or_ge j k with h1 | h1
        · exact ht.out j h1
        · obtain rfl : j = k := by omega
          exact h)
      have HG1 := Lib.hid (fun (j : Nat) (hj : k = j + 1) => show l.getD (k - 1) 0 = l[j] by subst hj; simp [List.getD, show j < l.length by omega])
      generalize hA : l[k] = A at *
      have q0_ := cellL hsr.bel q0
      cases h4 : inB A lo hi with
      | false =>
        have H4 := Lib.hid (HNO.out (by rw [HRA.out, h4]; rfl))
        go_upto_region 4 with fail
        refine wp_region_noPanic (wp_region_tree4 (fun w' => w'.cell? ⟨b, o + k, none⟩ = some (.int .i64 A)) (.float 0 (.float 1 (.float 2 (.float 3 (.float 4 (.float 5 (.hard 6 (.float 7 (.float 8 (.float 9 (.float 10 (.float 11 (.float 12 (.float 13 (.float 14 (.float 15 (.float 16 (.float 17 (.float 18 (.float 19 (.float 20 (.float 21 (.float 22 (.float 23 .nil)))))))))))))))))))))))) (by kernel_rfl) (by kernel_rfl) (by kernel_rfl) rfl ?_ (fun _ _ _ _ _ h => h) ?_)
        · exact (cellL (hsr.drew).bel q0)
        have hs1 := hsr.drew
        clear q0_
        have hz_wd2 : wr.heap.size ≤ (wr.drew).heap.size := by simp
        generalize hgen_wd2 : wr.drew = wd2 at *
        have HG_wd2 := Lib.hid hgen_wd2
        clear hgen_wd2
        (repeat (first | (apply t4_skip rfl (by rfl); try simp only [Act.put, List.setIfInBounds_toArray, List.set_cons_zero, List.set_cons_succ]) | (apply t4_float rfl (by rfl); (· (intro w' hS; go_simp <;> with_reducible rfl)); (try simp only [Act.put, List.setIfInBounds_toArray, List.set_cons_zero, List.set_cons_succ]))))
        refine t4_hard rfl (by rfl) (fun K hK => ?_)
        go_wp2_with (go_at_call 62; refine (l00In_c A lo hi _).mono ?_; rintro e w3 ⟨rfl, rfl⟩)
        clear h4
        refine ⟨(cellL hs1.bel q0), ?_⟩
        (repeat (first | (apply t4_skip rfl (by rfl); try simp only [Act.put, List.setIfInBounds_toArray, List.set_cons_zero, List.set_cons_succ]) | (apply t4_float rfl (by rfl); (· (intro w' hS; go_simp <;> with_reducible rfl)); (try simp only [Act.put, List.setIfInBounds_toArray, List.set_cons_zero, List.set_cons_succ]))))
        have q0_ := cellL hs1.bel q0
        refine t4_nil (NoPanic.normal ?_)
        go_wp2_with fail
        go_ret
        exact ⟨ret_bool H4.out.symm, hs1.bel⟩
      | true =>
        have H4 := Lib.hid h4
        clear h4
        by_cases hk0 : k = 0
        · have HD := Lib.hid (show decide (0 < k) = false by simp [hk0])
          have H5 := Lib.hid (HNX.out (by rw [HRA.out, H4.out, decide_eq_true hk0]; rfl))
          clear hk0
          go_upto_region 4 with fail
          refine wp_region_noPanic (wp_region_tree4 (fun w' => w'.cell? ⟨b, o + k, none⟩ = some (.int .i64 A)) (.float 0 (.float 1 (.float 2 (.float 3 (.float 4 (.float 5 (.hard 6 (.float 7 (.float 8 (.float 9 (.float 10 (.float 11 (.float 12 (.float 13 (.float 14 (.float 15 (.float 16 (.float 17 (.float 18 (.float 19 (.float 20 (.float 21 (.float 22 (.float 23 .nil)))))))))))))))))))))))) (by kernel_rfl) (by kernel_rfl) (by kernel_rfl) rfl ?_ (fun _ _ _ _ _ h => h) ?_)
          · exact (cellL (hsr.drew).bel q0)
          have hs4 := hsr.drew
          clear q0_
          have hz_wd5 : wr.heap.size ≤ (wr.drew).heap.size := by simp
          generalize hgen_wd5 : wr.drew = wd5 at *
          have HG_wd5 := Lib.hid hgen_wd5
          clear hgen_wd5
          (repeat (first | (apply t4_skip rfl (by rfl); try simp only [Act.put, List.setIfInBounds_toArray, List.set_cons_zero, List.set_cons_succ]) | (apply t4_float rfl (by rfl); (· (intro w' hS; go_simp <;> with_reducible rfl)); (try simp only [Act.put, List.setIfInBounds_toArray, List.set_cons_zero, List.set_cons_succ]))))
          (try (rw [HD.out]; (repeat (first | (apply t4_skip rfl (by rfl); try simp only [Act.put, List.setIfInBounds_toArray, List.set_cons_zero, List.set_cons_succ]) | (apply t4_float rfl (by rfl); (· (intro w' hS; go_simp <;> with_reducible rfl)); (try simp only [Act.put, List.setIfInBounds_toArray, List.set_cons_zero, List.set_cons_succ]))))))
          refine t4_hard rfl (by rfl) (fun K hK => ?_)
          go_wp2_with (go_at_call 62; refine (l00In_c A lo hi _).mono ?_; rintro e w6 ⟨rfl, rfl⟩)
          rw [H4.out]
          refine ⟨(cellL hs4.bel q0), ?_⟩
          (repeat (first | (apply t4_skip rfl (by rfl); try simp only [Act.put, List.setIfInBounds_toArray, List.set_cons_zero, List.set_cons_succ]) | (apply t4_float rfl (by rfl); (· (intro w' hS; go_simp <;> with_reducible rfl)); (try simp only [Act.put, List.setIfInBounds_toArray, List.set_cons_zero, List.set_cons_succ]))))
          (try (rw [HD.out]; (repeat (first | (apply t4_skip rfl (by rfl); try simp only [Act.put, List.setIfInBounds_toArray, List.set_cons_zero, List.set_cons_succ]) | (apply t4_float rfl (by rfl); (· (intro w' hS; go_simp <;> with_reducible rfl)); (try simp only [Act.put, List.setIfInBounds_toArray, List.set_cons_zero, List.set_cons_succ]))))))
          have q0_ := cellL hs4.bel q0
          refine t4_nil (NoPanic.normal ?_)
          go_wp2_with fail
          go_roundw
          case rel => exact ⟨k + 1, by omega, by go_num, hs4.bel, H5.out⟩
          case measure => simp [intOf]; omega
        · obtain ⟨j, hkj⟩ : ∃ j, k = j + 1 := ⟨k - 1, by omega⟩
          have HD := Lib.hid (show decide (0 < k) = true by simp [hkj])
          have hjl : j < l.length := by omega
          have hGJ := HG1.out j hkj
          obtain ⟨b', o', e1, q1, _⟩ := rd_int_at HR.out j hjl
          simp only [Option.some.injEq, Addr.mk.injEq, and_true] at e1
          obtain ⟨rfl, rfl⟩ := e1
          rw [hGJ, decide_eq_false hk0, Bool.false_or, H4.out, Bool.true_and] at HRA
          clear hGJ
          generalize hB : l[j] = B at *
          clear q0_
          have q0_ := cellL hsr.bel q0
          have q1_ := cellL hsr.bel q1
          have ej : (k : Int) - 1 = (j : Int) := by omega
          have ejw : IntKind.i64.wrap (j : Int) = (j : Int) := i64_in _ (by omega)
          have hjI : (j : Int) < l.length := by omega
          clear hkj hk0
          by_cases hlt2 : B < A
          · have h6 : ¬ (A ≤ B) := by omega
            have H5 := Lib.hid (HNX.out (by rw [HRA.out]; exact decide_eq_true hlt2))
            clear hlt2
            go_upto_region 4 with fail
            refine wp_region_noPanic (wp_region_tree4 (fun w' => w'.cell? ⟨b, o + k, none⟩ = some (.int .i64 A) ∧ w'.cell? ⟨b, o + j, none⟩ = some (.int .i64 B)) (.float 0 (.float 1 (.float 2 (.float 3 (.float 4 (.float 5 (.hard 6 (.float 7 (.float 8 (.float 9 (.float 10 (.float 11 (.float 12 (.float 13 (.float 14 (.float 15 (.float 16 (.float 17 (.float 18 (.float 19 (.float 20 (.float 21 (.float 22 (.float 23 .nil)))))))))))))))))))))))) (by kernel_rfl) (by kernel_rfl) (by kernel_rfl) rfl ?_ (fun _ _ _ _ _ h => h) ?_)
            · exact ⟨cellL (hsr.drew).bel q0, cellL (hsr.drew).bel q1⟩
            have hs7 := hsr.drew
            clear q0_ q1_
            have hz_wd8 : wr.heap.size ≤ (wr.drew).heap.size := by simp
            generalize hgen_wd8 : wr.drew = wd8 at *
            have HG_wd8 := Lib.hid hgen_wd8
            clear hgen_wd8
            (repeat (first | (apply t4_skip rfl (by rfl); try simp only [Act.put, List.setIfInBounds_toArray, List.set_cons_zero, List.set_cons_succ]) | (apply t4_float rfl (by rfl); (· (intro w' hS; go_simp <;> with_reducible rfl)); (try simp only [Act.put, List.setIfInBounds_toArray, List.set_cons_zero, List.set_cons_succ]))))
            (try (rw [HD.out]; (repeat (first | (apply t4_skip rfl (by rfl); try simp only [Act.put, List.setIfInBounds_toArray, List.set_cons_zero, List.set_cons_succ]) | (apply t4_float rfl (by rfl); (· (intro w' hS; go_simp <;> with_reducible rfl)); (try simp only [Act.put, List.setIfInBounds_toArray, List.set_cons_zero, List.set_cons_succ]))))))
            refine t4_hard rfl (by rfl) (fun K hK => ?_)
            go_wp2_with (go_at_call 62; refine (l00In_c A lo hi _).mono ?_; rintro e w9 ⟨rfl, rfl⟩)
            rw [H4.out]
            refine ⟨⟨cellL hs7.bel q0, cellL hs7.bel q1⟩, ?_⟩
            (repeat (first | (apply t4_skip rfl (by rfl); try simp only [Act.put, List.setIfInBounds_toArray, List.set_cons_zero, List.set_cons_succ]) | (apply t4_float rfl (by rfl); (· (intro w' hS; go_simp <;> with_reducible rfl)); (try simp only [Act.put, List.setIfInBounds_toArray, List.set_cons_zero, List.set_cons_succ]))))
            (try (rw [HD.out]; (repeat (first | (apply t4_skip rfl (by rfl); try simp only [Act.put, List.setIfInBounds_toArray, List.set_cons_zero, List.set_cons_succ]) | (apply t4_float rfl (by rfl); (· (intro w' hS; go_simp <;> with_reducible rfl)); (try simp only [Act.put, List.setIfInBounds_toArray, List.set_cons_zero, List.set_cons_succ]))))))
            have q0_ := cellL hs7.bel q0
            have q1_ := cellL hs7.bel q1
            refine t4_nil (NoPanic.normal ?_)
            go_wp2_with fail
            go_roundw
            case rel => exact ⟨k + 1, by omega, by go_num, hs7.bel, H5.out⟩
            case measure => simp [intOf]; omega
          · have h6 : A ≤ B := by omega
            have H5 := Lib.hid (HNO.out (by rw [HRA.out]; exact decide_eq_false hlt2))
            clear hlt2
            go_upto_region 4 with fail
            refine wp_region_noPanic (wp_region_tree4 (fun w' => w'.cell? ⟨b, o + k, none⟩ = some (.int .i64 A) ∧ w'.cell? ⟨b, o + j, none⟩ = some (.int .i64 B)) (.float 0 (.float 1 (.float 2 (.float 3 (.float 4 (.float 5 (.hard 6 (.float 7 (.float 8 (.float 9 (.float 10 (.float 11 (.float 12 (.float 13 (.float 14 (.float 15 (.float 16 (.float 17 (.float 18 (.float 19 (.float 20 (.float 21 (.float 22 (.float 23 .nil)))))))))))))))))))))))) (by kernel_rfl) (by kernel_rfl) (by kernel_rfl) rfl ?_ (fun _ _ _ _ _ h => h) ?_)
            · exact ⟨cellL (hsr.drew).bel q0, cellL (hsr.drew).bel q1⟩
            have hs10 := hsr.drew
            clear q0_ q1_
            have hz_wd11 : wr.heap.size ≤ (wr.drew).heap.size := by simp
            generalize hgen_wd11 : wr.drew = wd11 at *
            have HG_wd11 := Lib.hid hgen_wd11
            clear hgen_wd11
            (repeat (first | (apply t4_skip rfl (by rfl); try simp only [Act.put, List.setIfInBounds_toArray, List.set_cons_zero, List.set_cons_succ]) | (apply t4_float rfl (by rfl); (· (intro w' hS; go_simp <;> with_reducible rfl)); (try simp only [Act.put, List.setIfInBounds_toArray, List.set_cons_zero, List.set_cons_succ]))))
            (try (rw [HD.out]; (repeat (first | (apply t4_skip rfl (by rfl); try simp only [Act.put, List.setIfInBounds_toArray, List.set_cons_zero, List.set_cons_succ]) | (apply t4_float rfl (by rfl); (· (intro w' hS; go_simp <;> with_reducible rfl)); (try simp only [Act.put, List.setIfInBounds_toArray, List.set_cons_zero, List.set_cons_succ]))))))
            refine t4_hard rfl (by rfl) (fun K hK => ?_)
            go_wp2_with (go_at_call 62; refine (l00In_c A lo hi _).mono ?_; rintro e w12 ⟨rfl, rfl⟩)
            rw [H4.out]
            refine ⟨⟨cellL hs10.bel q0, cellL hs10.bel q1⟩, ?_⟩
            (repeat (first | (apply t4_skip rfl (by rfl); try simp only [Act.put, List.setIfInBounds_toArray, List.set_cons_zero, List.set_cons_succ]) | (apply t4_float rfl (by rfl); (· (intro w' hS; go_simp <;> with_reducible rfl)); (try simp only [Act.put, List.setIfInBounds_toArray, List.set_cons_zero, List.set_cons_succ]))))
            (try (rw [HD.out]; (repeat (first | (apply t4_skip rfl (by rfl); try simp only [Act.put, List.setIfInBounds_toArray, List.set_cons_zero, List.set_cons_succ]) | (apply t4_float rfl (by rfl); (· (intro w' hS; go_simp <;> with_reducible rfl)); (try simp only [Act.put, List.setIfInBounds_toArray, List.set_cons_zero, List.set_cons_succ]))))))
            have q0_ := cellL hs10.bel q0
            have q1_ := cellL hs10.bel q1
            refine t4_nil (NoPanic.normal ?_)
            go_wp2_with fail
            go_ret
            exact ⟨ret_bool H5.out.symm, hs10.bel⟩
    · obtain rfl : k = l.length := by omega
      have HT := Lib.hid (risesB_of ht.out)
      have hkl : ¬ ((l.length : Int) < l.length) := by omega
      go_wp2_with fail
      go_ret
      exact ⟨ret_bool HT.out.symm, hsr.bel⟩
set_option maxRecDepth 100000 in
set_option maxHeartbeats 4000000 in
theorem l05Domains_c (size vars : Int) (ds : List (List Int)) (pb po qb qo : Nat) (v : Value) (w : World) (hp : w.cell? ⟨pb, po, none⟩ = some (.int .i64 size)) (hq : w.cell? ⟨qb, qo, none⟩ = some (.int .i64 vars)) (r : Rd w [v] ds) (hs : 1 ≤ size ∧ size ≤ 4) :
    Calls Tryz.prog 149 #[.pointer (some ⟨pb, po, none⟩), .pointer (some ⟨qb, qo, none⟩), v] w fun e w' => e = .returned (.bool (decide ((ds.length : Int) = vars) && ds.all (risesB 0 (size - 1)))) ∧ Below w.heap.size w w' := by
  obtain ⟨a, c, rfl, h0⟩ := rd_list r
  have hb0 := (rdSl_len h0).2
  unfold maxLen at hb0
  have HR := Lib.hid h0
  clear r h0
  have hp_ := cellL (St.start w).bel hp
  clear hp_
  have hp_ := cellL (St.start w).bel hp
  have hq_ := cellL (St.start w).bel hq
  go_enter Tryz.func149, Tryz.ntmps149
  go_wp2_with fail
  go_loopw [7] (fun i wl => ∃ k : Nat, k ≤ ds.length ∧ i = .int .i64 k ∧ Hid (Below w.heap.size w wl) ∧ Hid (∀ j (hj : j < ds.length), j < k → risesB 0 (size - 1) ds[j] = true)) (fun i _ => ds.length - (intOf i).toNat)
  case atStart => exact ⟨0, Nat.zero_le _, rfl, Below.refl _ _, fun j _ hj => absurd hj (Nat.not_lt_zero _)⟩
  case round =>
    obtain ⟨k, hk, rfl, hbl, ht⟩ := hrel
    have hsr := (St.start w).step hbl.out
    have hp_ := cellL hsr.bel hp
    have hq_ := cellL hsr.bel hq
    clear hbl
    by_cases hlt : k < ds.length
    · obtain ⟨b, o, u0, rfl, q0, hx⟩ := rdSl_one rfl HR.out k hlt
      have HX := Lib.hid hx
      obtain ⟨a0, c0, rfl, _⟩ := rd_list hx
      have hkl : (k : Int) < ds.length := by omega
      have HG := Lib.hid (show ∀ q, risesB 0 (size - 1) ds[k] = q → (q = true → ∀ j (hj : j < ds.length), j < k + 1 → risesB 0 (size - 1) ds[j] = true) ∧ (q = false → ds.all (risesB 0 (size - 1)) = false) from fun q hq => ⟨fun h j hj hjk => by
        rcases Nat.lt_or_ge j k with h1 | h1
        · exact ht.out j hj h1
        · obtain rfl : j = k := by omega
          rw [hq, h], fun h => by
        rw [List.all_eq_false]
        exact ⟨ds[k], List.getElem_mem hlt, by rw [hq, h]; decide⟩⟩)
      clear hx
      generalize hD : ds[k] = D at *
      clear hD
      clear hp_ hq_
      have hp_ := cellL hsr.bel hp
      have hq_ := cellL hsr.bel hq
      have q0_ := cellL hsr.bel q0
      clear hp_ hq_ q0_
      have hp_ := cellL hsr.bel hp
      have hq_ := cellL hsr.bel hq
      have q0_ := cellL hsr.bel q0
      have esw : IntKind.i64.wrap (size - 1) = size - 1 := i64_in _ (by omega)
      cases h1 : risesB 0 (size - 1) D with
      | true =>
        have H1 := Lib.hid ((HG.out _ h1).1 rfl)
        have HE := Lib.hid h1
        clear h1
        go_upto_region 4 with fail
        refine wp_region_noPanic (wp_region_tree4 (fun w' => w'.cell? ⟨pb, po, none⟩ = some (.int .i64 size) ∧ w'.cell? ⟨qb, qo, none⟩ = some (.int .i64 vars) ∧ w'.cell? ⟨b, o + k, none⟩ = some (.slice a0 D.length c0)) (.float 0 (.float 1 (.float 2 (.float 3 (.float 4 (.float 5 (.float 6 (.float 7 (.float 8 (.hard 9 (.float 10 .nil))))))))))) (by kernel_rfl) (by kernel_rfl) (by kernel_rfl) rfl ?_ (fun _ _ _ _ _ h => h) ?_)
        · exact ⟨cellL (hsr.drew).bel hp, cellL (hsr.drew).bel hq, cellL (hsr.drew).bel q0⟩
        have hs13 := hsr.drew
        clear hp_ hq_ q0_
        have hz_wd14 : wr.heap.size ≤ (wr.drew).heap.size := by simp
        generalize hgen_wd14 : wr.drew = wd14 at *
        have HG_wd14 := Lib.hid hgen_wd14
        clear hgen_wd14
        (repeat (first | (apply t4_skip rfl (by rfl); try simp only [Act.put, List.setIfInBounds_toArray, List.set_cons_zero, List.set_cons_succ]) | (apply t4_float rfl (by rfl); (· (intro w' hS; go_simp <;> with_reducible rfl)); (try simp only [Act.put, List.setIfInBounds_toArray, List.set_cons_zero, List.set_cons_succ]))))
        refine t4_hard rfl (by rfl) (fun K hK => ?_)
        go_wp2_with (go_at_call 216; refine (l00Rises_c D 0 (size - 1) _ _ (Rd.mono HX.out hs13.bel)).mono ?_; rintro e w15 ⟨rfl, hbw15⟩)
        have hz_w15 : wd14.heap.size ≤ w15.heap.size := by have h9 := hbw15.size; (try simp at h9); omega
        have hs16 := hs13.step hbw15
        rw [HE.out]
        refine ⟨⟨cellL hs16.bel hp, cellL hs16.bel hq, cellL hs16.bel q0⟩, ?_⟩
        (repeat (first | (apply t4_skip rfl (by rfl); try simp only [Act.put, List.setIfInBounds_toArray, List.set_cons_zero, List.set_cons_succ]) | (apply t4_float rfl (by rfl); (· (intro w' hS; go_simp <;> with_reducible rfl)); (try simp only [Act.put, List.setIfInBounds_toArray, List.set_cons_zero, List.set_cons_succ]))))
        have hp_ := cellL hs16.bel hp
        have hq_ := cellL hs16.bel hq
        have q0_ := cellL hs16.bel q0
        refine t4_nil (NoPanic.normal ?_)
        go_wp2_with fail
        go_roundw
        case rel => exact ⟨k + 1, by omega, by go_num, hs16.bel, H1.out⟩
        case measure => simp [intOf]; omega
      | false =>
        have H1 := Lib.hid ((HG.out _ h1).2 rfl)
        have HE := Lib.hid h1
        clear h1
        go_upto_region 4 with fail
        refine wp_region_noPanic (wp_region_tree4 (fun w' => w'.cell? ⟨pb, po, none⟩ = some (.int .i64 size) ∧ w'.cell? ⟨qb, qo, none⟩ = some (.int .i64 vars) ∧ w'.cell? ⟨b, o + k, none⟩ = some (.slice a0 D.length c0)) (.float 0 (.float 1 (.float 2 (.float 3 (.float 4 (.float 5 (.float 6 (.float 7 (.float 8 (.hard 9 (.float 10 .nil))))))))))) (by kernel_rfl) (by kernel_rfl) (by kernel_rfl) rfl ?_ (fun _ _ _ _ _ h => h) ?_)
        · exact ⟨cellL (hsr.drew).bel hp, cellL (hsr.drew).bel hq, cellL (hsr.drew).bel q0⟩
        have hs17 := hsr.drew
        clear hp_ hq_ q0_
        have hz_wd18 : wr.heap.size ≤ (wr.drew).heap.size := by simp
        generalize hgen_wd18 : wr.drew = wd18 at *
        have HG_wd18 := Lib.hid hgen_wd18
        clear hgen_wd18
        (repeat (first | (apply t4_skip rfl (by rfl); try simp only [Act.put, List.setIfInBounds_toArray, List.set_cons_zero, List.set_cons_succ]) | (apply t4_float rfl (by rfl); (· (intro w' hS; go_simp <;> with_reducible rfl)); (try simp only [Act.put, List.setIfInBounds_toArray, List.set_cons_zero, List.set_cons_succ]))))
        refine t4_hard rfl (by rfl) (fun K hK => ?_)
        go_wp2_with (go_at_call 216; refine (l00Rises_c D 0 (size - 1) _ _ (Rd.mono HX.out hs17.bel)).mono ?_; rintro e w19 ⟨rfl, hbw19⟩)
        have hz_w19 : wd18.heap.size ≤ w19.heap.size := by have h9 := hbw19.size; (try simp at h9); omega
        have hs20 := hs17.step hbw19
        rw [HE.out]
        refine ⟨⟨cellL hs20.bel hp, cellL hs20.bel hq, cellL hs20.bel q0⟩, ?_⟩
        (repeat (first | (apply t4_skip rfl (by rfl); try simp only [Act.put, List.setIfInBounds_toArray, List.set_cons_zero, List.set_cons_succ]) | (apply t4_float rfl (by rfl); (· (intro w' hS; go_simp <;> with_reducible rfl)); (try simp only [Act.put, List.setIfInBounds_toArray, List.set_cons_zero, List.set_cons_succ]))))
        have hp_ := cellL hs20.bel hp
        have hq_ := cellL hs20.bel hq
        have q0_ := cellL hs20.bel q0
        refine t4_nil (NoPanic.normal ?_)
        go_wp2_with fail
        go_ret
        exact ⟨ret_bool (by rw [H1.out, Bool.and_false]), hs20.bel⟩
    · obtain rfl : k = ds.length := by omega
      have HT := Lib.hid (show ds.all (risesB 0 (size - 1)) = true by
        rw [List.all_eq_true]
        intro d hd
        obtain ⟨j, hj, rfl⟩ := List.getElem_of_mem hd
        exact ht.out j hj hj)
      have hkl : ¬ ((ds.length : Int) < ds.length) := by omega
      go_wp2_with fail
      go_ret
      exact ⟨ret_bool (by rw [HT.out, Bool.and_true]; first | rfl | (rw [Bool.eq_iff_iff]; simp)), hsr.bel⟩
/-- Are these domains for the variables of the instance? -/
def domsOk (t : Tmpl) (x : Inst) (ds : List (List Int)) : Bool := instOk t x && (decide ((ds.length : Int) = x.1) && ds.all (risesB 0 (t.1 - 1)))
set_option maxRecDepth 100000 in
set_option maxHeartbeats 4000000 in
theorem l05Both_c (t : Tmpl) (x : Inst) (ds : List (List Int)) (pb qb : Nat) (t0 t1 x0 x1 v : Value) (w : World) (ht : Rd w [t0, t1] t) (hx : Rd w [x0, x1] x) (hp0 : w.cell? ⟨pb, 0, none⟩ = some t0) (hp1 : w.cell? ⟨pb, 1, none⟩ = some t1) (hq0 : w.cell? ⟨qb, 0, none⟩ = some x0) (hq1 : w.cell? ⟨qb, 1, none⟩ = some x1) (r : Rd w [v] ds) :
    Calls Tryz.prog 90 #[.pointer (some ⟨pb, 0, none⟩), .pointer (some ⟨qb, 0, none⟩), v] w fun e w' => e = .returned (.bool (domsOk t x ds)) ∧ Below w.heap.size w w' := by
  obtain ⟨a, c, rfl, _⟩ := rd_list r
  have HT := Lib.hid ht
  have HX := Lib.hid hx
  have HD := Lib.hid r
  have HP0 := Lib.hid hp0
  have HQ0 := Lib.hid hq0
  have zt := rd_cons rfl ht
  obtain ⟨rfl, _⟩ := rd_i1 zt.1
  have zx := rd_cons rfl hx
  obtain ⟨rfl, _⟩ := rd_i1 zx.1
  have HP1 := Lib.hid hp1
  have HQ1 := Lib.hid hq1
  clear ht hx r hp0 hp1 hq0 hq1 zt zx
  go_enter Tryz.func90, Tryz.ntmps90
  go_wp2_with fail
  refine (l05Ok_c t x pb qb _ _ _ _ _ (Rd.mono HT.out (St.start w).bel) (Rd.mono HX.out (St.start w).bel) (cellL (St.start w).bel HP0.out) (cellL (St.start w).bel HP1.out) (cellL (St.start w).bel HQ0.out) (cellL (St.start w).bel HQ1.out)).mono ?_
  rintro e w21 ⟨rfl, hbw21⟩
  have hz_w21 : w.heap.size ≤ w21.heap.size := by have h9 := hbw21.size; (try simp at h9); omega
  have hs22 := (St.start w).step hbw21
  cases h1 : instOk t x with
  | false =>
    have H1 := Lib.hid (show domsOk t x ds = false by unfold domsOk; rw [h1]; rfl)
    clear h1
    go_wp2_with fail
    go_ret
    exact ⟨ret_bool H1.out.symm, hs22.bel⟩
  | true =>
    have hs := (tmplOk_get (instOk_get h1).1).1
    have H1 := Lib.hid (show domsOk t x ds = (decide ((ds.length : Int) = x.1) && ds.all (risesB 0 (t.1 - 1))) by unfold domsOk; rw [h1]; rfl)
    clear h1
    go_wp2_with fail
    refine (l05Domains_c t.1 x.1 ds pb 0 qb 0 _ _ (cellL hs22.bel HP0.out) (cellL hs22.bel HQ0.out) (Rd.mono HD.out hs22.bel) hs).mono ?_
    rintro e w23 ⟨rfl, hbw23⟩
    have hz_w23 : w21.heap.size ≤ w23.heap.size := by have h9 := hbw23.size; (try simp at h9); omega
    have hs24 := hs22.step hbw23
    go_wp2_with fail
    go_ret
    exact ⟨ret_bool H1.out.symm, hs24.bel⟩

end Go.Proofs.YtjkjfjpajmjglaaGreat
