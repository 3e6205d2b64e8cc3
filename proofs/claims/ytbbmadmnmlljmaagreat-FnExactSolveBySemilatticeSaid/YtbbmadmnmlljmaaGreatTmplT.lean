/-
  CONTRACTS: valid templates and operations; both sides.
-/
import Derived.Test.YtbbmadmnmlljmaaGreatTmpl
import Derived.Test.YtbbmadmnmlljmaaGreatPredT
namespace Go.Proofs.YtbbmadmnmlljmaaGreat
open Go.RowKit Go.Shelf Go.IntWalk
open Rep (Rd Own sz)
set_option linter.unusedSimpArgs false
set_option linter.unusedVariables false

set_option maxHeartbeats 400000 in
theorem validTemplate1_by (size : Int) (b : Nat) (w : World) (l : List RelT) (hc0 : w.cell? ⟨b, 0, none⟩ = some (.int .i64 size)) :
    PredRl 167 #[.pointer (some ⟨b, 0, none⟩)] w l (fun r => !relOk size r) := by
  intro W x v0 v1 hb hx _
  have hc0' := cellL hb hc0
  show Calls Tryz.prog 167 #[_, .pointer (some ⟨b, 0, none⟩)] W _
  have hb' := World.block_lt_of_cell? _ _ hc0'
  have HX := Lib.hid hx
  have z := rd_cons rfl hx
  obtain ⟨rfl, _⟩ := rd_i1 z.1
  obtain ⟨a, c, rfl, _⟩ := rd_list z.2
  clear hx z
  have hs := (St.start W).alloc #[.int .i64 x.1, .slice a x.2.length c] 100 rfl
  have hd0 := cellL hs.bel hc0'
  go_enter Tryz.func167, Tryz.ntmps167
  go_wp2_with fail
  refine (ValidRel_c size x _ _ _ (Rd.mono HX.out hs.bel)).mono ?_
  rintro e w1 ⟨rfl, hb1⟩
  go_wp2_with fail
  go_ret
  exact ⟨rfl, (hs.step hb1).bel⟩
set_option maxRecDepth 100000 in
set_option maxHeartbeats 1000000 in
theorem ValidTemplate_c (x : Tmpl) (v0 v1 : Value) (w : World) (hx : Rd w [v0, v1] x) :
    Calls Tryz.prog 119 #[.agg #[v0, v1]] w fun e w' => e = .returned (.bool (tmplOk x)) ∧ Below w.heap.size w w' := by
  obtain ⟨p, l⟩ := x
  have z := rd_cons rfl hx
  obtain ⟨rfl, _⟩ := rd_i1 z.1
  have RL := Lib.hid z.2
  obtain ⟨a, c, rfl, hr⟩ := rd_list RL.out
  have hb := (rdSl_len hr).2
  unfold maxLen at hb
  clear hx z hr
  have hs := (St.start w).alloc #[.int .i64 p, .slice a l.length c] 42 rfl
  have eg : ∀ args w, (callFunc 167 args).run Tryz.prog w = .ok (.enter 167 args) w := enters_of Tryz.func167 (by kernel_rfl) rfl
  go_enter Tryz.func119, Tryz.ntmps119
  go_wp2_with fail
  refine (isSize_c p _).mono ?_
  rintro e w1 ⟨rfl, rfl⟩
  cases hp : inB p 1 4 with
  | false =>
    have HP := Lib.hid hp
    clear hp
    go_wp2_with fail
    go_ret
    exact ⟨ret_bool (by simp [tmplOk, HP.out]), hs.bel⟩
  | true =>
    have HP := Lib.hid hp
    clear hp
    by_cases hl : l.length ≤ 6
    · have HL := Lib.hid hl
      go_wp2_with fail
      refine (containsRels_c l _ 167 _ _ _ (Rd.mono RL.out hs.bel) eg (validTemplate1_by p w.heap.size _ l (hs.cellAt 0 rfl 0 rfl))).mono ?_
      rintro e w1 ⟨rfl, hb1⟩
      go_wp2_with fail
      go_ret
      refine ⟨ret_bool ?_, (hs.step hb1).bel⟩
      unfold tmplOk
      simp only [HP.out, decide_eq_true HL.out, Bool.true_and]
      rw [← all_of_any]
    · have HL := Lib.hid hl
      go_wp2_with fail
      go_ret
      exact ⟨ret_bool (by simp only [tmplOk, decide_eq_false HL.out, Bool.and_false, Bool.false_and]), hs.bel⟩
theorem pow64 {s a : Int} (hs : 1 ≤ s ∧ s ≤ 4) (ha : 1 ≤ a ∧ a ≤ 3) : 1 ≤ s ^ a.toNat ∧ s ^ a.toNat ≤ 64 := by
  obtain rfl | rfl | rfl : a = 1 ∨ a = 2 ∨ a = 3 := by omega
  all_goals (obtain rfl | rfl | rfl | rfl : s = 1 ∨ s = 2 ∨ s = 3 ∨ s = 4 := by omega) <;> decide
set_option maxRecDepth 100000 in
set_option maxHeartbeats 2000000 in
theorem ValidOp_c (size : Int) (f : OpT) (v0 v1 : Value) (w : World) (hf : Rd w [v0, v1] f) :
    Calls Tryz.prog 76 #[.int .i64 size, .agg #[v0, v1]] w fun e w' => e = .returned (.bool (opOk size f)) ∧ Below w.heap.size w w' := by
  obtain ⟨ar, l⟩ := f
  have z := rd_cons rfl hf
  obtain ⟨rfl, _⟩ := rd_i1 z.1
  have HRL := Lib.hid z.2
  obtain ⟨a, c, rfl, _⟩ := rd_list HRL.out
  clear hf z
  have hs1 := (St.start w).alloc #[.int .i64 ar, .slice a l.length c] 48 (n := w.heap.size) (by simp)
  have k0_0 := hs1.cellAt 0 rfl 0 rfl
  have k0_1 := hs1.cellAt 0 rfl 1 rfl
  go_enter Tryz.func76, Tryz.ntmps76
  cases h1 : inB size 1 4 with
  | false =>
    have H1 := Lib.hid (show opOk size (ar, l) = false by simp only [opOk, h1, Bool.false_and])
    go_upto_region 1 with fail
    refine wp_region_noPanic (wp_region_tree4 (fun w' => w'.cell? ⟨w.heap.size, 0, none⟩ = some (.int .i64 ar) ∧ w'.cell? ⟨w.heap.size, 1, none⟩ = some (.slice a l.length c)) (.float 0 (.hard 1 (.float 2 (.float 3 (.float 4 (.hard 5 (.float 6 (.float 7 (.float 8 (.float 9 (.float 10 (.float 11 (.float 12 (.float 13 (.hard 14 (.hard 15 (.float 16 (.float 17 .nil)))))))))))))))))) (by kernel_rfl) (by kernel_rfl) (by kernel_rfl) rfl ?_ (fun _ _ _ _ _ h => h) ?_)
    · exact ⟨(hs1.drew).cellAt 0 rfl 0 rfl, (hs1.drew).cellAt 0 rfl 1 rfl⟩
    have hs2 := hs1.drew
    clear k0_0 k0_1
    have hz_wd3 : w.heap.size + 1 ≤ ((w.alloc (.cells #[.int .i64 ar, .slice a l.length c] 48)).drew).heap.size := by simp
    generalize hgen_wd3 : (w.alloc (.cells #[.int .i64 ar, .slice a l.length c] 48)).drew = wd3 at *
    have HG_wd3 := Lib.hid hgen_wd3
    clear hgen_wd3
    (repeat (first | (apply t4_skip rfl (by rfl); try simp only [Act.put, List.setIfInBounds_toArray, List.set_cons_zero, List.set_cons_succ]) | (apply t4_float rfl (by rfl); (· (intro w' hS; go_simp <;> with_reducible rfl)); (try simp only [Act.put, List.setIfInBounds_toArray, List.set_cons_zero, List.set_cons_succ]))))
    refine t4_hard rfl (by rfl) (fun K hK => ?_)
    go_wp2_with (go_at_call 125; refine (isSize_c size _).mono ?_; rintro e w4 ⟨rfl, rfl, rfl⟩)
    refine ⟨⟨hs2.cellAt 0 rfl 0 rfl, hs2.cellAt 0 rfl 1 rfl⟩, ?_⟩
    (repeat (first | (apply t4_skip rfl (by rfl); try simp only [Act.put, List.setIfInBounds_toArray, List.set_cons_zero, List.set_cons_succ]) | (apply t4_float rfl (by rfl); (· (intro w' hS; go_simp <;> with_reducible rfl)); (try simp only [Act.put, List.setIfInBounds_toArray, List.set_cons_zero, List.set_cons_succ]))))
    refine t4_hskip rfl (by rfl) ?_ ?_
    · exact ⟨hs2.cellAt 0 rfl 0 rfl, hs2.cellAt 0 rfl 1 rfl⟩
    (try simp only [Act.put, List.setIfInBounds_toArray, List.set_cons_zero, List.set_cons_succ])
    (repeat (first | (apply t4_skip rfl (by rfl); try simp only [Act.put, List.setIfInBounds_toArray, List.set_cons_zero, List.set_cons_succ]) | (apply t4_float rfl (by rfl); (· (intro w' hS; go_simp <;> with_reducible rfl)); (try simp only [Act.put, List.setIfInBounds_toArray, List.set_cons_zero, List.set_cons_succ]))))
    refine t4_hskip rfl (by rfl) ?_ ?_
    · exact ⟨hs2.cellAt 0 rfl 0 rfl, hs2.cellAt 0 rfl 1 rfl⟩
    (try simp only [Act.put, List.setIfInBounds_toArray, List.set_cons_zero, List.set_cons_succ])
    (repeat (first | (apply t4_skip rfl (by rfl); try simp only [Act.put, List.setIfInBounds_toArray, List.set_cons_zero, List.set_cons_succ]) | (apply t4_float rfl (by rfl); (· (intro w' hS; go_simp <;> with_reducible rfl)); (try simp only [Act.put, List.setIfInBounds_toArray, List.set_cons_zero, List.set_cons_succ]))))
    refine t4_hskip rfl (by rfl) ?_ ?_
    · exact ⟨hs2.cellAt 0 rfl 0 rfl, hs2.cellAt 0 rfl 1 rfl⟩
    (try simp only [Act.put, List.setIfInBounds_toArray, List.set_cons_zero, List.set_cons_succ])
    (repeat (first | (apply t4_skip rfl (by rfl); try simp only [Act.put, List.setIfInBounds_toArray, List.set_cons_zero, List.set_cons_succ]) | (apply t4_float rfl (by rfl); (· (intro w' hS; go_simp <;> with_reducible rfl)); (try simp only [Act.put, List.setIfInBounds_toArray, List.set_cons_zero, List.set_cons_succ]))))
    have k0_0 := hs2.cellAt 0 rfl 0 rfl
    have k0_1 := hs2.cellAt 0 rfl 1 rfl
    refine t4_nil (NoPanic.normal ?_)
    go_wp2_with fail
    go_ret
    exact ⟨ret_bool H1.out.symm, hs2.bel⟩
  | true =>
    have hs := inB_true h1
    cases h2 : inB ar 1 3 with
    | false =>
      have H1 := Lib.hid (show opOk size (ar, l) = false by simp only [opOk, h2, Bool.and_false, Bool.false_and])
      go_upto_region 1 with fail
      refine wp_region_noPanic (wp_region_tree4 (fun w' => w'.cell? ⟨w.heap.size, 0, none⟩ = some (.int .i64 ar) ∧ w'.cell? ⟨w.heap.size, 1, none⟩ = some (.slice a l.length c)) (.float 0 (.hard 1 (.float 2 (.float 3 (.float 4 (.hard 5 (.float 6 (.float 7 (.float 8 (.float 9 (.float 10 (.float 11 (.float 12 (.float 13 (.hard 14 (.hard 15 (.float 16 (.float 17 .nil)))))))))))))))))) (by kernel_rfl) (by kernel_rfl) (by kernel_rfl) rfl ?_ (fun _ _ _ _ _ h => h) ?_)
      · exact ⟨(hs1.drew).cellAt 0 rfl 0 rfl, (hs1.drew).cellAt 0 rfl 1 rfl⟩
      have hs5 := hs1.drew
      clear k0_0 k0_1
      have hz_wd6 : w.heap.size + 1 ≤ ((w.alloc (.cells #[.int .i64 ar, .slice a l.length c] 48)).drew).heap.size := by simp
      generalize hgen_wd6 : (w.alloc (.cells #[.int .i64 ar, .slice a l.length c] 48)).drew = wd6 at *
      have HG_wd6 := Lib.hid hgen_wd6
      clear hgen_wd6
      (repeat (first | (apply t4_skip rfl (by rfl); try simp only [Act.put, List.setIfInBounds_toArray, List.set_cons_zero, List.set_cons_succ]) | (apply t4_float rfl (by rfl); (· (intro w' hS; go_simp <;> with_reducible rfl)); (try simp only [Act.put, List.setIfInBounds_toArray, List.set_cons_zero, List.set_cons_succ]))))
      refine t4_hard rfl (by rfl) (fun K hK => ?_)
      go_wp2_with (go_at_call 125; refine (isSize_c size _).mono ?_; rintro e w7 ⟨rfl, rfl, rfl⟩)
      refine ⟨⟨hs5.cellAt 0 rfl 0 rfl, hs5.cellAt 0 rfl 1 rfl⟩, ?_⟩
      (repeat (first | (apply t4_skip rfl (by rfl); try simp only [Act.put, List.setIfInBounds_toArray, List.set_cons_zero, List.set_cons_succ]) | (apply t4_float rfl (by rfl); (· (intro w' hS; go_simp <;> with_reducible rfl)); (try simp only [Act.put, List.setIfInBounds_toArray, List.set_cons_zero, List.set_cons_succ]))))
      refine t4_hard rfl (by rfl) (fun K hK => ?_)
      go_wp2_with (go_at_call 126; refine (isOpArity_c ar _).mono ?_; rintro e w8 ⟨rfl, rfl, rfl⟩)
      refine ⟨⟨hs5.cellAt 0 rfl 0 rfl, hs5.cellAt 0 rfl 1 rfl⟩, ?_⟩
      (repeat (first | (apply t4_skip rfl (by rfl); try simp only [Act.put, List.setIfInBounds_toArray, List.set_cons_zero, List.set_cons_succ]) | (apply t4_float rfl (by rfl); (· (intro w' hS; go_simp <;> with_reducible rfl)); (try simp only [Act.put, List.setIfInBounds_toArray, List.set_cons_zero, List.set_cons_succ]))))
      refine t4_hskip rfl (by rfl) ?_ ?_
      · exact ⟨hs5.cellAt 0 rfl 0 rfl, hs5.cellAt 0 rfl 1 rfl⟩
      (try simp only [Act.put, List.setIfInBounds_toArray, List.set_cons_zero, List.set_cons_succ])
      (repeat (first | (apply t4_skip rfl (by rfl); try simp only [Act.put, List.setIfInBounds_toArray, List.set_cons_zero, List.set_cons_succ]) | (apply t4_float rfl (by rfl); (· (intro w' hS; go_simp <;> with_reducible rfl)); (try simp only [Act.put, List.setIfInBounds_toArray, List.set_cons_zero, List.set_cons_succ]))))
      refine t4_hskip rfl (by rfl) ?_ ?_
      · exact ⟨hs5.cellAt 0 rfl 0 rfl, hs5.cellAt 0 rfl 1 rfl⟩
      (try simp only [Act.put, List.setIfInBounds_toArray, List.set_cons_zero, List.set_cons_succ])
      (repeat (first | (apply t4_skip rfl (by rfl); try simp only [Act.put, List.setIfInBounds_toArray, List.set_cons_zero, List.set_cons_succ]) | (apply t4_float rfl (by rfl); (· (intro w' hS; go_simp <;> with_reducible rfl)); (try simp only [Act.put, List.setIfInBounds_toArray, List.set_cons_zero, List.set_cons_succ]))))
      have k0_0 := hs5.cellAt 0 rfl 0 rfl
      have k0_1 := hs5.cellAt 0 rfl 1 rfl
      refine t4_nil (NoPanic.normal ?_)
      go_wp2_with fail
      go_ret
      exact ⟨ret_bool H1.out.symm, hs5.bel⟩
    | true =>
      have har := inB_true h2
      have hpw := pow64 hs har
      have H1 := Lib.hid (show opOk size (ar, l) = valsOk size l (size ^ ar.toNat) by simp only [opOk, h1, h2, Bool.true_and])
      generalize hP : size ^ ar.toNat = P at *
      have HP := Lib.hid hP
      clear hP
      go_upto_region 1 with fail
      refine wp_region_noPanic (wp_region_tree4 (fun w' => w'.cell? ⟨w.heap.size, 0, none⟩ = some (.int .i64 ar) ∧ w'.cell? ⟨w.heap.size, 1, none⟩ = some (.slice a l.length c)) (.float 0 (.hard 1 (.float 2 (.float 3 (.float 4 (.hard 5 (.float 6 (.float 7 (.float 8 (.float 9 (.float 10 (.float 11 (.float 12 (.float 13 (.hard 14 (.hard 15 (.float 16 (.float 17 .nil)))))))))))))))))) (by kernel_rfl) (by kernel_rfl) (by kernel_rfl) rfl ?_ (fun _ _ _ _ _ h => h) ?_)
      · exact ⟨(hs1.drew).cellAt 0 rfl 0 rfl, (hs1.drew).cellAt 0 rfl 1 rfl⟩
      have hs9 := hs1.drew
      clear k0_0 k0_1
      have hz_wd10 : w.heap.size + 1 ≤ ((w.alloc (.cells #[.int .i64 ar, .slice a l.length c] 48)).drew).heap.size := by simp
      generalize hgen_wd10 : (w.alloc (.cells #[.int .i64 ar, .slice a l.length c] 48)).drew = wd10 at *
      have HG_wd10 := Lib.hid hgen_wd10
      clear hgen_wd10
      (repeat (first | (apply t4_skip rfl (by rfl); try simp only [Act.put, List.setIfInBounds_toArray, List.set_cons_zero, List.set_cons_succ]) | (apply t4_float rfl (by rfl); (· (intro w' hS; go_simp <;> with_reducible rfl)); (try simp only [Act.put, List.setIfInBounds_toArray, List.set_cons_zero, List.set_cons_succ]))))
      refine t4_hard rfl (by rfl) (fun K hK => ?_)
      go_wp2_with (go_at_call 125; refine (isSize_c size _).mono ?_; rintro e w11 ⟨rfl, rfl, rfl⟩)
      refine ⟨⟨hs9.cellAt 0 rfl 0 rfl, hs9.cellAt 0 rfl 1 rfl⟩, ?_⟩
      (repeat (first | (apply t4_skip rfl (by rfl); try simp only [Act.put, List.setIfInBounds_toArray, List.set_cons_zero, List.set_cons_succ]) | (apply t4_float rfl (by rfl); (· (intro w' hS; go_simp <;> with_reducible rfl)); (try simp only [Act.put, List.setIfInBounds_toArray, List.set_cons_zero, List.set_cons_succ]))))
      refine t4_hard rfl (by rfl) (fun K hK => ?_)
      go_wp2_with (go_at_call 126; refine (isOpArity_c ar _).mono ?_; rintro e w12 ⟨rfl, rfl, rfl⟩)
      refine ⟨⟨hs9.cellAt 0 rfl 0 rfl, hs9.cellAt 0 rfl 1 rfl⟩, ?_⟩
      (repeat (first | (apply t4_skip rfl (by rfl); try simp only [Act.put, List.setIfInBounds_toArray, List.set_cons_zero, List.set_cons_succ]) | (apply t4_float rfl (by rfl); (· (intro w' hS; go_simp <;> with_reducible rfl)); (try simp only [Act.put, List.setIfInBounds_toArray, List.set_cons_zero, List.set_cons_succ]))))
      refine t4_hard rfl (by rfl) (fun K hK => ?_)
      go_wp2_with (go_at_call 127; refine (power_c size ar _ (by omega) (by omega) (by omega) (by rw [HP.out]; omega)).mono ?_; rintro e w13 ⟨rfl, rfl, rfl⟩)
      rw [HP.out]
      refine ⟨⟨hs9.cellAt 0 rfl 0 rfl, hs9.cellAt 0 rfl 1 rfl⟩, ?_⟩
      (repeat (first | (apply t4_skip rfl (by rfl); try simp only [Act.put, List.setIfInBounds_toArray, List.set_cons_zero, List.set_cons_succ]) | (apply t4_float rfl (by rfl); (· (intro w' hS; go_simp <;> with_reducible rfl)); (try simp only [Act.put, List.setIfInBounds_toArray, List.set_cons_zero, List.set_cons_succ]))))
      refine t4_hard rfl (by rfl) (fun K hK => ?_)
      go_wp2_with (go_at_call 124; refine (areValues_c size l _ P _ (Rd.mono HRL.out hs9.bel) (by omega) (by omega)).mono ?_; rintro e w14 ⟨rfl, hbw14⟩)
      have hz_w14 : wd10.heap.size ≤ w14.heap.size := by have h9 := hbw14.size; (try simp at h9); omega
      have hs15 := hs9.step hbw14
      refine ⟨⟨hs15.cellAt 0 rfl 0 rfl, hs15.cellAt 0 rfl 1 rfl⟩, ?_⟩
      (repeat (first | (apply t4_skip rfl (by rfl); try simp only [Act.put, List.setIfInBounds_toArray, List.set_cons_zero, List.set_cons_succ]) | (apply t4_float rfl (by rfl); (· (intro w' hS; go_simp <;> with_reducible rfl)); (try simp only [Act.put, List.setIfInBounds_toArray, List.set_cons_zero, List.set_cons_succ]))))
      have k0_0 := hs15.cellAt 0 rfl 0 rfl
      have k0_1 := hs15.cellAt 0 rfl 1 rfl
      refine t4_nil (NoPanic.normal ?_)
      go_wp2_with fail
      go_ret
      exact ⟨ret_bool (by rw [H1.out]), hs15.bel⟩
set_option maxRecDepth 100000 in
set_option maxHeartbeats 4000000 in
theorem l02Ok_c (size : Int) (f : OpT) (pb po : Nat) (v0 v1 : Value) (w : World) (hf : Rd w [v0, v1] f) (hc0 : w.cell? ⟨pb, po, none⟩ = some v0) (hc1 : w.cell? ⟨pb, po + 1, none⟩ = some v1) :
    Calls Tryz.prog 67 #[.int .i64 size, .pointer (some ⟨pb, po, none⟩)] w fun e w' => e = .returned (.bool (opOk size f)) ∧ Below w.heap.size w w' := by
  obtain ⟨ar, l⟩ := f
  have z := rd_cons rfl hf
  obtain ⟨rfl, _⟩ := rd_i1 z.1
  have HRL := Lib.hid z.2
  obtain ⟨a, c, rfl, hrl⟩ := rd_list HRL.out
  have hb0 := (rdSl_len hrl).2
  unfold maxLen at hb0
  clear hf z hrl
  have hc0_ := cellL (St.start w).bel hc0
  clear hc0_
  have hc0_ := cellL (St.start w).bel hc0
  have hc1_ := cellL (St.start w).bel hc1
  go_enter Tryz.func67, Tryz.ntmps67
  cases h1 : inB size 1 4 with
  | false =>
    have H1 := Lib.hid (show opOk size (ar, l) = false by simp only [opOk, h1, Bool.false_and])
    go_upto_region 1 with fail
    refine wp_region_noPanic (wp_region_tree4 (fun w' => w'.cell? ⟨pb, po, none⟩ = some (.int .i64 ar) ∧ w'.cell? ⟨pb, po + 1, none⟩ = some (.slice a l.length c)) (.float 0 (.hard 1 (.float 2 (.float 3 (.float 4 (.float 5 (.float 6 (.float 7 (.hard 8 (.float 9 (.float 10 (.float 11 (.float 12 (.float 13 (.float 14 (.float 15 (.float 16 (.float 17 (.float 18 (.float 19 (.float 20 (.float 21 (.hard 22 (.float 23 (.float 24 .nil))))))))))))))))))))))))) (by kernel_rfl) (by kernel_rfl) (by kernel_rfl) rfl ?_ (fun _ _ _ _ _ h => h) ?_)
    · exact ⟨cellL ((St.start w).drew).bel hc0, cellL ((St.start w).drew).bel hc1⟩
    have hs16 := (St.start w).drew
    clear hc0_ hc1_
    have hz_wd17 : w.heap.size ≤ (w.drew).heap.size := by simp
    generalize hgen_wd17 : w.drew = wd17 at *
    have HG_wd17 := Lib.hid hgen_wd17
    clear hgen_wd17
    (repeat (first | (apply t4_skip rfl (by rfl); try simp only [Act.put, List.setIfInBounds_toArray, List.set_cons_zero, List.set_cons_succ]) | (apply t4_float rfl (by rfl); (· (intro w' hS; go_simp <;> with_reducible rfl)); (try simp only [Act.put, List.setIfInBounds_toArray, List.set_cons_zero, List.set_cons_succ]))))
    refine t4_hard rfl (by rfl) (fun K hK => ?_)
    go_wp2_with (go_at_call 104; refine (l01Size_c size _).mono ?_; rintro e w18 ⟨rfl, rfl, rfl⟩)
    refine ⟨⟨cellL hs16.bel hc0, cellL hs16.bel hc1⟩, ?_⟩
    (repeat (first | (apply t4_skip rfl (by rfl); try simp only [Act.put, List.setIfInBounds_toArray, List.set_cons_zero, List.set_cons_succ]) | (apply t4_float rfl (by rfl); (· (intro w' hS; go_simp <;> with_reducible rfl)); (try simp only [Act.put, List.setIfInBounds_toArray, List.set_cons_zero, List.set_cons_succ]))))
    refine t4_hskip rfl (by rfl) ?_ ?_
    · exact ⟨cellL hs16.bel hc0, cellL hs16.bel hc1⟩
    (try simp only [Act.put, List.setIfInBounds_toArray, List.set_cons_zero, List.set_cons_succ])
    (repeat (first | (apply t4_skip rfl (by rfl); try simp only [Act.put, List.setIfInBounds_toArray, List.set_cons_zero, List.set_cons_succ]) | (apply t4_float rfl (by rfl); (· (intro w' hS; go_simp <;> with_reducible rfl)); (try simp only [Act.put, List.setIfInBounds_toArray, List.set_cons_zero, List.set_cons_succ]))))
    refine t4_hskip rfl (by rfl) ?_ ?_
    · exact ⟨cellL hs16.bel hc0, cellL hs16.bel hc1⟩
    (try simp only [Act.put, List.setIfInBounds_toArray, List.set_cons_zero, List.set_cons_succ])
    (repeat (first | (apply t4_skip rfl (by rfl); try simp only [Act.put, List.setIfInBounds_toArray, List.set_cons_zero, List.set_cons_succ]) | (apply t4_float rfl (by rfl); (· (intro w' hS; go_simp <;> with_reducible rfl)); (try simp only [Act.put, List.setIfInBounds_toArray, List.set_cons_zero, List.set_cons_succ]))))
    have hc0_ := cellL hs16.bel hc0
    have hc1_ := cellL hs16.bel hc1
    refine t4_nil (NoPanic.normal ?_)
    go_wp2_with fail
    go_ret
    exact ⟨ret_bool H1.out.symm, hs16.bel⟩
  | true =>
    have hs := inB_true h1
    cases h2 : inB ar 1 3 with
    | false =>
      have H1 := Lib.hid (show opOk size (ar, l) = false by simp only [opOk, h2, Bool.and_false, Bool.false_and])
      go_upto_region 1 with fail
      refine wp_region_noPanic (wp_region_tree4 (fun w' => w'.cell? ⟨pb, po, none⟩ = some (.int .i64 ar) ∧ w'.cell? ⟨pb, po + 1, none⟩ = some (.slice a l.length c)) (.float 0 (.hard 1 (.float 2 (.float 3 (.float 4 (.float 5 (.float 6 (.float 7 (.hard 8 (.float 9 (.float 10 (.float 11 (.float 12 (.float 13 (.float 14 (.float 15 (.float 16 (.float 17 (.float 18 (.float 19 (.float 20 (.float 21 (.hard 22 (.float 23 (.float 24 .nil))))))))))))))))))))))))) (by kernel_rfl) (by kernel_rfl) (by kernel_rfl) rfl ?_ (fun _ _ _ _ _ h => h) ?_)
      · exact ⟨cellL ((St.start w).drew).bel hc0, cellL ((St.start w).drew).bel hc1⟩
      have hs19 := (St.start w).drew
      clear hc0_ hc1_
      have hz_wd20 : w.heap.size ≤ (w.drew).heap.size := by simp
      generalize hgen_wd20 : w.drew = wd20 at *
      have HG_wd20 := Lib.hid hgen_wd20
      clear hgen_wd20
      (repeat (first | (apply t4_skip rfl (by rfl); try simp only [Act.put, List.setIfInBounds_toArray, List.set_cons_zero, List.set_cons_succ]) | (apply t4_float rfl (by rfl); (· (intro w' hS; go_simp <;> with_reducible rfl)); (try simp only [Act.put, List.setIfInBounds_toArray, List.set_cons_zero, List.set_cons_succ]))))
      refine t4_hard rfl (by rfl) (fun K hK => ?_)
      go_wp2_with (go_at_call 104; refine (l01Size_c size _).mono ?_; rintro e w21 ⟨rfl, rfl, rfl⟩)
      refine ⟨⟨cellL hs19.bel hc0, cellL hs19.bel hc1⟩, ?_⟩
      (repeat (first | (apply t4_skip rfl (by rfl); try simp only [Act.put, List.setIfInBounds_toArray, List.set_cons_zero, List.set_cons_succ]) | (apply t4_float rfl (by rfl); (· (intro w' hS; go_simp <;> with_reducible rfl)); (try simp only [Act.put, List.setIfInBounds_toArray, List.set_cons_zero, List.set_cons_succ]))))
      refine t4_hard rfl (by rfl) (fun K hK => ?_)
      go_wp2_with (go_at_call 105; refine (l02Arity_c ar _).mono ?_; rintro e w22 ⟨rfl, rfl, rfl⟩)
      refine ⟨⟨cellL hs19.bel hc0, cellL hs19.bel hc1⟩, ?_⟩
      (repeat (first | (apply t4_skip rfl (by rfl); try simp only [Act.put, List.setIfInBounds_toArray, List.set_cons_zero, List.set_cons_succ]) | (apply t4_float rfl (by rfl); (· (intro w' hS; go_simp <;> with_reducible rfl)); (try simp only [Act.put, List.setIfInBounds_toArray, List.set_cons_zero, List.set_cons_succ]))))
      refine t4_hskip rfl (by rfl) ?_ ?_
      · exact ⟨cellL hs19.bel hc0, cellL hs19.bel hc1⟩
      (try simp only [Act.put, List.setIfInBounds_toArray, List.set_cons_zero, List.set_cons_succ])
      (repeat (first | (apply t4_skip rfl (by rfl); try simp only [Act.put, List.setIfInBounds_toArray, List.set_cons_zero, List.set_cons_succ]) | (apply t4_float rfl (by rfl); (· (intro w' hS; go_simp <;> with_reducible rfl)); (try simp only [Act.put, List.setIfInBounds_toArray, List.set_cons_zero, List.set_cons_succ]))))
      have hc0_ := cellL hs19.bel hc0
      have hc1_ := cellL hs19.bel hc1
      refine t4_nil (NoPanic.normal ?_)
      go_wp2_with fail
      go_ret
      exact ⟨ret_bool H1.out.symm, hs19.bel⟩
    | true =>
      have har := inB_true h2
      have hpw := pow64 hs har
      have H1 := Lib.hid (show opOk size (ar, l) = valsOk size l (size ^ ar.toNat) by simp only [opOk, h1, h2, Bool.true_and])
      generalize hP : size ^ ar.toNat = P at *
      have HP := Lib.hid hP
      clear hP
      by_cases hl : (l.length : Int) = P
      · have hne : ((l.length : Int) != P) = false := by simp [hl]
        have H2 := Lib.hid (show opOk size (ar, l) = l.all (fun a => inB a 0 (size - 1)) by rw [H1.out]; unfold valsOk; rw [decide_eq_true hl]; rfl)
        have HLP := Lib.hid hl
        clear hl
        go_upto_region 1 with fail
        refine wp_region_noPanic (wp_region_tree4 (fun w' => w'.cell? ⟨pb, po, none⟩ = some (.int .i64 ar) ∧ w'.cell? ⟨pb, po + 1, none⟩ = some (.slice a l.length c)) (.float 0 (.hard 1 (.float 2 (.float 3 (.float 4 (.float 5 (.float 6 (.float 7 (.hard 8 (.float 9 (.float 10 (.float 11 (.float 12 (.float 13 (.float 14 (.float 15 (.float 16 (.float 17 (.float 18 (.float 19 (.float 20 (.float 21 (.hard 22 (.float 23 (.float 24 .nil))))))))))))))))))))))))) (by kernel_rfl) (by kernel_rfl) (by kernel_rfl) rfl ?_ (fun _ _ _ _ _ h => h) ?_)
        · exact ⟨cellL ((St.start w).drew).bel hc0, cellL ((St.start w).drew).bel hc1⟩
        have hs23 := (St.start w).drew
        clear hc0_ hc1_
        have hz_wd24 : w.heap.size ≤ (w.drew).heap.size := by simp
        generalize hgen_wd24 : w.drew = wd24 at *
        have HG_wd24 := Lib.hid hgen_wd24
        clear hgen_wd24
        (repeat (first | (apply t4_skip rfl (by rfl); try simp only [Act.put, List.setIfInBounds_toArray, List.set_cons_zero, List.set_cons_succ]) | (apply t4_float rfl (by rfl); (· (intro w' hS; go_simp <;> with_reducible rfl)); (try simp only [Act.put, List.setIfInBounds_toArray, List.set_cons_zero, List.set_cons_succ]))))
        refine t4_hard rfl (by rfl) (fun K hK => ?_)
        go_wp2_with (go_at_call 104; refine (l01Size_c size _).mono ?_; rintro e w25 ⟨rfl, rfl, rfl⟩)
        refine ⟨⟨cellL hs23.bel hc0, cellL hs23.bel hc1⟩, ?_⟩
        (repeat (first | (apply t4_skip rfl (by rfl); try simp only [Act.put, List.setIfInBounds_toArray, List.set_cons_zero, List.set_cons_succ]) | (apply t4_float rfl (by rfl); (· (intro w' hS; go_simp <;> with_reducible rfl)); (try simp only [Act.put, List.setIfInBounds_toArray, List.set_cons_zero, List.set_cons_succ]))))
        refine t4_hard rfl (by rfl) (fun K hK => ?_)
        go_wp2_with (go_at_call 105; refine (l02Arity_c ar _).mono ?_; rintro e w26 ⟨rfl, rfl, rfl⟩)
        refine ⟨⟨cellL hs23.bel hc0, cellL hs23.bel hc1⟩, ?_⟩
        (repeat (first | (apply t4_skip rfl (by rfl); try simp only [Act.put, List.setIfInBounds_toArray, List.set_cons_zero, List.set_cons_succ]) | (apply t4_float rfl (by rfl); (· (intro w' hS; go_simp <;> with_reducible rfl)); (try simp only [Act.put, List.setIfInBounds_toArray, List.set_cons_zero, List.set_cons_succ]))))
        refine t4_hard rfl (by rfl) (fun K hK => ?_)
        go_wp2_with (go_at_call 106; refine (l01Power_c size ar _ (by omega) (by omega) (by omega) (by rw [HP.out]; omega)).mono ?_; rintro e w27 ⟨rfl, rfl, rfl⟩)
        rw [HP.out]
        refine ⟨⟨cellL hs23.bel hc0, cellL hs23.bel hc1⟩, ?_⟩
        (repeat (first | (apply t4_skip rfl (by rfl); try simp only [Act.put, List.setIfInBounds_toArray, List.set_cons_zero, List.set_cons_succ]) | (apply t4_float rfl (by rfl); (· (intro w' hS; go_simp <;> with_reducible rfl)); (try simp only [Act.put, List.setIfInBounds_toArray, List.set_cons_zero, List.set_cons_succ]))))
        have hc0_ := cellL hs23.bel hc0
        have hc1_ := cellL hs23.bel hc1
        refine t4_nil (NoPanic.normal ?_)
        go_wp2_with fail
        go_loopw [5] (fun i wl => ∃ k : Nat, k ≤ l.length ∧ i = .int .i64 k ∧ Hid (Below (wd24).heap.size (wd24) wl) ∧ Hid (∀ j (hj : j < l.length), j < k → inB l[j] 0 (size - 1) = true)) (fun i _ => l.length - (intOf i).toNat)
        case atStart => exact ⟨0, Nat.zero_le _, rfl, Below.refl _ _, fun j _ hj => absurd hj (Nat.not_lt_zero _)⟩
        case round =>
          obtain ⟨k, hk, rfl, hbl, hr⟩ := hrel
          have hbl2 := hbl.out
          have hz_wr : wd24.heap.size ≤ wr.heap.size := by have h9 := hbl2.size; (try simp at h9); omega
          have hs28 := hs23.step hbl2
          clear hc0_ hc1_
          have hc0_ := cellL hs28.bel hc0
          have hc1_ := cellL hs28.bel hc1
          have HBL := Lib.hid hbl2
          clear hbl2 hbl
          by_cases hlt : k < l.length
          · obtain ⟨b, o, rfl, q0, _⟩ := rd_int_at (Rd.mono HRL.out hs28.bel) k hlt
            have hkl : (k : Int) < l.length := by omega
            go_wp2_with fail
            refine (l00In_c l[k] 0 (size - 1) _).mono ?_
            rintro e w29 ⟨rfl, rfl, rfl⟩
            cases hq : inB l[k] 0 (size - 1) with
            | false =>
              have HQ := Lib.hid (show opOk size (ar, l) = false by
                rw [H2.out]
                exact List.all_eq_false.2 ⟨_, List.getElem_mem hlt, by simp [hq]⟩)
              clear hq
              go_wp2_with fail
              go_ret
              exact ⟨ret_bool HQ.out.symm, hs28.bel⟩
            | true =>
              have HQ := Lib.hid hq
              clear hq
              go_wp2_with fail
              go_roundw
              case rel =>
                refine ⟨k + 1, by omega, by go_num, HBL.out, fun j hj hjk => ?_⟩
                rcases Nat.lt_or_ge j k with h | h
                · exact hr.out j hj h
                · obtain rfl : j = k := by omega
                  exact HQ.out
              case measure => simp [intOf]; omega
          · obtain rfl : k = l.length := by omega
            have HA := Lib.hid (show l.all (fun a => inB a 0 (size - 1)) = true by
              rw [List.all_eq_true]
              intro y hy
              obtain ⟨j, hj, rfl⟩ := List.getElem_of_mem hy
              exact hr.out j hj hj)
            have hkl : ¬ ((l.length : Int) < l.length) := by omega
            go_wp2_with fail
            go_ret
            exact ⟨ret_bool (by rw [H2.out, HA.out]), hs28.bel⟩
      · have hne : ((l.length : Int) != P) = true := by simp [hl]
        have H2 := Lib.hid (show opOk size (ar, l) = false by rw [H1.out]; unfold valsOk; rw [decide_eq_false hl]; rfl)
        clear hl
        go_upto_region 1 with fail
        refine wp_region_noPanic (wp_region_tree4 (fun w' => w'.cell? ⟨pb, po, none⟩ = some (.int .i64 ar) ∧ w'.cell? ⟨pb, po + 1, none⟩ = some (.slice a l.length c)) (.float 0 (.hard 1 (.float 2 (.float 3 (.float 4 (.float 5 (.float 6 (.float 7 (.hard 8 (.float 9 (.float 10 (.float 11 (.float 12 (.float 13 (.float 14 (.float 15 (.float 16 (.float 17 (.float 18 (.float 19 (.float 20 (.float 21 (.hard 22 (.float 23 (.float 24 .nil))))))))))))))))))))))))) (by kernel_rfl) (by kernel_rfl) (by kernel_rfl) rfl ?_ (fun _ _ _ _ _ h => h) ?_)
        · exact ⟨cellL ((St.start w).drew).bel hc0, cellL ((St.start w).drew).bel hc1⟩
        have hs30 := (St.start w).drew
        clear hc0_ hc1_
        have hz_wd31 : w.heap.size ≤ (w.drew).heap.size := by simp
        generalize hgen_wd31 : w.drew = wd31 at *
        have HG_wd31 := Lib.hid hgen_wd31
        clear hgen_wd31
        (repeat (first | (apply t4_skip rfl (by rfl); try simp only [Act.put, List.setIfInBounds_toArray, List.set_cons_zero, List.set_cons_succ]) | (apply t4_float rfl (by rfl); (· (intro w' hS; go_simp <;> with_reducible rfl)); (try simp only [Act.put, List.setIfInBounds_toArray, List.set_cons_zero, List.set_cons_succ]))))
        refine t4_hard rfl (by rfl) (fun K hK => ?_)
        go_wp2_with (go_at_call 104; refine (l01Size_c size _).mono ?_; rintro e w32 ⟨rfl, rfl, rfl⟩)
        refine ⟨⟨cellL hs30.bel hc0, cellL hs30.bel hc1⟩, ?_⟩
        (repeat (first | (apply t4_skip rfl (by rfl); try simp only [Act.put, List.setIfInBounds_toArray, List.set_cons_zero, List.set_cons_succ]) | (apply t4_float rfl (by rfl); (· (intro w' hS; go_simp <;> with_reducible rfl)); (try simp only [Act.put, List.setIfInBounds_toArray, List.set_cons_zero, List.set_cons_succ]))))
        refine t4_hard rfl (by rfl) (fun K hK => ?_)
        go_wp2_with (go_at_call 105; refine (l02Arity_c ar _).mono ?_; rintro e w33 ⟨rfl, rfl, rfl⟩)
        refine ⟨⟨cellL hs30.bel hc0, cellL hs30.bel hc1⟩, ?_⟩
        (repeat (first | (apply t4_skip rfl (by rfl); try simp only [Act.put, List.setIfInBounds_toArray, List.set_cons_zero, List.set_cons_succ]) | (apply t4_float rfl (by rfl); (· (intro w' hS; go_simp <;> with_reducible rfl)); (try simp only [Act.put, List.setIfInBounds_toArray, List.set_cons_zero, List.set_cons_succ]))))
        refine t4_hard rfl (by rfl) (fun K hK => ?_)
        go_wp2_with (go_at_call 106; refine (l01Power_c size ar _ (by omega) (by omega) (by omega) (by rw [HP.out]; omega)).mono ?_; rintro e w34 ⟨rfl, rfl, rfl⟩)
        rw [HP.out]
        refine ⟨⟨cellL hs30.bel hc0, cellL hs30.bel hc1⟩, ?_⟩
        (repeat (first | (apply t4_skip rfl (by rfl); try simp only [Act.put, List.setIfInBounds_toArray, List.set_cons_zero, List.set_cons_succ]) | (apply t4_float rfl (by rfl); (· (intro w' hS; go_simp <;> with_reducible rfl)); (try simp only [Act.put, List.setIfInBounds_toArray, List.set_cons_zero, List.set_cons_succ]))))
        have hc0_ := cellL hs30.bel hc0
        have hc1_ := cellL hs30.bel hc1
        refine t4_nil (NoPanic.normal ?_)
        go_wp2_with fail
        go_ret
        exact ⟨ret_bool H2.out.symm, hs30.bel⟩
set_option maxRecDepth 100000 in
set_option maxHeartbeats 4000000 in
theorem l01Template_c (x : Tmpl) (pb : Nat) (v0 v1 : Value) (w : World) (hx : Rd w [v0, v1] x) (hc0 : w.cell? ⟨pb, 0, none⟩ = some v0) (hc1 : w.cell? ⟨pb, 1, none⟩ = some v1) :
    Calls Tryz.prog 101 #[.pointer (some ⟨pb, 0, none⟩)] w fun e w' => e = .returned (.bool (tmplOk x)) ∧ Below w.heap.size w w' := by
  obtain ⟨size, l⟩ := x
  have z := rd_cons rfl hx
  obtain ⟨rfl, _⟩ := rd_i1 z.1
  have HRL := Lib.hid z.2
  obtain ⟨a, c, rfl, hrl⟩ := rd_list HRL.out
  have hb0 := (rdSl_len hrl).2
  unfold maxLen at hb0
  have HL := Lib.hid hrl
  clear hx z hrl
  have hc0_ := cellL (St.start w).bel hc0
  clear hc0_
  have hc0_ := cellL (St.start w).bel hc0
  have hc1_ := cellL (St.start w).bel hc1
  go_enter Tryz.func101, Tryz.ntmps101
  go_wp2_with fail
  go_loopw [3] (fun i wl => ∃ k : Nat, k ≤ l.length ∧ i = .int .i64 k ∧ Hid (Below w.heap.size w wl) ∧ Hid (∀ j (hj : j < l.length), j < k → relOk size l[j] = true)) (fun i _ => l.length - (intOf i).toNat)
  case atStart => exact ⟨0, Nat.zero_le _, rfl, Below.refl _ _, fun j _ hj => absurd hj (Nat.not_lt_zero _)⟩
  case round =>
    obtain ⟨k, hk, rfl, hbl, hr⟩ := hrel
    have hsr := (St.start w).step hbl.out
    have hc0_ := cellL hsr.bel hc0
    have hc1_ := cellL hsr.bel hc1
    clear hbl
    by_cases hlt : k < l.length
    · obtain ⟨b, o, u0, u1, rfl, q0, q1, hy⟩ := rdSl_two rfl HL.out k hlt
      have HY := Lib.hid hy
      clear hy
      clear hc0_ hc1_
      have hc0_ := cellL hsr.bel hc0
      have hc1_ := cellL hsr.bel hc1
      have q0_ := cellL hsr.bel q0
      clear hc0_ hc1_ q0_
      have hc0_ := cellL hsr.bel hc0
      have hc1_ := cellL hsr.bel hc1
      have q0_ := cellL hsr.bel q0
      have q1_ := cellL hsr.bel q1
      clear hc0_ hc1_ q0_ q1_
      have hc0_ := cellL hsr.bel hc0
      have hc1_ := cellL hsr.bel hc1
      have q0_ := cellL hsr.bel q0
      have q1_ := cellL hsr.bel q1
      have hkl : (k : Int) < l.length := by omega
      cases h4 : relOk size l[k] with
      | false =>
        have H4 := Lib.hid (show tmplOk (size, l) = false by
          simp only [tmplOk, Bool.and_eq_false_iff]
          exact .inr (List.all_eq_false.2 ⟨_, List.getElem_mem hlt, by simp [h4]⟩))
        go_upto_region 4 with fail
        refine wp_region_noPanic (wp_region_tree4 (fun w' => w'.cell? ⟨pb, 0, none⟩ = some (.int .i64 size) ∧ w'.cell? ⟨pb, 1, none⟩ = some (.slice (some ⟨b, o, none⟩) l.length c) ∧ w'.cell? ⟨b, o + k * 2, none⟩ = some (u0) ∧ w'.cell? ⟨b, o + k * 2 + 1, none⟩ = some (u1)) (.float 0 (.float 1 (.float 2 (.float 3 (.float 4 (.float 5 (.float 6 (.float 7 (.float 8 (.float 9 (.hard 10 (.float 11 .nil)))))))))))) (by kernel_rfl) (by kernel_rfl) (by kernel_rfl) rfl ?_ (fun _ _ _ _ _ h => h) ?_)
        · exact ⟨cellL (hsr.drew).bel hc0, cellL (hsr.drew).bel hc1, cellL (hsr.drew).bel q0, cellL (hsr.drew).bel q1⟩
        have hs35 := hsr.drew
        clear hc0_ hc1_ q0_ q1_
        have hz_wd36 : wr.heap.size ≤ (wr.drew).heap.size := by simp
        generalize hgen_wd36 : wr.drew = wd36 at *
        have HG_wd36 := Lib.hid hgen_wd36
        clear hgen_wd36
        (repeat (first | (apply t4_skip rfl (by rfl); try simp only [Act.put, List.setIfInBounds_toArray, List.set_cons_zero, List.set_cons_succ]) | (apply t4_float rfl (by rfl); (· (intro w' hS; go_simp <;> with_reducible rfl)); (try simp only [Act.put, List.setIfInBounds_toArray, List.set_cons_zero, List.set_cons_succ]))))
        refine t4_hard rfl (by rfl) (fun K hK => ?_)
        go_wp2_with (go_at_call 162; refine (l01Ok_c size l[k] _ _ _ _ _ (Rd.mono HY.out hs35.bel) (cellL hs35.bel q0) (cellL hs35.bel q1)).mono ?_; rintro e w37 ⟨rfl, hbw37⟩)
        have hz_w37 : wd36.heap.size ≤ w37.heap.size := by have h9 := hbw37.size; (try simp at h9); omega
        have hs38 := hs35.step hbw37
        refine ⟨⟨cellL hs38.bel hc0, cellL hs38.bel hc1, cellL hs38.bel q0, cellL hs38.bel q1⟩, ?_⟩
        (repeat (first | (apply t4_skip rfl (by rfl); try simp only [Act.put, List.setIfInBounds_toArray, List.set_cons_zero, List.set_cons_succ]) | (apply t4_float rfl (by rfl); (· (intro w' hS; go_simp <;> with_reducible rfl)); (try simp only [Act.put, List.setIfInBounds_toArray, List.set_cons_zero, List.set_cons_succ]))))
        have hc0_ := cellL hs38.bel hc0
        have hc1_ := cellL hs38.bel hc1
        have q0_ := cellL hs38.bel q0
        have q1_ := cellL hs38.bel q1
        refine t4_nil (NoPanic.normal ?_)
        go_wp2_with fail
        go_ret
        exact ⟨ret_bool H4.out.symm, hs38.bel⟩
      | true =>
        have H4 := Lib.hid h4
        go_upto_region 4 with fail
        refine wp_region_noPanic (wp_region_tree4 (fun w' => w'.cell? ⟨pb, 0, none⟩ = some (.int .i64 size) ∧ w'.cell? ⟨pb, 1, none⟩ = some (.slice (some ⟨b, o, none⟩) l.length c) ∧ w'.cell? ⟨b, o + k * 2, none⟩ = some (u0) ∧ w'.cell? ⟨b, o + k * 2 + 1, none⟩ = some (u1)) (.float 0 (.float 1 (.float 2 (.float 3 (.float 4 (.float 5 (.float 6 (.float 7 (.float 8 (.float 9 (.hard 10 (.float 11 .nil)))))))))))) (by kernel_rfl) (by kernel_rfl) (by kernel_rfl) rfl ?_ (fun _ _ _ _ _ h => h) ?_)
        · exact ⟨cellL (hsr.drew).bel hc0, cellL (hsr.drew).bel hc1, cellL (hsr.drew).bel q0, cellL (hsr.drew).bel q1⟩
        have hs39 := hsr.drew
        clear hc0_ hc1_ q0_ q1_
        have hz_wd40 : wr.heap.size ≤ (wr.drew).heap.size := by simp
        generalize hgen_wd40 : wr.drew = wd40 at *
        have HG_wd40 := Lib.hid hgen_wd40
        clear hgen_wd40
        (repeat (first | (apply t4_skip rfl (by rfl); try simp only [Act.put, List.setIfInBounds_toArray, List.set_cons_zero, List.set_cons_succ]) | (apply t4_float rfl (by rfl); (· (intro w' hS; go_simp <;> with_reducible rfl)); (try simp only [Act.put, List.setIfInBounds_toArray, List.set_cons_zero, List.set_cons_succ]))))
        refine t4_hard rfl (by rfl) (fun K hK => ?_)
        go_wp2_with (go_at_call 162; refine (l01Ok_c size l[k] _ _ _ _ _ (Rd.mono HY.out hs39.bel) (cellL hs39.bel q0) (cellL hs39.bel q1)).mono ?_; rintro e w41 ⟨rfl, hbw41⟩)
        have hz_w41 : wd40.heap.size ≤ w41.heap.size := by have h9 := hbw41.size; (try simp at h9); omega
        have hs42 := hs39.step hbw41
        refine ⟨⟨cellL hs42.bel hc0, cellL hs42.bel hc1, cellL hs42.bel q0, cellL hs42.bel q1⟩, ?_⟩
        (repeat (first | (apply t4_skip rfl (by rfl); try simp only [Act.put, List.setIfInBounds_toArray, List.set_cons_zero, List.set_cons_succ]) | (apply t4_float rfl (by rfl); (· (intro w' hS; go_simp <;> with_reducible rfl)); (try simp only [Act.put, List.setIfInBounds_toArray, List.set_cons_zero, List.set_cons_succ]))))
        have hc0_ := cellL hs42.bel hc0
        have hc1_ := cellL hs42.bel hc1
        have q0_ := cellL hs42.bel q0
        have q1_ := cellL hs42.bel q1
        refine t4_nil (NoPanic.normal ?_)
        go_wp2_with fail
        go_roundw
        case rel =>
          refine ⟨k + 1, by omega, by go_num, hs42.bel, fun j hj hjk => ?_⟩
          rcases Nat.lt_or_ge j k with h | h
          · exact hr.out j hj h
          · obtain rfl : j = k := by omega
            exact H4.out
        case measure => simp [intOf]; omega
    · obtain rfl : k = l.length := by omega
      have HA := Lib.hid (show l.all (relOk size) = true by
        rw [List.all_eq_true]
        intro y hy
        obtain ⟨j, hj, rfl⟩ := List.getElem_of_mem hy
        exact hr.out j hj hj)
      have hkl : ¬ ((l.length : Int) < l.length) := by omega
      go_wp2_with fail
      refine (l01Size_c size _).mono ?_
      rintro e w43 ⟨rfl, rfl, rfl⟩
      cases h1 : inB size 1 4 with
      | false =>
        have H1 := Lib.hid (show tmplOk (size, l) = false by simp only [tmplOk, h1, Bool.false_and])
        clear h1
        go_wp2_with fail
        go_ret
        exact ⟨ret_bool H1.out.symm, hsr.bel⟩
      | true =>
        have H1 := Lib.hid (show tmplOk (size, l) = decide (l.length ≤ 6) by simp only [tmplOk, h1, HA.out, Bool.true_and, Bool.and_true])
        clear h1
        go_wp2_with fail
        go_ret
        exact ⟨ret_bool (by rw [H1.out]; (try simp); (try omega)), hsr.bel⟩

end Go.Proofs.YtbbmadmnmlljmaaGreat
