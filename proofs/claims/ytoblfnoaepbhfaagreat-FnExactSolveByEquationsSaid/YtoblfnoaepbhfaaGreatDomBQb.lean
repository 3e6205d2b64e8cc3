import Derived.Test.YtoblfnoaepbhfaaGreatTmplBQb
import Derived.Lib.SlicesCompact
import Derived.Lib.OwnBridge
import Derived.Test.YtoblfnoaepbhfaaGreatRowsBQb
import Derived.Test.YtoblfnoaepbhfaaGreatShelf
import Derived.Sort.OwnSortedInts
import Derived.Test.YtoblfnoaepbhfaaGreatKindsQb
import Derived.Laws.StructEq
set_option linter.unusedSimpArgs false
set_option linter.unusedVariables false
namespace Go.Proofs.YtoblfnoaepbhfaaGreat
open Go.RowKit
end Go.Proofs.YtoblfnoaepbhfaaGreat
namespace Go.Proofs.YtoblfnoaepbhfaaGreat
open Go.RowKit Go.Shelf Go.IntWalk
open Rep (Rd Own sz)
theorem conOk_rel {size : Int} {rs : List RelT} {vars ci : Int} {sc : List Int} (h : inB ci 0 (rs.length - 1) = false) : conOk (size, rs) vars (ci, sc) = false := by unfold conOk; simp only; rw [h]; rfl
theorem conOk_vals {size : Int} {rs : List RelT} {vars : Int} {k : Nat} {sc : List Int} (hk : k < rs.length) : conOk (size, rs) vars ((k : Int), sc) = valsOk vars sc rs[k].1 := by
  unfold conOk
  simp only [Int.toNat_natCast]
  rw [show inB (k : Int) 0 ((rs.length : Int) - 1) = true by simp [inB]; omega, show rs.getD k (0, []) = rs[k] by simp [List.getD, hk]]
  rfl
set_option maxRecDepth 100000 in
set_option maxHeartbeats 4000000 in
theorem validInstance1_by (tb xb : Nat) (rs : List RelT) (size vars : Int) (va : Value) (w : World) (l : List OpT) (hc0 : w.cell? ⟨tb, 1, none⟩ = some va) (hc1 : w.cell? ⟨xb, 0, none⟩ = some (.int .i64 vars)) (hr : Rd w [va] rs) (hrl : rs.length ≤ 6) (hv : 1 ≤ vars ∧ vars ≤ 10) :
    PredC 145 #[.pointer (some ⟨tb, 0, none⟩), .pointer (some ⟨xb, 0, none⟩)] w l (fun c => !conOk (size, rs) vars c) := by
  intro W x v0 v1 hb hx _
  have HR := Lib.hid (Rd.mono hr hb)
  have g0 := cellL hb hc0
  have g1 := cellL hb hc1
  clear hc0 hc1 hr hb
  show Calls Tryz.prog 145 #[_, .pointer (some ⟨tb, 0, none⟩), .pointer (some ⟨xb, 0, none⟩)] W _
  obtain ⟨ci, sc⟩ := x
  have z := rd_cons rfl hx
  obtain ⟨rfl, hIc⟩ := rd_i1 z.1
  have HSC := Lib.hid z.2
  obtain ⟨a2, c2, rfl, _⟩ := rd_list z.2
  obtain ⟨a, c, rfl, _⟩ := rd_list HR.out
  clear hx z
  simp only at hIc
  have g0_ := cellL (St.start W).bel g0
  clear g0_
  have g0_ := cellL (St.start W).bel g0
  have g1_ := cellL (St.start W).bel g1
  have hs1 := (St.start W).alloc #[.int .i64 ci, .slice a2 sc.length c2] 150 (n := W.heap.size) (by simp)
  clear g0_ g1_
  have k0_0 := hs1.cellAt 0 rfl 0 rfl
  have k0_1 := hs1.cellAt 0 rfl 1 rfl
  have g0_ := cellL hs1.bel g0
  have g1_ := cellL hs1.bel g1
  have ew : IntKind.i64.wrap ((rs.length : Int) - 1) = (rs.length : Int) - 1 := i64_in _ (by omega)
  go_enter Tryz.func145, Tryz.ntmps145
  cases h1 : inB ci 0 (rs.length - 1) with
  | false =>
    have H1 := Lib.hid (conOk_rel (size := size) (vars := vars) (sc := sc) h1)
    go_upto_region 1 with fail
    refine wp_region_noPanic (wp_region_tree4 (fun w' => w'.cell? ⟨W.heap.size, 0, none⟩ = some (.int .i64 ci) ∧ w'.cell? ⟨W.heap.size, 1, none⟩ = some (.slice a2 sc.length c2) ∧ w'.cell? ⟨tb, 1, none⟩ = some (.slice a rs.length c) ∧ w'.cell? ⟨xb, 0, none⟩ = some (.int .i64 vars)) (.float 0 (.float 1 (.float 2 (.float 3 (.float 4 (.float 5 (.hard 6 (.float 7 (.float 8 (.float 9 (.float 10 (.float 11 (.float 12 (.float 13 (.float 14 (.float 15 (.float 16 (.float 17 (.float 18 (.float 19 (.hard 20 (.float 21 (.float 22 (.float 23 .nil)))))))))))))))))))))))) (by kernel_rfl) (by kernel_rfl) (by kernel_rfl) rfl ?_ (fun _ _ _ _ _ h => h) ?_)
    · exact ⟨(hs1.drew).cellAt 0 rfl 0 rfl, (hs1.drew).cellAt 0 rfl 1 rfl, cellL (hs1.drew).bel g0, cellL (hs1.drew).bel g1⟩
    have hs2 := hs1.drew
    clear k0_0 k0_1 g0_ g1_
    have hz_wd3 : W.heap.size + 1 ≤ ((W.alloc (.cells #[.int .i64 ci, .slice a2 sc.length c2] 150)).drew).heap.size := by simp
    generalize hgen_wd3 : (W.alloc (.cells #[.int .i64 ci, .slice a2 sc.length c2] 150)).drew = wd3 at *
    have HG_wd3 := Lib.hid hgen_wd3
    clear hgen_wd3
    (repeat (first | (apply t4_skip rfl (by rfl); try simp only [Act.put, sI, sZ, sS]) | (apply t4_float rfl (by rfl); (· (intro w' hS; go_simp <;> with_reducible rfl)); (try simp only [Act.put, sI, sZ, sS]))))
    refine t4_hard rfl (by rfl) (fun K hK => ?_)
    go_wp2_with (go_at_call 146; refine (within_c ci 0 (rs.length - 1) _).mono ?_; rintro e w4 ⟨rfl, rfl, rfl⟩)
    refine ⟨⟨hs2.cellAt 0 rfl 0 rfl, hs2.cellAt 0 rfl 1 rfl, cellL hs2.bel g0, cellL hs2.bel g1⟩, ?_⟩
    (repeat (first | (apply t4_skip rfl (by rfl); try simp only [Act.put, sI, sZ, sS]) | (apply t4_float rfl (by rfl); (· (intro w' hS; go_simp <;> with_reducible rfl)); (try simp only [Act.put, sI, sZ, sS]))))
    refine t4_hskip rfl (by rfl) ?_ ?_
    · exact ⟨hs2.cellAt 0 rfl 0 rfl, hs2.cellAt 0 rfl 1 rfl, cellL hs2.bel g0, cellL hs2.bel g1⟩
    (try simp only [Act.put, sI, sZ, sS])
    (repeat (first | (apply t4_skip rfl (by rfl); try simp only [Act.put, sI, sZ, sS]) | (apply t4_float rfl (by rfl); (· (intro w' hS; go_simp <;> with_reducible rfl)); (try simp only [Act.put, sI, sZ, sS]))))
    have k0_0 := hs2.cellAt 0 rfl 0 rfl
    have k0_1 := hs2.cellAt 0 rfl 1 rfl
    have g0_ := cellL hs2.bel g0
    have g1_ := cellL hs2.bel g1
    refine t4_nil (NoPanic.normal ?_)
    go_wp2_with fail
    go_ret
    exact ⟨ret_bool (by rw [H1.out]; rfl), hs2.bel⟩
  | true =>
    have h2 := inB_true h1
    obtain ⟨k, rfl⟩ : ∃ k : Nat, ci = k := ⟨ci.toNat, by omega⟩
    have hk : k < rs.length := by omega
    obtain ⟨b, o, u0, u1, rfl, q0, q1, hy⟩ := rd_two_at rfl HR.out k hk
    have hyz := rd_cons rfl hy
    obtain ⟨rfl, _⟩ := rd_i1 hyz.1
    have H1 := Lib.hid (conOk_vals (size := size) (vars := vars) (sc := sc) hk)
    clear hy hyz
    generalize rs[k].1 = AR at *
    have hkl : (k : Int) < rs.length := by omega
    clear k0_0 k0_1 g0_ g1_
    have k0_0 := hs1.cellAt 0 rfl 0 rfl
    have k0_1 := hs1.cellAt 0 rfl 1 rfl
    have g0_ := cellL hs1.bel g0
    have g1_ := cellL hs1.bel g1
    have q0_ := cellL hs1.bel q0
    clear k0_0 k0_1 g0_ g1_ q0_
    have k0_0 := hs1.cellAt 0 rfl 0 rfl
    have k0_1 := hs1.cellAt 0 rfl 1 rfl
    have g0_ := cellL hs1.bel g0
    have g1_ := cellL hs1.bel g1
    have q0_ := cellL hs1.bel q0
    go_upto_region 1 with fail
    refine wp_region_noPanic (wp_region_tree4 (fun w' => w'.cell? ⟨W.heap.size, 0, none⟩ = some (.int .i64 (k : Int)) ∧ w'.cell? ⟨W.heap.size, 1, none⟩ = some (.slice a2 sc.length c2) ∧ w'.cell? ⟨tb, 1, none⟩ = some (.slice (some ⟨b, o, none⟩) rs.length c) ∧ w'.cell? ⟨xb, 0, none⟩ = some (.int .i64 vars) ∧ w'.cell? ⟨b, o + k * 2, none⟩ = some (.int .i64 AR)) (.float 0 (.float 1 (.float 2 (.float 3 (.float 4 (.float 5 (.hard 6 (.float 7 (.float 8 (.float 9 (.float 10 (.float 11 (.float 12 (.float 13 (.float 14 (.float 15 (.float 16 (.float 17 (.float 18 (.float 19 (.hard 20 (.float 21 (.float 22 (.float 23 .nil)))))))))))))))))))))))) (by kernel_rfl) (by kernel_rfl) (by kernel_rfl) rfl ?_ (fun _ _ _ _ _ h => h) ?_)
    · exact ⟨(hs1.drew).cellAt 0 rfl 0 rfl, (hs1.drew).cellAt 0 rfl 1 rfl, cellL (hs1.drew).bel g0, cellL (hs1.drew).bel g1, cellL (hs1.drew).bel q0⟩
    have hs5 := hs1.drew
    clear k0_0 k0_1 g0_ g1_ q0_
    have hz_wd6 : W.heap.size + 1 ≤ ((W.alloc (.cells #[.int .i64 (k : Int), .slice a2 sc.length c2] 150)).drew).heap.size := by simp
    generalize hgen_wd6 : (W.alloc (.cells #[.int .i64 (k : Int), .slice a2 sc.length c2] 150)).drew = wd6 at *
    have HG_wd6 := Lib.hid hgen_wd6
    clear hgen_wd6
    (repeat (first | (apply t4_skip rfl (by rfl); try simp only [Act.put, sI, sZ, sS]) | (apply t4_float rfl (by rfl); (· (intro w' hS; go_simp <;> with_reducible rfl)); (try simp only [Act.put, sI, sZ, sS]))))
    refine t4_hard rfl (by rfl) (fun K hK => ?_)
    go_wp2_with (go_at_call 146; refine (within_c k 0 (rs.length - 1) _).mono ?_; rintro e w7 ⟨rfl, rfl, rfl⟩)
    refine ⟨⟨hs5.cellAt 0 rfl 0 rfl, hs5.cellAt 0 rfl 1 rfl, cellL hs5.bel g0, cellL hs5.bel g1, cellL hs5.bel q0⟩, ?_⟩
    (repeat (first | (apply t4_skip rfl (by rfl); try simp only [Act.put, sI, sZ, sS]) | (apply t4_float rfl (by rfl); (· (intro w' hS; go_simp <;> with_reducible rfl)); (try simp only [Act.put, sI, sZ, sS]))))
    refine t4_hard rfl (by rfl) (fun K hK => ?_)
    go_wp2_with (go_at_call 147; refine (areValues_c vars sc _ AR _ (Rd.mono HSC.out hs5.bel) (by omega) (by omega)).mono ?_; rintro e w8 ⟨rfl, hbw8⟩)
    have hz_w8 : wd6.heap.size ≤ w8.heap.size := by have h9 := hbw8.size; (try simp at h9); omega
    have hs9 := hs5.step hbw8
    refine ⟨⟨hs9.cellAt 0 rfl 0 rfl, hs9.cellAt 0 rfl 1 rfl, cellL hs9.bel g0, cellL hs9.bel g1, cellL hs9.bel q0⟩, ?_⟩
    (repeat (first | (apply t4_skip rfl (by rfl); try simp only [Act.put, sI, sZ, sS]) | (apply t4_float rfl (by rfl); (· (intro w' hS; go_simp <;> with_reducible rfl)); (try simp only [Act.put, sI, sZ, sS]))))
    have k0_0 := hs9.cellAt 0 rfl 0 rfl
    have k0_1 := hs9.cellAt 0 rfl 1 rfl
    have g0_ := cellL hs9.bel g0
    have g1_ := cellL hs9.bel g1
    have q0_ := cellL hs9.bel q0
    refine t4_nil (NoPanic.normal ?_)
    go_wp2_with fail
    go_ret
    exact ⟨ret_bool (by rw [H1.out]), hs9.bel⟩
set_option maxRecDepth 100000 in
set_option maxHeartbeats 4000000 in
theorem ValidInstance_c (t : Tmpl) (x : Inst) (t0 t1 x0 x1 : Value) (w : World) (ht : Rd w [t0, t1] t) (hx : Rd w [x0, x1] x) :
    Calls Tryz.prog 81 #[.agg #[t0, t1], .agg #[x0, x1]] w fun e w' => e = .returned (.bool (instOk t x)) ∧ Below w.heap.size w w' := by
  obtain ⟨size, rs⟩ := t
  obtain ⟨vars, l⟩ := x
  have HT := Lib.hid ht
  have zt := rd_cons rfl ht
  obtain ⟨rfl, _⟩ := rd_i1 zt.1
  obtain ⟨at0, ct0, rfl, _⟩ := rd_list zt.2
  have HTR := Lib.hid zt.2
  have zx := rd_cons rfl hx
  obtain ⟨rfl, _⟩ := rd_i1 zx.1
  have HL := Lib.hid zx.2
  obtain ⟨a, c, rfl, _⟩ := rd_list zx.2
  clear ht hx zt zx
  have eg : ∀ args w, (callFunc 145 args).run Tryz.prog w = .ok (.enter 145 args) w := enters_of Tryz.func145 (by kernel_rfl) rfl
  have hs10 := (St.start w).alloc #[.int .i64 size, .slice at0 rs.length ct0] 42 (n := w.heap.size) (by simp)
  have k0_0 := hs10.cellAt 0 rfl 0 rfl
  have k0_1 := hs10.cellAt 0 rfl 1 rfl
  have hs11 := hs10.alloc #[.int .i64 vars, .slice a l.length c] 46 (n := w.heap.size + 1) (by simp)
  clear k0_0 k0_1
  have k0_0 := hs11.cellAt 0 rfl 0 rfl
  have k0_1 := hs11.cellAt 0 rfl 1 rfl
  have k1_0 := hs11.cellAt 1 rfl 0 rfl
  have k1_1 := hs11.cellAt 1 rfl 1 rfl
  go_enter Tryz.func81, Tryz.ntmps81
  go_wp2_with fail
  refine (ValidTemplate_c (size, rs) _ _ _ (Rd.mono HT.out hs11.bel)).mono ?_
  rintro e w12 ⟨rfl, hbw12⟩
  have hz_w12 : w.heap.size + 1 + 1 ≤ w12.heap.size := by have h9 := hbw12.size; (try simp at h9); omega
  have hs13 := hs11.step hbw12
  clear k0_0 k0_1 k1_0 k1_1
  have k0_0 := hs13.cellAt 0 rfl 0 rfl
  have k0_1 := hs13.cellAt 0 rfl 1 rfl
  have k1_0 := hs13.cellAt 1 rfl 0 rfl
  have k1_1 := hs13.cellAt 1 rfl 1 rfl
  cases h1 : tmplOk (size, rs) with
  | false =>
    have H1 := Lib.hid (show instOk (size, rs) (vars, l) = false by unfold instOk; rw [h1]; rfl)
    clear h1
    go_wp2_with fail
    go_ret
    exact ⟨ret_bool H1.out.symm, hs13.bel⟩
  | true =>
    have H1 := Lib.hid h1
    have hrl := (tmplOk_get h1).2.1
    simp only at hrl
    clear h1
    go_wp2_with fail
    refine (isVars_c vars _).mono ?_
    rintro e w14 ⟨rfl, rfl, rfl⟩
    cases h2 : inB vars 1 10 with
    | false =>
      have H2 := Lib.hid (show instOk (size, rs) (vars, l) = false by unfold instOk; simp only [h2, Bool.and_false, Bool.false_and])
      clear h2
      go_wp2_with fail
      go_ret
      exact ⟨ret_bool H2.out.symm, hs13.bel⟩
    | true =>
      have H2 := Lib.hid h2
      have hv := inB_true h2
      clear h2
      by_cases hl : l.length ≤ 24
      · have HLL := Lib.hid hl
        go_wp2_with fail
        refine (containsCons_c l _ 145 _ _ _ (Rd.mono HL.out hs13.bel) eg (validInstance1_by _ _ rs size vars _ _ l (hs13.cellAt 0 rfl 1 rfl) (hs13.cellAt 1 rfl 0 rfl) (Rd.mono HTR.out hs13.bel) hrl hv)).mono ?_
        rintro e w15 ⟨rfl, hbw15⟩
        have hz_w15 : w12.heap.size ≤ w15.heap.size := by have h9 := hbw15.size; (try simp at h9); omega
        have hs16 := hs13.step hbw15
        clear k0_0 k0_1 k1_0 k1_1
        have k0_0 := hs16.cellAt 0 rfl 0 rfl
        have k0_1 := hs16.cellAt 0 rfl 1 rfl
        have k1_0 := hs16.cellAt 1 rfl 0 rfl
        have k1_1 := hs16.cellAt 1 rfl 1 rfl
        go_wp2_with fail
        go_ret
        refine ⟨ret_bool ?_, hs16.bel⟩
        unfold instOk
        simp only [H1.out, H2.out, decide_eq_true HLL.out, Bool.true_and]
        rw [← all_of_any]
      · have HLL := Lib.hid hl
        go_wp2_with fail
        go_ret
        exact ⟨ret_bool (by simp only [instOk, decide_eq_false HLL.out, Bool.and_false, Bool.false_and]), hs13.bel⟩
set_option maxRecDepth 100000 in
set_option maxHeartbeats 2000000 in
theorem l01Places_c (ar : Int) (l : List Int) (v0 : Value) (w : World) (r0 : Rd w [v0] l) (hs0 : -1000 ≤ ar) (hs1 : ar ≤ 1000000000) :
    Calls Tryz.prog 138 #[v0, .int .i64 ar] w fun e w' => e = .returned (.bool (l.all (fun a => inB a 0 (ar - 1)))) ∧ w = w' := by
  obtain ⟨a, c, rfl, h0⟩ := rd_list r0
  have hb0 := (rdSl_len h0).2
  unfold maxLen at hb0
  have HR := Lib.hid r0
  clear r0 h0
  go_enter Tryz.func138, Tryz.ntmps138
  go_wp2_with fail
  go_loop [5] (fun i => ∃ k : Nat, k ≤ l.length ∧ i = .int .i64 k ∧ Hid (∀ j (hj : j < l.length), j < k → inB l[j] 0 (ar - 1) = true)) (fun i => l.length - (intOf i).toNat)
  case atStart => exact ⟨0, Nat.zero_le _, rfl, fun j _ hj => absurd hj (Nat.not_lt_zero _)⟩
  case round =>
    obtain ⟨k, hk, rfl, hr⟩ := hrel
    by_cases hlt : k < l.length
    · obtain ⟨b, o, rfl, q0, _⟩ := rd_int_at HR.out k hlt
      go_wp2_with fail
      refine (l00In_c l[k] 0 (ar - 1) _).mono ?_
      rintro e w1 ⟨rfl, rfl⟩
      cases hq : inB l[k] 0 (ar - 1) with
      | false =>
        have HQ := Lib.hid (show l.all (fun a => inB a 0 (ar - 1)) = false from List.all_eq_false.2 ⟨_, List.getElem_mem hlt, by simp [hq]⟩)
        clear hq
        go_wp2_with fail
        go_ret
        exact ⟨ret_bool HQ.out.symm, rfl⟩
      | true =>
        have HQ := Lib.hid hq
        clear hq
        go_wp2_with fail
        go_round
        case rel =>
          refine ⟨k + 1, by omega, by go_num, fun j hj hjk => ?_⟩
          rcases Nat.lt_or_ge j k with h | h
          · exact hr.out j hj h
          · obtain rfl : j = k := by omega
            exact HQ.out
        case measure => simp [intOf]; omega
    · obtain rfl : k = l.length := by omega
      have HA := Lib.hid (show l.all (fun a => inB a 0 (ar - 1)) = true by
        rw [List.all_eq_true]
        intro y hy
        obtain ⟨j, hj, rfl⟩ := List.getElem_of_mem hy
        exact hr.out j hj hj)
      go_wp2_with fail
      go_ret
      exact ⟨ret_bool HA.out.symm, rfl⟩
set_option maxRecDepth 100000 in
set_option maxHeartbeats 8000000 in
theorem l05Ok_c (t : Tmpl) (x : Inst) (tb xb : Nat) (t0 t1 x0 x1 : Value) (w : World) (ht : Rd w [t0, t1] t) (hx : Rd w [x0, x1] x)
    (ct0 : w.cell? ⟨tb, 0, none⟩ = some t0) (ct1 : w.cell? ⟨tb, 1, none⟩ = some t1) (cx0 : w.cell? ⟨xb, 0, none⟩ = some x0) (cx1 : w.cell? ⟨xb, 1, none⟩ = some x1) :
    Calls Tryz.prog 79 #[.pointer (some ⟨tb, 0, none⟩), .pointer (some ⟨xb, 0, none⟩)] w fun e w' => e = .returned (.bool (instOk t x)) ∧ Below w.heap.size w w' := by
  obtain ⟨size, rs⟩ := t
  obtain ⟨vars, l⟩ := x
  have HT := Lib.hid ht
  have zt := rd_cons rfl ht
  obtain ⟨rfl, _⟩ := rd_i1 zt.1
  obtain ⟨at0, cc0, rfl, _⟩ := rd_list zt.2
  have HTR := Lib.hid zt.2
  have zx := rd_cons rfl hx
  obtain ⟨rfl, _⟩ := rd_i1 zx.1
  have HL := Lib.hid zx.2
  obtain ⟨a, c, rfl, hrl⟩ := rd_list zx.2
  have hb0 := (rdSl_len hrl).2
  unfold maxLen at hb0
  have HLR := Lib.hid hrl
  clear ht hx zt zx hrl
  have ct0_ := cellL (St.start w).bel ct0
  clear ct0_
  have ct0_ := cellL (St.start w).bel ct0
  have ct1_ := cellL (St.start w).bel ct1
  clear ct0_ ct1_
  have ct0_ := cellL (St.start w).bel ct0
  have ct1_ := cellL (St.start w).bel ct1
  have cx0_ := cellL (St.start w).bel cx0
  clear ct0_ ct1_ cx0_
  have ct0_ := cellL (St.start w).bel ct0
  have ct1_ := cellL (St.start w).bel ct1
  have cx0_ := cellL (St.start w).bel cx0
  have cx1_ := cellL (St.start w).bel cx1
  go_enter Tryz.func79, Tryz.ntmps79
  go_wp2_with fail
  refine (l01Template_c (size, rs) _ _ _ _ (Rd.mono HT.out (St.start w).bel) (cellL (St.start w).bel ct0) (cellL (St.start w).bel ct1)).mono ?_
  rintro e w17 ⟨rfl, hbw17⟩
  have hz_w17 : w.heap.size ≤ w17.heap.size := by have h9 := hbw17.size; (try simp at h9); omega
  have hs18 := (St.start w).step hbw17
  clear ct0_ ct1_ cx0_ cx1_
  have ct0_ := cellL hs18.bel ct0
  have ct1_ := cellL hs18.bel ct1
  have cx0_ := cellL hs18.bel cx0
  have cx1_ := cellL hs18.bel cx1
  cases h1 : tmplOk (size, rs) with
  | false =>
    have H1 := Lib.hid (show instOk (size, rs) (vars, l) = false by unfold instOk; rw [h1]; rfl)
    clear h1
    go_wp2_with fail
    go_ret
    exact ⟨ret_bool H1.out.symm, hs18.bel⟩
  | true =>
    have H1 := Lib.hid h1
    have hrl := (tmplOk_get h1).2.1
    simp only at hrl
    clear h1
    go_wp2_with fail
    refine (l00In_c vars 1 10 _).mono ?_
    rintro e w19 ⟨rfl, rfl, rfl⟩
    cases h2 : inB vars 1 10 with
    | false =>
      have H2 := Lib.hid (show instOk (size, rs) (vars, l) = false by unfold instOk; simp only [h2, Bool.and_false, Bool.false_and])
      clear h2
      go_wp2_with fail
      go_ret
      exact ⟨ret_bool H2.out.symm, hs18.bel⟩
    | true =>
      have H2 := Lib.hid h2
      have hv := inB_true h2
      clear h2
      by_cases hl : l.length ≤ 24
      · have H3 := Lib.hid (show instOk (size, rs) (vars, l) = l.all (conOk (size, rs) vars) by unfold instOk; simp only [H1.out, H2.out, decide_eq_true hl, Bool.true_and])
        have ew : IntKind.i64.wrap ((rs.length : Int) - 1) = (rs.length : Int) - 1 := i64_in _ (by omega)
        go_wp2_with fail
        go_loopw [5] (fun i wl => ∃ k : Nat, k ≤ l.length ∧ i = .int .i64 k ∧ Hid (Below (w17).heap.size (w17) wl) ∧ Hid (∀ j (hj : j < l.length), j < k → conOk (size, rs) vars l[j] = true)) (fun i _ => l.length - (intOf i).toNat)
        case atStart => exact ⟨0, Nat.zero_le _, rfl, Below.refl _ _, fun j _ hj => absurd hj (Nat.not_lt_zero _)⟩
        case round =>
          obtain ⟨k, hk, rfl, hbl, hr⟩ := hrel
          have hbl2 := hbl.out
          have hz_wr : w17.heap.size ≤ wr.heap.size := by have h9 := hbl2.size; (try simp at h9); omega
          have hs20 := hs18.step hbl2
          clear ct0_ ct1_ cx0_ cx1_
          have ct0_ := cellL hs20.bel ct0
          have ct1_ := cellL hs20.bel ct1
          have cx0_ := cellL hs20.bel cx0
          have cx1_ := cellL hs20.bel cx1
          have HBL := Lib.hid hbl2
          clear hbl2 hbl
          by_cases hlt : k < l.length
          · obtain ⟨b, o, u0, u1, rfl, q0, q1, hy⟩ := rdSl_two rfl HLR.out k hlt
            have hyz := rd_cons rfl hy
            obtain ⟨rfl, hIc⟩ := rd_i1 hyz.1
            have HSC := Lib.hid hyz.2
            obtain ⟨a2, c2, rfl, _⟩ := rd_list hyz.2
            clear hy hyz
            have HK := Lib.hid (show ∀ B, conOk (size, rs) vars l[k] = B → (B = false → instOk (size, rs) (vars, l) = false) by
              intro B e hB
              rw [H3.out]
              exact List.all_eq_false.2 ⟨_, List.getElem_mem hlt, by rw [e, hB]; decide⟩)
            have hkl : (k : Int) < l.length := by omega
            generalize hlk : l[k] = LK at *
            obtain ⟨ci, sc⟩ := LK
            simp only at *
            have HLK := Lib.hid hlk
            clear hlk
            clear ct0_ ct1_ cx0_ cx1_
            have ct0_ := cellL hs20.bel ct0
            have ct1_ := cellL hs20.bel ct1
            have cx0_ := cellL hs20.bel cx0
            have cx1_ := cellL hs20.bel cx1
            have q0_ := cellL hs20.bel q0
            clear ct0_ ct1_ cx0_ cx1_ q0_
            have ct0_ := cellL hs20.bel ct0
            have ct1_ := cellL hs20.bel ct1
            have cx0_ := cellL hs20.bel cx0
            have cx1_ := cellL hs20.bel cx1
            have q0_ := cellL hs20.bel q0
            have q1_ := cellL hs20.bel q1
            clear ct0_ ct1_ cx0_ cx1_ q0_ q1_
            have ct0_ := cellL hs20.bel ct0
            have ct1_ := cellL hs20.bel ct1
            have cx0_ := cellL hs20.bel cx0
            have cx1_ := cellL hs20.bel cx1
            have q0_ := cellL hs20.bel q0
            have q1_ := cellL hs20.bel q1
            cases h1 : inB ci 0 (rs.length - 1) with
            | false =>
              have HF := Lib.hid (HK.out false (conOk_rel h1) rfl)
              go_upto_region 7 with fail
              refine wp_region_noPanic (wp_region_tree4 (fun w' => w'.cell? ⟨tb, 0, none⟩ = some (.int .i64 size) ∧ w'.cell? ⟨tb, 1, none⟩ = some (.slice at0 rs.length cc0) ∧ w'.cell? ⟨xb, 0, none⟩ = some (.int .i64 vars) ∧ w'.cell? ⟨xb, 1, none⟩ = some (.slice (some ⟨b, o, none⟩) l.length c) ∧ w'.cell? ⟨b, o + k * 2, none⟩ = some (.int .i64 ci) ∧ w'.cell? ⟨b, o + k * 2 + 1, none⟩ = some (.slice a2 sc.length c2)) (.float 0 (.float 1 (.float 2 (.float 3 (.float 4 (.float 5 (.float 6 (.float 7 (.float 8 (.float 9 (.hard 10 (.float 11 (.float 12 (.float 13 (.float 14 (.float 15 (.float 16 (.float 17 (.float 18 (.float 19 (.float 20 (.float 21 (.float 22 (.float 23 (.float 24 (.float 25 (.float 26 (.float 27 (.float 28 (.float 29 (.float 30 (.float 31 (.float 32 (.float 33 (.float 34 (.float 35 (.float 36 (.float 37 (.float 38 (.float 39 (.hard 40 (.float 41 (.float 42 .nil))))))))))))))))))))))))))))))))))))))))))) (by kernel_rfl) (by kernel_rfl) (by kernel_rfl) rfl ?_ (fun _ _ _ _ _ h => h) ?_)
              · exact ⟨cellL (hs20.drew).bel ct0, cellL (hs20.drew).bel ct1, cellL (hs20.drew).bel cx0, cellL (hs20.drew).bel cx1, cellL (hs20.drew).bel q0, cellL (hs20.drew).bel q1⟩
              have hs21 := hs20.drew
              have HBL_22 := Lib.hid (HBL.out.trans (((belowD _)).mono HBL.out.size))
              clear HBL
              clear ct0_ ct1_ cx0_ cx1_ q0_ q1_
              have hz_wd23 : wr.heap.size ≤ (wr.drew).heap.size := by simp
              generalize hgen_wd23 : wr.drew = wd23 at *
              have HG_wd23 := Lib.hid hgen_wd23
              clear hgen_wd23
              (repeat (first | (apply t4_skip rfl (by rfl); try simp only [Act.put, sI, sZ, sS]) | (apply t4_float rfl (by rfl); (· (intro w' hS; go_simp <;> with_reducible rfl)); (try simp only [Act.put, sI, sZ, sS]))))
              refine t4_hard rfl (by rfl) (fun K hK => ?_)
              go_wp2_with (go_at_call 137; refine (l00In_c ci 0 (rs.length - 1) _).mono ?_; rintro e w24 ⟨rfl, rfl, rfl⟩)
              refine ⟨⟨cellL hs21.bel ct0, cellL hs21.bel ct1, cellL hs21.bel cx0, cellL hs21.bel cx1, cellL hs21.bel q0, cellL hs21.bel q1⟩, ?_⟩
              (repeat (first | (apply t4_skip rfl (by rfl); try simp only [Act.put, sI, sZ, sS]) | (apply t4_float rfl (by rfl); (· (intro w' hS; go_simp <;> with_reducible rfl)); (try simp only [Act.put, sI, sZ, sS]))))
              refine t4_hskip rfl (by rfl) ?_ ?_
              · exact ⟨cellL hs21.bel ct0, cellL hs21.bel ct1, cellL hs21.bel cx0, cellL hs21.bel cx1, cellL hs21.bel q0, cellL hs21.bel q1⟩
              (try simp only [Act.put, sI, sZ, sS])
              (repeat (first | (apply t4_skip rfl (by rfl); try simp only [Act.put, sI, sZ, sS]) | (apply t4_float rfl (by rfl); (· (intro w' hS; go_simp <;> with_reducible rfl)); (try simp only [Act.put, sI, sZ, sS]))))
              have ct0_ := cellL hs21.bel ct0
              have ct1_ := cellL hs21.bel ct1
              have cx0_ := cellL hs21.bel cx0
              have cx1_ := cellL hs21.bel cx1
              have q0_ := cellL hs21.bel q0
              have q1_ := cellL hs21.bel q1
              refine t4_nil (NoPanic.normal ?_)
              go_wp2_with fail
              go_ret
              exact ⟨ret_bool HF.out.symm, hs21.bel⟩
            | true =>
              have h2 := inB_true h1
              obtain ⟨j, rfl⟩ : ∃ j : Nat, ci = j := ⟨ci.toNat, by omega⟩
              have hj : j < rs.length := by omega
              obtain ⟨b3, o3, y0, y1, rfl, r0, r1, hy⟩ := rd_two_at rfl HTR.out j hj
              have hyz := rd_cons rfl hy
              obtain ⟨rfl, _⟩ := rd_i1 hyz.1
              have HV := Lib.hid (conOk_vals (size := size) (vars := vars) (sc := sc) hj)
              clear hy hyz
              generalize rs[j].1 = AR at *
              have hjl : (j : Int) < rs.length := by omega
              clear ct0_ ct1_ cx0_ cx1_ q0_ q1_
              have ct0_ := cellL hs20.bel ct0
              have ct1_ := cellL hs20.bel ct1
              have cx0_ := cellL hs20.bel cx0
              have cx1_ := cellL hs20.bel cx1
              have q0_ := cellL hs20.bel q0
              have q1_ := cellL hs20.bel q1
              have r0_ := cellL hs20.bel r0
              clear ct0_ ct1_ cx0_ cx1_ q0_ q1_ r0_
              have ct0_ := cellL hs20.bel ct0
              have ct1_ := cellL hs20.bel ct1
              have cx0_ := cellL hs20.bel cx0
              have cx1_ := cellL hs20.bel cx1
              have q0_ := cellL hs20.bel q0
              have q1_ := cellL hs20.bel q1
              have r0_ := cellL hs20.bel r0
              by_cases h4 : (sc.length : Int) = AR
              · have h5 : ((sc.length : Int) != AR) = false := by simp [h4]
                have HV2 := Lib.hid (show conOk (size, rs) vars ((j : Int), sc) = sc.all (fun a => inB a 0 (vars - 1)) by rw [HV.out]; unfold valsOk; rw [decide_eq_true h4]; rfl)
                clear h4
                go_upto_region 7 with fail
                refine wp_region_noPanic (wp_region_tree4 (fun w' => w'.cell? ⟨tb, 0, none⟩ = some (.int .i64 size) ∧ w'.cell? ⟨tb, 1, none⟩ = some (.slice (some ⟨b3, o3, none⟩) rs.length cc0) ∧ w'.cell? ⟨xb, 0, none⟩ = some (.int .i64 vars) ∧ w'.cell? ⟨xb, 1, none⟩ = some (.slice (some ⟨b, o, none⟩) l.length c) ∧ w'.cell? ⟨b, o + k * 2, none⟩ = some (.int .i64 (j : Int)) ∧ w'.cell? ⟨b, o + k * 2 + 1, none⟩ = some (.slice a2 sc.length c2) ∧ w'.cell? ⟨b3, o3 + j * 2, none⟩ = some (.int .i64 AR)) (.float 0 (.float 1 (.float 2 (.float 3 (.float 4 (.float 5 (.float 6 (.float 7 (.float 8 (.float 9 (.hard 10 (.float 11 (.float 12 (.float 13 (.float 14 (.float 15 (.float 16 (.float 17 (.float 18 (.float 19 (.float 20 (.float 21 (.float 22 (.float 23 (.float 24 (.float 25 (.float 26 (.float 27 (.float 28 (.float 29 (.float 30 (.float 31 (.float 32 (.float 33 (.float 34 (.float 35 (.float 36 (.float 37 (.float 38 (.float 39 (.hard 40 (.float 41 (.float 42 .nil))))))))))))))))))))))))))))))))))))))))))) (by kernel_rfl) (by kernel_rfl) (by kernel_rfl) rfl ?_ (fun _ _ _ _ _ h => h) ?_)
                · exact ⟨cellL (hs20.drew).bel ct0, cellL (hs20.drew).bel ct1, cellL (hs20.drew).bel cx0, cellL (hs20.drew).bel cx1, cellL (hs20.drew).bel q0, cellL (hs20.drew).bel q1, cellL (hs20.drew).bel r0⟩
                have hs25 := hs20.drew
                have HBL_26 := Lib.hid (HBL.out.trans (((belowD _)).mono HBL.out.size))
                clear HBL
                clear ct0_ ct1_ cx0_ cx1_ q0_ q1_ r0_
                have hz_wd27 : wr.heap.size ≤ (wr.drew).heap.size := by simp
                generalize hgen_wd27 : wr.drew = wd27 at *
                have HG_wd27 := Lib.hid hgen_wd27
                clear hgen_wd27
                (repeat (first | (apply t4_skip rfl (by rfl); try simp only [Act.put, sI, sZ, sS]) | (apply t4_float rfl (by rfl); (· (intro w' hS; go_simp <;> with_reducible rfl)); (try simp only [Act.put, sI, sZ, sS]))))
                refine t4_hard rfl (by rfl) (fun K hK => ?_)
                go_wp2_with (go_at_call 137; refine (l00In_c j 0 (rs.length - 1) _).mono ?_; rintro e w28 ⟨rfl, rfl, rfl⟩)
                refine ⟨⟨cellL hs25.bel ct0, cellL hs25.bel ct1, cellL hs25.bel cx0, cellL hs25.bel cx1, cellL hs25.bel q0, cellL hs25.bel q1, cellL hs25.bel r0⟩, ?_⟩
                (repeat (first | (apply t4_skip rfl (by rfl); try simp only [Act.put, sI, sZ, sS]) | (apply t4_float rfl (by rfl); (· (intro w' hS; go_simp <;> with_reducible rfl)); (try simp only [Act.put, sI, sZ, sS]))))
                refine t4_hard rfl (by rfl) (fun K hK => ?_)
                go_wp2_with (go_at_call 138; refine (l01Places_c vars sc _ _ (Rd.mono HSC.out hs25.bel) (by omega) (by omega)).mono ?_; rintro e w29 ⟨rfl, rfl, rfl⟩)
                refine ⟨⟨cellL hs25.bel ct0, cellL hs25.bel ct1, cellL hs25.bel cx0, cellL hs25.bel cx1, cellL hs25.bel q0, cellL hs25.bel q1, cellL hs25.bel r0⟩, ?_⟩
                (repeat (first | (apply t4_skip rfl (by rfl); try simp only [Act.put, sI, sZ, sS]) | (apply t4_float rfl (by rfl); (· (intro w' hS; go_simp <;> with_reducible rfl)); (try simp only [Act.put, sI, sZ, sS]))))
                have ct0_ := cellL hs25.bel ct0
                have ct1_ := cellL hs25.bel ct1
                have cx0_ := cellL hs25.bel cx0
                have cx1_ := cellL hs25.bel cx1
                have q0_ := cellL hs25.bel q0
                have q1_ := cellL hs25.bel q1
                have r0_ := cellL hs25.bel r0
                refine t4_nil (NoPanic.normal ?_)
                cases h6 : sc.all (fun a => inB a 0 (vars - 1)) with
                | false =>
                  have HF := Lib.hid (HK.out false (by rw [HV2.out, h6]) rfl)
                  clear h6
                  go_wp2_with fail
                  go_ret
                  exact ⟨ret_bool HF.out.symm, hs25.bel⟩
                | true =>
                  have HT6 := Lib.hid (HV2.out.trans h6)
                  clear h6
                  go_wp2_with fail
                  go_roundw
                  case rel =>
                    refine ⟨k + 1, by omega, by go_num, HBL_26.out, fun i hi hik => ?_⟩
                    rcases Nat.lt_or_ge i k with h | h
                    · exact hr.out i hi h
                    · obtain rfl : i = k := by omega
                      rw [HLK.out]; exact HT6.out
                  case measure => simp [intOf]; omega
              · have h5 : ((sc.length : Int) != AR) = true := by simp [h4]
                have HF := Lib.hid (HK.out false (by rw [HV.out]; unfold valsOk; rw [decide_eq_false h4]; rfl) rfl)
                clear h4
                go_upto_region 7 with fail
                refine wp_region_noPanic (wp_region_tree4 (fun w' => w'.cell? ⟨tb, 0, none⟩ = some (.int .i64 size) ∧ w'.cell? ⟨tb, 1, none⟩ = some (.slice (some ⟨b3, o3, none⟩) rs.length cc0) ∧ w'.cell? ⟨xb, 0, none⟩ = some (.int .i64 vars) ∧ w'.cell? ⟨xb, 1, none⟩ = some (.slice (some ⟨b, o, none⟩) l.length c) ∧ w'.cell? ⟨b, o + k * 2, none⟩ = some (.int .i64 (j : Int)) ∧ w'.cell? ⟨b, o + k * 2 + 1, none⟩ = some (.slice a2 sc.length c2) ∧ w'.cell? ⟨b3, o3 + j * 2, none⟩ = some (.int .i64 AR)) (.float 0 (.float 1 (.float 2 (.float 3 (.float 4 (.float 5 (.float 6 (.float 7 (.float 8 (.float 9 (.hard 10 (.float 11 (.float 12 (.float 13 (.float 14 (.float 15 (.float 16 (.float 17 (.float 18 (.float 19 (.float 20 (.float 21 (.float 22 (.float 23 (.float 24 (.float 25 (.float 26 (.float 27 (.float 28 (.float 29 (.float 30 (.float 31 (.float 32 (.float 33 (.float 34 (.float 35 (.float 36 (.float 37 (.float 38 (.float 39 (.hard 40 (.float 41 (.float 42 .nil))))))))))))))))))))))))))))))))))))))))))) (by kernel_rfl) (by kernel_rfl) (by kernel_rfl) rfl ?_ (fun _ _ _ _ _ h => h) ?_)
                · exact ⟨cellL (hs20.drew).bel ct0, cellL (hs20.drew).bel ct1, cellL (hs20.drew).bel cx0, cellL (hs20.drew).bel cx1, cellL (hs20.drew).bel q0, cellL (hs20.drew).bel q1, cellL (hs20.drew).bel r0⟩
                have hs30 := hs20.drew
                have HBL_31 := Lib.hid (HBL.out.trans (((belowD _)).mono HBL.out.size))
                clear HBL
                clear ct0_ ct1_ cx0_ cx1_ q0_ q1_ r0_
                have hz_wd32 : wr.heap.size ≤ (wr.drew).heap.size := by simp
                generalize hgen_wd32 : wr.drew = wd32 at *
                have HG_wd32 := Lib.hid hgen_wd32
                clear hgen_wd32
                (repeat (first | (apply t4_skip rfl (by rfl); try simp only [Act.put, sI, sZ, sS]) | (apply t4_float rfl (by rfl); (· (intro w' hS; go_simp <;> with_reducible rfl)); (try simp only [Act.put, sI, sZ, sS]))))
                refine t4_hard rfl (by rfl) (fun K hK => ?_)
                go_wp2_with (go_at_call 137; refine (l00In_c j 0 (rs.length - 1) _).mono ?_; rintro e w33 ⟨rfl, rfl, rfl⟩)
                refine ⟨⟨cellL hs30.bel ct0, cellL hs30.bel ct1, cellL hs30.bel cx0, cellL hs30.bel cx1, cellL hs30.bel q0, cellL hs30.bel q1, cellL hs30.bel r0⟩, ?_⟩
                (repeat (first | (apply t4_skip rfl (by rfl); try simp only [Act.put, sI, sZ, sS]) | (apply t4_float rfl (by rfl); (· (intro w' hS; go_simp <;> with_reducible rfl)); (try simp only [Act.put, sI, sZ, sS]))))
                refine t4_hskip rfl (by rfl) ?_ ?_
                · exact ⟨cellL hs30.bel ct0, cellL hs30.bel ct1, cellL hs30.bel cx0, cellL hs30.bel cx1, cellL hs30.bel q0, cellL hs30.bel q1, cellL hs30.bel r0⟩
                (try simp only [Act.put, sI, sZ, sS])
                (repeat (first | (apply t4_skip rfl (by rfl); try simp only [Act.put, sI, sZ, sS]) | (apply t4_float rfl (by rfl); (· (intro w' hS; go_simp <;> with_reducible rfl)); (try simp only [Act.put, sI, sZ, sS]))))
                have ct0_ := cellL hs30.bel ct0
                have ct1_ := cellL hs30.bel ct1
                have cx0_ := cellL hs30.bel cx0
                have cx1_ := cellL hs30.bel cx1
                have q0_ := cellL hs30.bel q0
                have q1_ := cellL hs30.bel q1
                have r0_ := cellL hs30.bel r0
                refine t4_nil (NoPanic.normal ?_)
                go_wp2_with fail
                go_ret
                exact ⟨ret_bool HF.out.symm, hs30.bel⟩
          · obtain rfl : k = l.length := by omega
            have HA := Lib.hid (show l.all (conOk (size, rs) vars) = true by
              rw [List.all_eq_true]
              intro y hy
              obtain ⟨j, hj, rfl⟩ := List.getElem_of_mem hy
              exact hr.out j hj hj)
            have hkl : ¬ ((l.length : Int) < l.length) := by omega
            go_wp2_with fail
            go_ret
            exact ⟨ret_bool (by rw [H3.out, HA.out]), hs20.bel⟩
      · have HLL := Lib.hid hl
        go_wp2_with fail
        go_ret
        exact ⟨ret_bool (by simp only [instOk, decide_eq_false HLL.out, Bool.and_false, Bool.false_and]), hs18.bel⟩
end Go.Proofs.YtoblfnoaepbhfaaGreat
namespace Go.Proofs.YtoblfnoaepbhfaaGreat
open Go.RowKit Go.Shelf Go.IntWalk
open Rep (Rd Own sz)
end Go.Proofs.YtoblfnoaepbhfaaGreat
namespace Go.Proofs.YtoblfnoaepbhfaaGreat
open Go.RowKit Go.Shelf
open Rep (Rd Own sz)
end Go.Proofs.YtoblfnoaepbhfaaGreat
namespace Go.Proofs.YtoblfnoaepbhfaaGreat
open Go.RowKit
open Rep (Rd Own sz)
end Go.Proofs.YtoblfnoaepbhfaaGreat
namespace Go.Proofs.YtoblfnoaepbhfaaGreat
open Go.RowKit Go.Shelf Go.IntWalk
open Rep (Rd Own sz)
end Go.Proofs.YtoblfnoaepbhfaaGreat

