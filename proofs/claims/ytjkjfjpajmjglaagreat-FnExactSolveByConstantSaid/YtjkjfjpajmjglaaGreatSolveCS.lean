/-
  CONTRACTS: SolveByConstant, the reference's side. (Printed by wip/gensolve.py.)
-/
import Derived.Test.YtjkjfjpajmjglaaGreatSolveC
namespace Go.Proofs.YtjkjfjpajmjglaaGreat
open Go.RowKit Go.Shelf Go.IntWalk
open Rep (Rd Own sz)
set_option linter.unusedSimpArgs false
set_option linter.unusedVariables false

set_option maxRecDepth 100000 in
set_option maxHeartbeats 4000000 in
theorem constantOp_c (size a : Int) (w : World) (hs : 1 ≤ size ∧ size ≤ 4) (ha : 0 ≤ a ∧ a ≤ size - 1) : Calls Tryz.prog 77 #[.int .i64 size, .int .i64 1, .int .i64 a] w fun e w' => ∃ v, e = .returned (.tuple #[.agg #[.int .i64 1, v], .int .i64 0]) ∧ Fresh w.heap.size w' [v] (constOp size a).2 ∧ Below w.heap.size w w' := by
  obtain ⟨N, rfl⟩ : ∃ N : Nat, size = (N : Int) := ⟨size.toNat, by omega⟩
  have HC := Lib.hid (show (constOp (N : Int) a).2 = List.replicate N a by simp [constOp])
  rw [HC.out]
  have hI : I64 a := i64_of _ (by omega) (by omega)
  have HI := Lib.hid hI
  have H1 := inB_mk hs
  have H2 : inB 1 1 3 = true := by decide
  have H3 := inB_mk ha
  have ew : IntKind.i64.wrap ((N : Int) - 1) = (N : Int) - 1 := i64_in _ (by omega)
  clear hI HC
  have hs1 := (St.start w).alloc #[.int .i64 0, .slice none 0 0] 124 (n := w.heap.size) (by simp)
  have k0_0 := hs1.cellAt 0 rfl 0 rfl
  have k0_1 := hs1.cellAt 0 rfl 1 rfl
  go_enter Tryz.func77, Tryz.ntmps77
  go_wp2_with fail
  refine (l01Size_c (N : Int) _).mono ?_
  rintro e wa ⟨rfl, rfl⟩
  rw [H1]
  go_wp2_with fail
  refine (l02Arity_c 1 _).mono ?_
  rintro e wa ⟨rfl, rfl⟩
  rw [H2]
  go_wp2_with fail
  refine (l00In_c a 0 ((N : Int) - 1) _).mono ?_
  rintro e wa ⟨rfl, rfl⟩
  rw [H3]
  have hs2 := hs1.alloc #[.int .i64 1, .slice none 0 0] 124 (n := w.heap.size + 1) (by simp)
  clear k0_0 k0_1
  have k0_0 := hs2.cellAt 0 rfl 0 rfl
  have k0_1 := hs2.cellAt 0 rfl 1 rfl
  have k1_0 := hs2.cellAt 1 rfl 0 rfl
  have k1_1 := hs2.cellAt 1 rfl 1 rfl
  go_wp2_with fail
  refine (l01Power_c (N : Int) 1 _ (by omega) (by omega) (by omega) (by rw [pow_one0]; omega)).mono ?_
  rintro e wa ⟨rfl, rfl⟩
  rw [pow_one0]
  obtain ⟨wq, hwq⟩ : ∃ x, x = ((w.alloc (.cells #[.int .i64 0, .slice none 0 0] 124)).alloc (.cells #[.int .i64 1, .slice none 0 0] 124)) := ⟨_, rfl⟩
  have HWQ := Lib.hid (show wq.heap.size = w.heap.size + 1 + 1 by rw [hwq]; simp)
  have HBQ := Lib.hid (show Below w.heap.size w wq by rw [hwq]; exact hs2.bel)
  have HR := Lib.hid (show wq.heap[w.heap.size]? = some (.cells #[.int .i64 0, .slice none 0 0] 124 (0, 0)) by rw [hwq]; exact (hs2.box (w.heap.size, #[.int .i64 0, .slice none 0 0], 124) (by simp)).2.2)
  have HF := Lib.hid (show wq.heap[w.heap.size + 1]? = some (.cells #[.int .i64 1, .slice none 0 0] 124 (0, 0)) by rw [hwq]; exact (hs2.box (w.heap.size + 1, #[.int .i64 1, .slice none 0 0], 124) (by simp)).2.2)
  rw [← hwq]
  clear hwq
  go_wp2_with fail
  go_loopw [9] (fun i wr => ∃ (k j c : Nat) (ao : Option Addr), i = .int .i64 j ∧ Hid (k + j = N) ∧ Hid (Below w.heap.size w wr) ∧ Hid (w.heap.size + 2 ≤ wr.heap.size) ∧ Hid (wr.heap[w.heap.size]? = some (.cells #[.int .i64 0, .slice none 0 0] 124 (0, 0))) ∧ Hid (wr.heap[w.heap.size + 1]? = some (.cells #[.int .i64 1, .slice ao k c] 124 (0, 0))) ∧
      Hid (Acc (w.heap.size + 2) wr.heap.size 2 wr (.slice ao k c) (List.replicate k a))) (fun i _ => (intOf i).toNat)
  case atStart => exact ⟨0, N, 0, none, rfl, by simp [Hid], HBQ.out, (by have := HWQ.out; simp [Hid]; omega), HR.out, HF.out, Acc.nil (α := Int) _ _ _ _⟩
  case round =>
    clear HR HF HBQ HWQ
    obtain ⟨k, j, c, ao, rfl, hkj, hbl, hsz, hres, hbox, hacc⟩ := hrel
    have hc0 : wr.cell? ⟨w.heap.size + 1, 0, none⟩ = some (.int .i64 1) := by rw [cell_at_block hbox.out]; rfl
    have hc1 : wr.cell? ⟨w.heap.size + 1, 1, none⟩ = some (.slice ao k c) := by rw [cell_at_block hbox.out]; rfl
    have hf1 : wr.frozen? ⟨w.heap.size + 1, 1, none⟩ = false := free_at_block hbox.out
    by_cases hj : 0 < j
    · obtain ⟨j', rfl⟩ : ∃ j', j = j' + 1 := ⟨j - 1, by omega⟩
      have hjI : (0 : Int) < ((j' : Int) + 1) := by omega
      have hkN : k ≤ 4 := by have := hkj.out; omega
      have hj4 : j' ≤ 4 := by have := hkj.out; omega
      have hBH := hsz.out
      go_wp2_with (at_builtin; go_loud (refine wpList_append_ints _ rfl _ _ _ rfl E_ints rfl (Acc.mono hacc.out (belowA _ (.cells #[.int .i64 a] 2))) hBH (by simp) ⟨wr.heap.size, 0, none⟩ 1 rfl (ns := [a]) (news1 (cell_at_block (heap_alloc_new _ _))) (fun b hb => by simp at hb; subst hb; exact HI.out) (by simp; omega) ?_); simp only [List.length_replicate, List.length_cons, List.length_nil, Nat.zero_add]; intro a9 c9 w9 hA9 hB9 hK9; have hk9 : ∀ b, b < w.heap.size + 2 → w9.heap[b]? = wr.heap[b]? := (fun b hb => by rw [hB9.block b hb, Below.heap_alloc _ _ _ (by omega)]); have hbx9 := (hk9 (w.heap.size + 1) (by omega)).trans hbox.out; have hf9 : w9.frozen? ⟨w.heap.size + 1, 1, none⟩ = false := free_at_block hbx9; have hc9 : w9.cell? ⟨w.heap.size + 1, 1, none⟩ = some (.slice ao k c) := (cell_at_block hbx9).trans rfl)
      have hs9 := hB9.size
      have HBW := Lib.hid (show Below w.heap.size w w9 from (hbl.out.trans ((belowA wr (.cells #[.int .i64 a] 2)).mono hbl.out.size)).trans (hB9.mono (by omega)))
      have HX := Lib.hid (And.intro (And.intro hA9 (hk9 w.heap.size (by omega))) hbx9)
      have hz9 : wr.heap.size + 1 ≤ w9.heap.size := by simpa using hs9
      clear hA9 hB9 hK9 hk9 hbx9
      go_wp2_with fail
      go_roundw
      case rel =>
        refine ⟨k + 1, j', c9, a9, by go_num, (by have := hkj.out; simp only [Hid]; omega), HBW.out.setCell (by simp) _, (by simp [Hid, World.setCell]; omega), ?_, ?_, ?_⟩
        · show (World.setCell _ _ _).heap[_]? = _
          rw [Below.heap_setCell _ _ _ _ (by simp)]
          exact HX.out.1.2.trans hres.out
        · exact heap_setCell_at w9 (w.heap.size + 1) 1 (.slice a9 (k + 1) c9) _ _ _ HX.out.2
        · have h6 := HX.out.1.1.setCell (a := ⟨w.heap.size + 1, 1, none⟩) (by simp) (.slice a9 (k + 1) c9)
          rw [← List.replicate_succ'] at h6
          exact h6.up (by simp [World.setCell])
      case measure => simp [intOf]
    · obtain rfl : j = 0 := by omega
      have hkN : k = N := by have := hkj.out; omega
      subst hkN
      have r0 : wr.cell? ⟨w.heap.size, 0, none⟩ = some (.int .i64 0) := by rw [cell_at_block hres.out]; rfl
      have r1 : wr.cell? ⟨w.heap.size, 1, none⟩ = some (.slice none 0 0) := by rw [cell_at_block hres.out]; rfl
      have f0 : wr.frozen? ⟨w.heap.size, 0, none⟩ = false := free_at_block hres.out
      have f1 : wr.frozen? ⟨w.heap.size, 1, none⟩ = false := free_at_block hres.out
      have HFR := Lib.hid (((hacc.out.setCell (a := ⟨w.heap.size, 0, none⟩) (by simp) (.int .i64 1)).setCell (a := ⟨w.heap.size, 1, none⟩) (by simp) (.slice ao k c)).fresh.lower (show w.heap.size ≤ w.heap.size + 2 by omega))
      have HBF := Lib.hid ((hbl.out.setCell (by simp) (.int .i64 1) (p := ⟨w.heap.size, 0, none⟩)).setCell (p := ⟨w.heap.size, 1, none⟩) (by simp) (.slice ao k c))
      go_wp2_with fail
      refine bodyPost_ret (v := .tuple #[.agg #[.int .i64 1, .slice ao k c], .int .i64 0]) (by simp [results, Tryz.results77, go_sem, r0, r1, f0, f1]) rfl ⟨_, rfl, HFR.out, HBF.out⟩
set_option maxRecDepth 100000 in
set_option maxHeartbeats 4000000 in
theorem l02First_c (t : Tmpl) (f : OpT) (tb fb : Nat) (t0 t1 f0 f1 : Value) (w : World) (ht : Rd w [t0, t1] t) (hf : Rd w [f0, f1] f) (hok : opOk t.1 f = true) (hrs : ∀ r, r ∈ t.2 → relOk t.1 r = true)
    (tc0 : w.cell? ⟨tb, 0, none⟩ = some t0) (tc1 : w.cell? ⟨tb, 1, none⟩ = some t1) (fc0 : w.cell? ⟨fb, 0, none⟩ = some f0) (fc1 : w.cell? ⟨fb, 1, none⟩ = some f1) :
    Calls Tryz.prog 78 #[.pointer (some ⟨tb, 0, none⟩), .pointer (some ⟨fb, 0, none⟩)] w fun e w' => e = .returned (.int .i64 (brokenF t f)) ∧ Below w.heap.size w w' := by
  obtain ⟨size, rs⟩ := t
  obtain ⟨fa, ft⟩ := f
  have zt := rd_cons rfl ht
  obtain ⟨rfl, _⟩ := rd_i1 zt.1
  obtain ⟨at0, ct0, rfl, hrr⟩ := rd_list zt.2
  have zf := rd_cons rfl hf
  obtain ⟨rfl, _⟩ := rd_i1 zf.1
  obtain ⟨af, cf, rfl, _⟩ := rd_list zf.2
  have hb0 := (rdSl_len hrr).2
  unfold maxLen at hb0
  have HRR := Lib.hid hrr
  have HF := Lib.hid hf
  have HOK := Lib.hid hok
  have HRS := Lib.hid hrs
  have HQ := Lib.hid (show brokenF (size, rs) (fa, ft) = firstI (fun r => !keepsP size (fa, ft) r) rs from rfl)
  clear ht hf zt zf hok hrs hrr
  have tc0_ := cellL (St.start w).bel tc0
  clear tc0_
  have tc0_ := cellL (St.start w).bel tc0
  have tc1_ := cellL (St.start w).bel tc1
  clear tc0_ tc1_
  have tc0_ := cellL (St.start w).bel tc0
  have tc1_ := cellL (St.start w).bel tc1
  have fc0_ := cellL (St.start w).bel fc0
  clear tc0_ tc1_ fc0_
  have tc0_ := cellL (St.start w).bel tc0
  have tc1_ := cellL (St.start w).bel tc1
  have fc0_ := cellL (St.start w).bel fc0
  have fc1_ := cellL (St.start w).bel fc1
  go_enter Tryz.func78, Tryz.ntmps78
  go_wp2_with fail
  go_loopw [5] (fun i wl => ∃ k : Nat, k ≤ rs.length ∧ i = .int .i64 k ∧ Hid (Below w.heap.size w wl) ∧ Hid (∀ j (hj : j < rs.length), j < k → (!keepsP size (fa, ft) rs[j]) = false)) (fun i _ => rs.length - (intOf i).toNat)
  case atStart => exact ⟨0, Nat.zero_le _, rfl, Below.refl _ _, fun j hj h => absurd h (Nat.not_lt_zero _)⟩
  case round =>
    obtain ⟨k, hk, rfl, hbl, hr⟩ := hrel
    have hs1 := (St.start w).step hbl.out
    have tc0_ := cellL hs1.bel tc0
    have tc1_ := cellL hs1.bel tc1
    have fc0_ := cellL hs1.bel fc0
    have fc1_ := cellL hs1.bel fc1
    have HB := hbl
    by_cases hlt : k < rs.length
    · have hkl : (k : Int) < rs.length := by omega
      obtain ⟨b, o, u0, u1, rfl, p0, p1, hy⟩ := rdSl_two rfl HRR.out k hlt
      have HY := Lib.hid hy
      have hyz := rd_cons rfl hy
      obtain ⟨rfl, _⟩ := rd_i1 hyz.1
      obtain ⟨a1, c1, rfl, _⟩ := rd_list hyz.2
      have HRK := Lib.hid (HRS.out _ (List.getElem_mem hlt))
      have HNX := Lib.hid (fun (h : (!keepsP size (fa, ft) rs[k]) = false) => show ∀ j (hj : j < rs.length), j < k + 1 → (!keepsP size (fa, ft) rs[j]) = false from fun j hj hjk => by
        rcases Nat.lt_or_ge j k with h1 | h1
        · exact hr.out j hj h1
        · obtain rfl : j = k := by omega
          exact h)
      have HYS := Lib.hid (fun (h : (!keepsP size (fa, ft) rs[k]) = true) => firstI_at (q := fun r => !keepsP size (fa, ft) r) hlt hr.out h)
      clear hy hyz
      generalize rs[k] = RK at *
      obtain ⟨ra, rt⟩ := RK
      simp only at p0 p1
      clear tc0_ tc1_ fc0_ fc1_
      have tc0_ := cellL hs1.bel tc0
      have tc1_ := cellL hs1.bel tc1
      have fc0_ := cellL hs1.bel fc0
      have fc1_ := cellL hs1.bel fc1
      have p0_ := cellL hs1.bel p0
      clear tc0_ tc1_ fc0_ fc1_ p0_
      have tc0_ := cellL hs1.bel tc0
      have tc1_ := cellL hs1.bel tc1
      have fc0_ := cellL hs1.bel fc0
      have fc1_ := cellL hs1.bel fc1
      have p0_ := cellL hs1.bel p0
      have p1_ := cellL hs1.bel p1
      clear tc0_ tc1_ fc0_ fc1_ p0_ p1_
      have tc0_ := cellL hs1.bel tc0
      have tc1_ := cellL hs1.bel tc1
      have fc0_ := cellL hs1.bel fc0
      have fc1_ := cellL hs1.bel fc1
      have p0_ := cellL hs1.bel p0
      have p1_ := cellL hs1.bel p1
      cases hh : keepsP size (fa, ft) (ra, rt) with
      | true =>
        have H9 := Lib.hid (HNX.out (by rw [hh]; rfl))
        have HE := Lib.hid hh
        clear hh
        go_upto_region 4 with fail
        refine wp_region_noPanic (wp_region_tree4 (fun w' => w'.cell? ⟨tb, 0, none⟩ = some (.int .i64 size) ∧ w'.cell? ⟨tb, 1, none⟩ = some (.slice (some ⟨b, o, none⟩) rs.length ct0) ∧ w'.cell? ⟨fb, 0, none⟩ = some (.int .i64 fa) ∧ w'.cell? ⟨fb, 1, none⟩ = some (.slice af ft.length cf) ∧ w'.cell? ⟨b, o + k * 2, none⟩ = some (.int .i64 ra) ∧ w'.cell? ⟨b, o + k * 2 + 1, none⟩ = some (.slice a1 rt.length c1)) (.float 0 (.float 1 (.float 2 (.float 3 (.float 4 (.float 5 (.float 6 (.float 7 (.float 8 (.float 9 (.float 10 (.hard 11 (.float 12 .nil))))))))))))) (by kernel_rfl) (by kernel_rfl) (by kernel_rfl) rfl ?_ (fun _ _ _ _ _ h => h) ?_)
        · exact ⟨cellL (hs1.drew).bel tc0, cellL (hs1.drew).bel tc1, cellL (hs1.drew).bel fc0, cellL (hs1.drew).bel fc1, cellL (hs1.drew).bel p0, cellL (hs1.drew).bel p1⟩
        have hs3 := hs1.drew
        have HB_4 := Lib.hid (HB.out.trans (((belowD _)).mono HB.out.size))
        clear HB
        clear tc0_ tc1_ fc0_ fc1_ p0_ p1_
        have hz_wd5 : wr.heap.size ≤ (wr.drew).heap.size := by simp
        generalize hgen_wd5 : wr.drew = wd5 at *
        have HG_wd5 := Lib.hid hgen_wd5
        clear hgen_wd5
        (repeat (first | (apply t4_skip rfl (by rfl); try simp only [Act.put, List.setIfInBounds_toArray, List.set_cons_zero, List.set_cons_succ]) | (apply t4_float rfl (by rfl); (· (intro w' hS; go_simp <;> with_reducible rfl)); (try simp only [Act.put, List.setIfInBounds_toArray, List.set_cons_zero, List.set_cons_succ]))))
        refine t4_hard rfl (by rfl) (fun K hK => ?_)
        go_wp2_with (go_at_call 140; refine (l02Keeps_c size (fa, ft) (ra, rt) fb 0 b (o + k * 2) _ _ _ _ _ (Rd.mono HF.out hs3.bel) (cellL hs3.bel fc0) (cellL hs3.bel fc1) (Rd.mono HY.out hs3.bel) (cellL hs3.bel p0) (cellL hs3.bel p1) HOK.out HRK.out).mono ?_; rintro e w6 ⟨rfl, hbw6⟩)
        have hz_w6 : wd5.heap.size ≤ w6.heap.size := by have h9 := hbw6.size; (try simp at h9); omega
        have hs7 := hs3.step hbw6
        have HB_8 := Lib.hid (HB_4.out.trans ((hbw6).mono HB_4.out.size))
        clear HB_4
        rw [HE.out]
        refine ⟨⟨cellL hs7.bel tc0, cellL hs7.bel tc1, cellL hs7.bel fc0, cellL hs7.bel fc1, cellL hs7.bel p0, cellL hs7.bel p1⟩, ?_⟩
        (repeat (first | (apply t4_skip rfl (by rfl); try simp only [Act.put, List.setIfInBounds_toArray, List.set_cons_zero, List.set_cons_succ]) | (apply t4_float rfl (by rfl); (· (intro w' hS; go_simp <;> with_reducible rfl)); (try simp only [Act.put, List.setIfInBounds_toArray, List.set_cons_zero, List.set_cons_succ]))))
        have tc0_ := cellL hs7.bel tc0
        have tc1_ := cellL hs7.bel tc1
        have fc0_ := cellL hs7.bel fc0
        have fc1_ := cellL hs7.bel fc1
        have p0_ := cellL hs7.bel p0
        have p1_ := cellL hs7.bel p1
        refine t4_nil (NoPanic.normal ?_)
        go_wp2_with fail
        go_roundw
        case rel => exact ⟨k + 1, by omega, by go_num, HB_8.out, H9.out⟩
        case measure => simp [intOf]; omega
      | false =>
        have H9 := Lib.hid (show brokenF (size, rs) (fa, ft) = (k : Int) by rw [HQ.out]; exact HYS.out (by rw [hh]; rfl))
        have HE := Lib.hid hh
        clear hh
        go_upto_region 4 with fail
        refine wp_region_noPanic (wp_region_tree4 (fun w' => w'.cell? ⟨tb, 0, none⟩ = some (.int .i64 size) ∧ w'.cell? ⟨tb, 1, none⟩ = some (.slice (some ⟨b, o, none⟩) rs.length ct0) ∧ w'.cell? ⟨fb, 0, none⟩ = some (.int .i64 fa) ∧ w'.cell? ⟨fb, 1, none⟩ = some (.slice af ft.length cf) ∧ w'.cell? ⟨b, o + k * 2, none⟩ = some (.int .i64 ra) ∧ w'.cell? ⟨b, o + k * 2 + 1, none⟩ = some (.slice a1 rt.length c1)) (.float 0 (.float 1 (.float 2 (.float 3 (.float 4 (.float 5 (.float 6 (.float 7 (.float 8 (.float 9 (.float 10 (.hard 11 (.float 12 .nil))))))))))))) (by kernel_rfl) (by kernel_rfl) (by kernel_rfl) rfl ?_ (fun _ _ _ _ _ h => h) ?_)
        · exact ⟨cellL (hs1.drew).bel tc0, cellL (hs1.drew).bel tc1, cellL (hs1.drew).bel fc0, cellL (hs1.drew).bel fc1, cellL (hs1.drew).bel p0, cellL (hs1.drew).bel p1⟩
        have hs9 := hs1.drew
        have HB_10 := Lib.hid (HB.out.trans (((belowD _)).mono HB.out.size))
        clear HB
        clear tc0_ tc1_ fc0_ fc1_ p0_ p1_
        have hz_wd11 : wr.heap.size ≤ (wr.drew).heap.size := by simp
        generalize hgen_wd11 : wr.drew = wd11 at *
        have HG_wd11 := Lib.hid hgen_wd11
        clear hgen_wd11
        (repeat (first | (apply t4_skip rfl (by rfl); try simp only [Act.put, List.setIfInBounds_toArray, List.set_cons_zero, List.set_cons_succ]) | (apply t4_float rfl (by rfl); (· (intro w' hS; go_simp <;> with_reducible rfl)); (try simp only [Act.put, List.setIfInBounds_toArray, List.set_cons_zero, List.set_cons_succ]))))
        refine t4_hard rfl (by rfl) (fun K hK => ?_)
        go_wp2_with (go_at_call 140; refine (l02Keeps_c size (fa, ft) (ra, rt) fb 0 b (o + k * 2) _ _ _ _ _ (Rd.mono HF.out hs9.bel) (cellL hs9.bel fc0) (cellL hs9.bel fc1) (Rd.mono HY.out hs9.bel) (cellL hs9.bel p0) (cellL hs9.bel p1) HOK.out HRK.out).mono ?_; rintro e w12 ⟨rfl, hbw12⟩)
        have hz_w12 : wd11.heap.size ≤ w12.heap.size := by have h9 := hbw12.size; (try simp at h9); omega
        have hs13 := hs9.step hbw12
        have HB_14 := Lib.hid (HB_10.out.trans ((hbw12).mono HB_10.out.size))
        clear HB_10
        rw [HE.out]
        refine ⟨⟨cellL hs13.bel tc0, cellL hs13.bel tc1, cellL hs13.bel fc0, cellL hs13.bel fc1, cellL hs13.bel p0, cellL hs13.bel p1⟩, ?_⟩
        (repeat (first | (apply t4_skip rfl (by rfl); try simp only [Act.put, List.setIfInBounds_toArray, List.set_cons_zero, List.set_cons_succ]) | (apply t4_float rfl (by rfl); (· (intro w' hS; go_simp <;> with_reducible rfl)); (try simp only [Act.put, List.setIfInBounds_toArray, List.set_cons_zero, List.set_cons_succ]))))
        have tc0_ := cellL hs13.bel tc0
        have tc1_ := cellL hs13.bel tc1
        have fc0_ := cellL hs13.bel fc0
        have fc1_ := cellL hs13.bel fc1
        have p0_ := cellL hs13.bel p0
        have p1_ := cellL hs13.bel p1
        refine t4_nil (NoPanic.normal ?_)
        go_wp2_with fail
        go_ret
        exact ⟨ret_int H9.out.symm, hs13.bel⟩
    · obtain rfl : k = rs.length := by omega
      have hnl : ¬ ((rs.length : Int) < rs.length) := by omega
      have H9 := Lib.hid (show brokenF (size, rs) (fa, ft) = -1 by rw [HQ.out]; exact firstI_no hr.out)
      have HBF := Lib.hid HB.out
      go_wp2_with fail
      go_ret
      exact ⟨ret_int H9.out.symm, HBF.out⟩
set_option maxRecDepth 100000 in
set_option maxHeartbeats 8000000 in
theorem sSolveByConstant_c (t : Tmpl) (t0 t1 : Value) (x : Inst) (x0 x1 : Value) (a : Int) (w : World) (ht : Rd w [t0, t1] t) (hx : Rd w [x0, x1] x) (hI : I64 a) :
    Calls Tryz.prog 30 #[.agg #[t0, t1], .agg #[x0, x1], .int .i64 a] w fun e w' => ∃ u0 u1 u2 u3 u4, e = .returned (.tuple #[.agg #[u0, u1, u2, u3, u4], .int .i64 (solveConstF t x a).2]) ∧ Fresh w.heap.size w' [u0, u1, u2, u3, u4] (solveConstF t x a).1 ∧ Below w.heap.size w w' := by
  obtain ⟨size, rs⟩ := t
  obtain ⟨vars, cs⟩ := x
  have HT := Lib.hid ht
  have HX := Lib.hid hx
  have HI := Lib.hid hI
  have zt := rd_cons rfl ht
  obtain ⟨rfl, _⟩ := rd_i1 zt.1
  obtain ⟨at0, ct0, rfl, _⟩ := rd_list zt.2
  have zx := rd_cons rfl hx
  obtain ⟨rfl, _⟩ := rd_i1 zx.1
  obtain ⟨ax, cx, rfl, _⟩ := rd_list zx.2
  clear ht hx hI zt zx
  have hs15 := (St.start w).alloc #[.int .i64 size, .slice at0 rs.length ct0] 36 (n := w.heap.size) (by simp)
  have k0_0 := hs15.cellAt 0 rfl 0 rfl
  have k0_1 := hs15.cellAt 0 rfl 1 rfl
  have hs16 := hs15.alloc #[.int .i64 vars, .slice ax cs.length cx] 40 (n := w.heap.size + 1) (by simp)
  clear k0_0 k0_1
  have k0_0 := hs16.cellAt 0 rfl 0 rfl
  have k0_1 := hs16.cellAt 0 rfl 1 rfl
  have k1_0 := hs16.cellAt 1 rfl 0 rfl
  have k1_1 := hs16.cellAt 1 rfl 1 rfl
  have hs17 := hs16.alloc #[.int .i64 0, .slice none 0 0, .slice none 0 0, .slice none 0 0, .slice none 0 0] 59 (n := w.heap.size + 1 + 1) (by simp)
  clear k0_0 k0_1 k1_0 k1_1
  have k0_0 := hs17.cellAt 0 rfl 0 rfl
  have k0_1 := hs17.cellAt 0 rfl 1 rfl
  have k1_0 := hs17.cellAt 1 rfl 0 rfl
  have k1_1 := hs17.cellAt 1 rfl 1 rfl
  have k2_0 := hs17.cellAt 2 rfl 0 rfl
  have k2_1 := hs17.cellAt 2 rfl 1 rfl
  have k2_2 := hs17.cellAt 2 rfl 2 rfl
  have k2_3 := hs17.cellAt 2 rfl 3 rfl
  have k2_4 := hs17.cellAt 2 rfl 4 rfl
  go_enter Tryz.func30, Tryz.ntmps30
  go_wp2_with fail
  refine (l05Ok_c (size, rs) (vars, cs) _ _ _ _ _ _ _ (Rd.mono HT.out hs17.bel) (Rd.mono HX.out hs17.bel) (hs17.cellAt 0 rfl 0 rfl) (hs17.cellAt 0 rfl 1 rfl) (hs17.cellAt 1 rfl 0 rfl) (hs17.cellAt 1 rfl 1 rfl)).mono ?_
  rintro e w18 ⟨rfl, hbw18⟩
  have hz_w18 : w.heap.size + 1 + 1 + 1 ≤ w18.heap.size := by have h9 := hbw18.size; (try simp at h9); omega
  have hs19 := hs17.step hbw18
  clear k0_0 k0_1 k1_0 k1_1 k2_0 k2_1 k2_2 k2_3 k2_4
  have k0_0 := hs19.cellAt 0 rfl 0 rfl
  have k0_1 := hs19.cellAt 0 rfl 1 rfl
  have k1_0 := hs19.cellAt 1 rfl 0 rfl
  have k1_1 := hs19.cellAt 1 rfl 1 rfl
  have k2_0 := hs19.cellAt 2 rfl 0 rfl
  have k2_1 := hs19.cellAt 2 rfl 1 rfl
  have k2_2 := hs19.cellAt 2 rfl 2 rfl
  have k2_3 := hs19.cellAt 2 rfl 3 rfl
  have k2_4 := hs19.cellAt 2 rfl 4 rfl
  cases h1 : instOk (size, rs) (vars, cs) with
  | false =>
    have H1 := Lib.hid (show solveConstF (size, rs) (vars, cs) a = (vd0, 1) by unfold solveConstF; rw [h1]; rfl)
    clear h1
    have g0 := (hs19.freeAt 2 rfl 0)
    have g1 := (hs19.freeAt 2 rfl 1)
    have g2 := (hs19.freeAt 2 rfl 2)
    have g3 := (hs19.freeAt 2 rfl 3)
    have g4 := (hs19.freeAt 2 rfl 4)
    have hs9 := (((((hs19.set (p := [_, _]) (by simp <;> omega) 0 (.int .i64 0)).set (p := [_, _]) (by simp <;> omega) 1 (.slice none 0 0)).set (p := [_, _]) (by simp <;> omega) 2 (.slice none 0 0)).set (p := [_, _]) (by simp <;> omega) 3 (.slice none 0 0)).set (p := [_, _]) (by simp <;> omega) 4 (.slice none 0 0))
    have HB9 := Lib.hid hs9.bel
    have y0 := hs9.cellAt 2 rfl 0 rfl
    have y1 := hs9.cellAt 2 rfl 1 rfl
    have y2 := hs9.cellAt 2 rfl 2 rfl
    have y3 := hs9.cellAt 2 rfl 3 rfl
    have y4 := hs9.cellAt 2 rfl 4 rfl
    clear hs9
    go_wp2_with fail
    refine bodyPost_ret (v := .tuple #[.agg #[.int .i64 0, .slice none 0 0, .slice none 0 0, .slice none 0 0, .slice none 0 0], .int .i64 1]) (by simp [results, Tryz.results30, go_sem, y0, y1, y2, y3, y4]) rfl ⟨_, _, _, _, _, by rw [H1.out], ?_, HB9.out⟩
    rw [H1.out]; exact fresh_vd ⟨by decide, by decide⟩ fresh_nil_list
  | true =>
    have hs := (tmplOk_get (instOk_get h1).1).1
    have hv := (instOk_get h1).2.1
    have HRS := Lib.hid (tmplOk_get (instOk_get h1).1).2.2
    have HOK := Lib.hid h1
    simp only at hs hv
    have H0 := Lib.hid (show solveConstF (size, rs) (vars, cs) a = if inB a 0 (size - 1) then (if brokenF (size, rs) (constOp size a) < 0 then (if failF (size, rs) (vars, cs) (constV (vars, cs) a) < 0 then ((0, constV (vars, cs) a, [], [], []), 0) else (vd0, 6)) else (vd0, 4)) else (vd0, 2) by unfold solveConstF; rw [if_pos h1])
    have ew : IntKind.i64.wrap (size - 1) = size - 1 := i64_in _ (by omega)
    clear h1
    go_wp2_with fail
    refine (l00In_c a 0 (size - 1) _).mono ?_
    rintro e wv ⟨rfl, rfl⟩
    cases h2 : inB a 0 (size - 1) with
    | false =>
      have H1 := Lib.hid (show solveConstF (size, rs) (vars, cs) a = (vd0, 2) by rw [H0.out, h2]; rfl)
      clear h2
      have g0 := (hs19.freeAt 2 rfl 0)
      have g1 := (hs19.freeAt 2 rfl 1)
      have g2 := (hs19.freeAt 2 rfl 2)
      have g3 := (hs19.freeAt 2 rfl 3)
      have g4 := (hs19.freeAt 2 rfl 4)
      have hs9 := (((((hs19.set (p := [_, _]) (by simp <;> omega) 0 (.int .i64 0)).set (p := [_, _]) (by simp <;> omega) 1 (.slice none 0 0)).set (p := [_, _]) (by simp <;> omega) 2 (.slice none 0 0)).set (p := [_, _]) (by simp <;> omega) 3 (.slice none 0 0)).set (p := [_, _]) (by simp <;> omega) 4 (.slice none 0 0))
      have HB9 := Lib.hid hs9.bel
      have y0 := hs9.cellAt 2 rfl 0 rfl
      have y1 := hs9.cellAt 2 rfl 1 rfl
      have y2 := hs9.cellAt 2 rfl 2 rfl
      have y3 := hs9.cellAt 2 rfl 3 rfl
      have y4 := hs9.cellAt 2 rfl 4 rfl
      clear hs9
      go_wp2_with fail
      refine bodyPost_ret (v := .tuple #[.agg #[.int .i64 0, .slice none 0 0, .slice none 0 0, .slice none 0 0, .slice none 0 0], .int .i64 2]) (by simp [results, Tryz.results30, go_sem, y0, y1, y2, y3, y4]) rfl ⟨_, _, _, _, _, by rw [H1.out], ?_, HB9.out⟩
      rw [H1.out]; exact fresh_vd ⟨by decide, by decide⟩ fresh_nil_list
    | true =>
      have ha := inB_true h2
      have HCO := Lib.hid (const_ok hs ha)
      have H3 := Lib.hid (show solveConstF (size, rs) (vars, cs) a = if brokenF (size, rs) (constOp size a) < 0 then (if failF (size, rs) (vars, cs) (constV (vars, cs) a) < 0 then ((0, constV (vars, cs) a, [], [], []), 0) else (vd0, 6)) else (vd0, 4) by rw [H0.out, if_pos h2])
      clear h2
      obtain ⟨V, hV⟩ : ∃ V : Nat, vars = (V : Int) := ⟨vars.toNat, by omega⟩
      subst hV
      have HCV := Lib.hid (show constV ((V : Int), cs) a = List.replicate V a by simp [constV])
      go_wp2_with fail
      refine (constantOp_c size a _ hs ha).mono ?_
      rintro e w20 ⟨v9, rfl, fr9, hbw20⟩
      have hz_w20 : w18.heap.size ≤ w20.heap.size := by have h9 := hbw20.size; (try simp at h9); omega
      have hs21 := hs19.step hbw20
      clear k0_0 k0_1 k1_0 k1_1 k2_0 k2_1 k2_2 k2_3 k2_4
      have k0_0 := hs21.cellAt 0 rfl 0 rfl
      have k0_1 := hs21.cellAt 0 rfl 1 rfl
      have k1_0 := hs21.cellAt 1 rfl 0 rfl
      have k1_1 := hs21.cellAt 1 rfl 1 rfl
      have k2_0 := hs21.cellAt 2 rfl 0 rfl
      have k2_1 := hs21.cellAt 2 rfl 1 rfl
      have k2_2 := hs21.cellAt 2 rfl 2 rfl
      have k2_3 := hs21.cellAt 2 rfl 3 rfl
      have k2_4 := hs21.cellAt 2 rfl 4 rfl
      obtain ⟨a9, c9, rfl, _⟩ := rd_list fr9.rd
      have HC9 := Lib.hid fr9
      clear fr9
      have hs22 := hs21.alloc #[.int .i64 1, .slice a9 (constOp size a).2.length c9] 124 (n := w20.heap.size) (by simp)
      have HC9_23 := Lib.hid (Fresh.mono HC9.out (belowA _ (.cells #[.int .i64 1, .slice a9 (constOp size a).2.length c9] 124)))
      clear HC9
      clear k0_0 k0_1 k1_0 k1_1 k2_0 k2_1 k2_2 k2_3 k2_4
      have k0_0 := hs22.cellAt 0 rfl 0 rfl
      have k0_1 := hs22.cellAt 0 rfl 1 rfl
      have k1_0 := hs22.cellAt 1 rfl 0 rfl
      have k1_1 := hs22.cellAt 1 rfl 1 rfl
      have k2_0 := hs22.cellAt 2 rfl 0 rfl
      have k2_1 := hs22.cellAt 2 rfl 1 rfl
      have k2_2 := hs22.cellAt 2 rfl 2 rfl
      have k2_3 := hs22.cellAt 2 rfl 3 rfl
      have k2_4 := hs22.cellAt 2 rfl 4 rfl
      have k3_0 := hs22.cellAt 3 rfl 0 rfl
      have k3_1 := hs22.cellAt 3 rfl 1 rfl
      go_wp2_with fail
      refine (l02First_c (size, rs) (constOp size a) (w.heap.size) (w20.heap.size) _ _ _ _ _ (Rd.mono HT.out hs22.bel) (rd_cons_mk ⟨by decide, by decide⟩ (Fresh.rd HC9_23.out)) HCO.out HRS.out (hs22.cellAt 0 rfl 0 rfl) (hs22.cellAt 0 rfl 1 rfl) (hs22.cellAt 3 rfl 0 rfl) (hs22.cellAt 3 rfl 1 rfl)).mono ?_
      rintro e w24 ⟨rfl, hbw24⟩
      have hz_w24 : w20.heap.size + 1 ≤ w24.heap.size := by have h9 := hbw24.size; (try simp at h9); omega
      have hs25 := hs22.step hbw24
      have HC9_26 := Lib.hid (Fresh.mono HC9_23.out hbw24)
      clear HC9_23
      clear k0_0 k0_1 k1_0 k1_1 k2_0 k2_1 k2_2 k2_3 k2_4 k3_0 k3_1
      have k0_0 := hs25.cellAt 0 rfl 0 rfl
      have k0_1 := hs25.cellAt 0 rfl 1 rfl
      have k1_0 := hs25.cellAt 1 rfl 0 rfl
      have k1_1 := hs25.cellAt 1 rfl 1 rfl
      have k2_0 := hs25.cellAt 2 rfl 0 rfl
      have k2_1 := hs25.cellAt 2 rfl 1 rfl
      have k2_2 := hs25.cellAt 2 rfl 2 rfl
      have k2_3 := hs25.cellAt 2 rfl 3 rfl
      have k2_4 := hs25.cellAt 2 rfl 4 rfl
      have k3_0 := hs25.cellAt 3 rfl 0 rfl
      have k3_1 := hs25.cellAt 3 rfl 1 rfl
      clear HC9_26
      have HLO := Lib.hid (firstI_lo (fun r => !keepsP size (constOp size a) r) rs)
      have HBF := Lib.hid (show brokenF (size, rs) (constOp size a) = firstI (fun r => !keepsP size (constOp size a) r) rs from rfl)
      rw [← HBF.out] at HLO
      clear HBF
      generalize brokenF (size, rs) (constOp size a) = BI at *
      by_cases h4 : BI < 0
      · have H4 := Lib.hid (show solveConstF (size, rs) ((V : Int), cs) a = if failF (size, rs) ((V : Int), cs) (List.replicate V a) < 0 then ((0, List.replicate V a, [], [], []), 0) else (vd0, 6) by rw [H3.out, if_pos h4, HCV.out])
        obtain rfl : BI = -1 := by have := HLO.out; omega
        clear h4
        have HM := Lib.hid (acc_made (α := Int) w24 2)
        go_wp2_with fail
        go_loopw [10, 11] (fun oo i wl => ∃ (k : Nat) (ao : Option Addr) (co : Nat), k ≤ V ∧ i = .int .i64 k ∧ oo = .slice ao k co ∧ Hid (Below (w24).heap.size (w24) wl) ∧ Hid (Acc (w24).heap.size wl.heap.size 2 wl (.slice ao k co) (List.replicate k a))) (fun _ i _ => V - (intOf i).toNat)
        case atStart => exact ⟨0, _, _, Nat.zero_le _, rfl, rfl, belowA _ _, by simpa [Hid] using HM.out⟩
        case round =>
          clear HM
          obtain ⟨k, ao, co, hk, rfl, rfl, hbl, hac⟩ := hrel
          have hstep := hbl.out
          have hb0 := hbl.out.size
          have HAC := hac
          have hz_wr : w24.heap.size ≤ wr.heap.size := by have h9 := hstep.size; (try simp at h9); omega
          have hs27 := hs25.step hstep
          clear k0_0 k0_1 k1_0 k1_1 k2_0 k2_1 k2_2 k2_3 k2_4 k3_0 k3_1
          have k0_0 := hs27.cellAt 0 rfl 0 rfl
          have k0_1 := hs27.cellAt 0 rfl 1 rfl
          have k1_0 := hs27.cellAt 1 rfl 0 rfl
          have k1_1 := hs27.cellAt 1 rfl 1 rfl
          have k2_0 := hs27.cellAt 2 rfl 0 rfl
          have k2_1 := hs27.cellAt 2 rfl 1 rfl
          have k2_2 := hs27.cellAt 2 rfl 2 rfl
          have k2_3 := hs27.cellAt 2 rfl 3 rfl
          have k2_4 := hs27.cellAt 2 rfl 4 rfl
          have k3_0 := hs27.cellAt 3 rfl 0 rfl
          have k3_1 := hs27.cellAt 3 rfl 1 rfl
          by_cases hlt : k < V
          · have hkl : (k : Int) < V := by omega
            have HTK := Lib.hid (show List.replicate k a ++ [a] = List.replicate (k + 1) a from List.replicate_succ'.symm)
            have HBL := Lib.hid hbl.out
            go_wp2_with (at_builtin; go_loud (refine wpList_append_ints _ rfl _ _ _ rfl E_ints rfl (Acc.mono HAC.out (belowA _ (.cells #[.int .i64 a] 2))) (by omega) (by simp) ⟨wr.heap.size, 0, none⟩ 1 rfl (ns := [a]) (news1 (cell_at_block (heap_alloc_new _ _))) (fun b hb => by simp at hb; subst hb; exact HI.out) (by simp; omega) ?_); simp only [List.length_replicate, List.length_cons, List.length_nil, Nat.zero_add, HTK.out]; intro a7 c7 w7 hA7 hB7 hK7)
            have HA7 := Lib.hid hA7
            have HB7 := Lib.hid (HBL.out.trans ((belowA wr (.cells #[.int .i64 a] 2)).mono HBL.out.size) |>.trans hB7)
            clear hA7 hB7 hK7
            go_wp2_with fail
            go_roundw
            case rel => exact ⟨k + 1, a7, c7, hlt, by go_num, rfl, HB7.out, HA7.out⟩
            case measure => simp [intOf]; omega
          · obtain rfl : k = V := by omega
            have hnl : ¬ ((k : Int) < k) := by omega
            have HFV := Lib.hid (show Fresh (w24).heap.size wr [.slice ao k co] (List.replicate k a) from hac.out.fresh)
            clear HAC
            go_wp2_with fail
            go_wp2_with fail
            refine (l05Failing_c (size, rs) ((k : Int), cs) (List.replicate k a) (w.heap.size) (w.heap.size + 1) _ _ _ _ _ _ (Rd.mono HT.out hs27.bel) (Rd.mono HX.out hs27.bel) (Fresh.rd HFV.out) HOK.out (by simp) (hs27.cellAt 0 rfl 1 rfl) (hs27.cellAt 1 rfl 1 rfl)).mono ?_
            rintro e w28 ⟨rfl, hbw28⟩
            have hz_w28 : wr.heap.size ≤ w28.heap.size := by have h9 := hbw28.size; (try simp at h9); omega
            have hs29 := hs27.step hbw28
            have HFV_30 := Lib.hid (Fresh.mono HFV.out hbw28)
            clear HFV
            clear k0_0 k0_1 k1_0 k1_1 k2_0 k2_1 k2_2 k2_3 k2_4 k3_0 k3_1
            have k0_0 := hs29.cellAt 0 rfl 0 rfl
            have k0_1 := hs29.cellAt 0 rfl 1 rfl
            have k1_0 := hs29.cellAt 1 rfl 0 rfl
            have k1_1 := hs29.cellAt 1 rfl 1 rfl
            have k2_0 := hs29.cellAt 2 rfl 0 rfl
            have k2_1 := hs29.cellAt 2 rfl 1 rfl
            have k2_2 := hs29.cellAt 2 rfl 2 rfl
            have k2_3 := hs29.cellAt 2 rfl 3 rfl
            have k2_4 := hs29.cellAt 2 rfl 4 rfl
            have k3_0 := hs29.cellAt 3 rfl 0 rfl
            have k3_1 := hs29.cellAt 3 rfl 1 rfl
            have HLP := Lib.hid (show -1 ≤ failF (size, rs) ((k : Int), cs) (List.replicate k a) from firstI_lo _ _)
            generalize failF (size, rs) ((k : Int), cs) (List.replicate k a) = FI at *
            by_cases hf : FI < 0
            · have H5 := Lib.hid (show solveConstF (size, rs) ((k : Int), cs) a = ((0, List.replicate k a, [], [], []), 0) by rw [H4.out, if_pos hf])
              obtain rfl : FI = -1 := by have := HLP.out; omega
              clear hf
              have g0 := (hs29.freeAt 2 rfl 0)
              have g1 := (hs29.freeAt 2 rfl 1)
              have g2 := (hs29.freeAt 2 rfl 2)
              have g3 := (hs29.freeAt 2 rfl 3)
              have g4 := (hs29.freeAt 2 rfl 4)
              have hs9 := (((((hs29.set (p := [_, _]) (by simp <;> omega) 0 (.int .i64 0)).set (p := [_, _]) (by simp <;> omega) 1 (.slice ao k co)).set (p := [_, _]) (by simp <;> omega) 2 (.slice none 0 0)).set (p := [_, _]) (by simp <;> omega) 3 (.slice none 0 0)).set (p := [_, _]) (by simp <;> omega) 4 (.slice none 0 0))
              have HB9 := Lib.hid hs9.bel
              have y0 := hs9.cellAt 2 rfl 0 rfl
              have y1 := hs9.cellAt 2 rfl 1 rfl
              have y2 := hs9.cellAt 2 rfl 2 rfl
              have y3 := hs9.cellAt 2 rfl 3 rfl
              have y4 := hs9.cellAt 2 rfl 4 rfl
              have HFR := Lib.hid (show Fresh w.heap.size (((((w28.setCell ⟨w.heap.size + 1 + 1, 0, none⟩ (.int .i64 0)).setCell ⟨w.heap.size + 1 + 1, 1, none⟩ (.slice ao k co)).setCell ⟨w.heap.size + 1 + 1, 2, none⟩ (.slice none 0 0)).setCell ⟨w.heap.size + 1 + 1, 3, none⟩ (.slice none 0 0)).setCell ⟨w.heap.size + 1 + 1, 4, none⟩ (.slice none 0 0)) [.int .i64 0, .slice ao k co, .slice none 0 0, .slice none 0 0, .slice none 0 0] _ from (fresh_vd ⟨by decide, by decide⟩ ((((((HFV_30.out.setCell (a := ⟨w.heap.size + 1 + 1, 0, none⟩) (by simp <;> omega) (.int .i64 0)).setCell (a := ⟨w.heap.size + 1 + 1, 1, none⟩) (by simp <;> omega) (.slice ao k co)).setCell (a := ⟨w.heap.size + 1 + 1, 2, none⟩) (by simp <;> omega) (.slice none 0 0)).setCell (a := ⟨w.heap.size + 1 + 1, 3, none⟩) (by simp <;> omega) (.slice none 0 0)).setCell (a := ⟨w.heap.size + 1 + 1, 4, none⟩) (by simp <;> omega) (.slice none 0 0)))).lower (by (try simp); omega))
              clear hs9
              go_wp2_with fail
              refine bodyPost_ret (v := .tuple #[.agg #[.int .i64 0, .slice ao k co, .slice none 0 0, .slice none 0 0, .slice none 0 0], .int .i64 0]) (by simp [results, Tryz.results30, go_sem, y0, y1, y2, y3, y4]) rfl ⟨_, _, _, _, _, by rw [H5.out], ?_, HB9.out⟩
              rw [H5.out]; exact HFR.out
            · have H5 := Lib.hid (show solveConstF (size, rs) ((k : Int), cs) a = (vd0, 6) by rw [H4.out, if_neg hf])
              have hb1 : (FI != -1) = true := by rw [bne_iff_ne]; omega
              clear hf
              have g0 := (hs29.freeAt 2 rfl 0)
              have g1 := (hs29.freeAt 2 rfl 1)
              have g2 := (hs29.freeAt 2 rfl 2)
              have g3 := (hs29.freeAt 2 rfl 3)
              have g4 := (hs29.freeAt 2 rfl 4)
              have hs9 := (((((hs29.set (p := [_, _]) (by simp <;> omega) 0 (.int .i64 0)).set (p := [_, _]) (by simp <;> omega) 1 (.slice none 0 0)).set (p := [_, _]) (by simp <;> omega) 2 (.slice none 0 0)).set (p := [_, _]) (by simp <;> omega) 3 (.slice none 0 0)).set (p := [_, _]) (by simp <;> omega) 4 (.slice none 0 0))
              have HB9 := Lib.hid hs9.bel
              have y0 := hs9.cellAt 2 rfl 0 rfl
              have y1 := hs9.cellAt 2 rfl 1 rfl
              have y2 := hs9.cellAt 2 rfl 2 rfl
              have y3 := hs9.cellAt 2 rfl 3 rfl
              have y4 := hs9.cellAt 2 rfl 4 rfl
              clear hs9
              go_wp2_with fail
              refine bodyPost_ret (v := .tuple #[.agg #[.int .i64 0, .slice none 0 0, .slice none 0 0, .slice none 0 0, .slice none 0 0], .int .i64 6]) (by simp [results, Tryz.results30, go_sem, y0, y1, y2, y3, y4]) rfl ⟨_, _, _, _, _, by rw [H5.out], ?_, HB9.out⟩
              rw [H5.out]; exact fresh_vd ⟨by decide, by decide⟩ fresh_nil_list
      · have H1 := Lib.hid (show solveConstF (size, rs) ((V : Int), cs) a = (vd0, 4) by rw [H3.out, if_neg h4])
        have hb1 : (BI != -1) = true := by rw [bne_iff_ne]; omega
        clear h4
        have g0 := (hs25.freeAt 2 rfl 0)
        have g1 := (hs25.freeAt 2 rfl 1)
        have g2 := (hs25.freeAt 2 rfl 2)
        have g3 := (hs25.freeAt 2 rfl 3)
        have g4 := (hs25.freeAt 2 rfl 4)
        have hs9 := (((((hs25.set (p := [_, _]) (by simp <;> omega) 0 (.int .i64 0)).set (p := [_, _]) (by simp <;> omega) 1 (.slice none 0 0)).set (p := [_, _]) (by simp <;> omega) 2 (.slice none 0 0)).set (p := [_, _]) (by simp <;> omega) 3 (.slice none 0 0)).set (p := [_, _]) (by simp <;> omega) 4 (.slice none 0 0))
        have HB9 := Lib.hid hs9.bel
        have y0 := hs9.cellAt 2 rfl 0 rfl
        have y1 := hs9.cellAt 2 rfl 1 rfl
        have y2 := hs9.cellAt 2 rfl 2 rfl
        have y3 := hs9.cellAt 2 rfl 3 rfl
        have y4 := hs9.cellAt 2 rfl 4 rfl
        clear hs9
        go_wp2_with fail
        refine bodyPost_ret (v := .tuple #[.agg #[.int .i64 0, .slice none 0 0, .slice none 0 0, .slice none 0 0, .slice none 0 0], .int .i64 4]) (by simp [results, Tryz.results30, go_sem, y0, y1, y2, y3, y4]) rfl ⟨_, _, _, _, _, by rw [H1.out], ?_, HB9.out⟩
        rw [H1.out]; exact fresh_vd ⟨by decide, by decide⟩ fresh_nil_list

end Go.Proofs.YtjkjfjpajmjglaaGreat
