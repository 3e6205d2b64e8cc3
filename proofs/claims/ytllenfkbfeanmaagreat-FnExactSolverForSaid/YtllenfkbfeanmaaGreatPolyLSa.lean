/-
  CONTRACTS: the search for polymorphisms, the program's side: its beginning.
-/
import Derived.Test.YtllenfkbfeanmaaGreatPolyRSa
import Derived.Test.YtllenfkbfeanmaaGreatPolyBSa
import Derived.Test.YtllenfkbfeanmaaGreatFailBSa
namespace Go.Proofs.YtllenfkbfeanmaaGreat
open Go.RowKit Go.Shelf Go.IntWalk
open Rep (Rd Own sz)
set_option linter.unusedSimpArgs false
set_option linter.unusedVariables false

theorem maxC_take {l : List Int} {k : Nat} (h : k < l.length) : maxC (l.take (k + 1)) = max (maxC (l.take k)) l[k] := by
  rw [List.take_succ_eq_append_getElem h, maxC_snoc]
set_option maxRecDepth 100000 in
set_option maxHeartbeats 4000000 in
theorem maxInts_c (l : List Int) (v : Value) (w : World) (r : Rd w [v] l) (h1 : 1 ≤ l.length) (h0 : ∀ a, a ∈ l → 0 ≤ a) :
    Calls Tryz.prog 159 #[v] w fun e w' => e = .returned (.int .i64 (maxC l)) ∧ w = w' := by
  obtain ⟨a, c, rfl, hh⟩ := rd_list r
  have hlm := (rdSl_len hh).2
  unfold maxLen at hlm
  have HR := Lib.hid r
  have H0 := Lib.hid h0
  have hlI : ¬ ((l.length : Int) < 1) := by omega
  have hlI2 : (0 : Int) < l.length := by omega
  obtain ⟨b, o, rfl, q0, hI0⟩ := rd_int_at HR.out 0 (by omega)
  rw [Nat.add_zero] at q0
  have hm0 : maxC (l.take 1) = l[0] := by
    rw [maxC_take (show 0 < l.length by omega)]
    have := h0 _ (List.getElem_mem (show 0 < l.length by omega))
    simp [maxC]; omega
  have HM0 := Lib.hid hm0
  clear r hh h0 hm0
  generalize l[0] = A0 at *
  go_enter Tryz.func159, Tryz.ntmps159
  go_wp2_with fail
  go_loop [3, 4] (fun mv i => ∃ k : Nat, 1 ≤ k ∧ k ≤ l.length ∧ i = .int .i64 k ∧ mv = .int .i64 (maxC (l.take k))) (fun _ i => l.length - (intOf i).toNat)
  case atStart => exact ⟨1, Nat.le_refl _, h1, rfl, by rw [HM0.out]⟩
  case round =>
    obtain ⟨k, hk1, hk, rfl, rfl⟩ := hrel
    by_cases hlt : k < l.length
    · have hkI : (k : Int) < l.length := by omega
      obtain ⟨b', o', e', q1, hI1⟩ := rd_int_at HR.out k hlt
      simp only [Option.some.injEq, Addr.mk.injEq, and_true] at e'
      obtain ⟨rfl, rfl⟩ := e'
      have HMX := Lib.hid (show max (maxC (l.take k)) l[k] = maxC (l.take (k + 1)) from (maxC_take hlt).symm)
      generalize maxC (l.take k) = M0 at *
      generalize l[k] = LK at *
      go_wp2_with fail
      go_round
      case rel => exact ⟨k + 1, by omega, by omega, by go_num, by rw [HMX.out]⟩
      case measure => simp [intOf]; omega
    · obtain rfl : k = l.length := by omega
      have hnl : ¬ ((l.length : Int) < l.length) := by omega
      rw [List.take_length]
      go_wp2_with fail
      go_ret
      exact ⟨rfl, rfl⟩

theorem E_lookss : ElemT Tryz.prog 178 185 (List OpT) (.slice none 0 0) 24 := ElemT.mk' Tryz.underlying178 (by kernel_rfl) rfl (by decide) (by decide)
theorem E_looks : ElemT Tryz.prog 185 184 OpT (.agg #[.int .i64 0, .slice none 0 0]) 32 := ElemT.mk' Tryz.underlying185 (by kernel_rfl) rfl (by decide) (by decide)
theorem E_boolss : ElemT Tryz.prog 180 161 (List Bool) (.slice none 0 0) 24 := ElemT.mk' Tryz.underlying180 (by kernel_rfl) rfl (by decide) (by decide)
/-- What the finder begins with. -/
structure BegunI (w w0 : World) (size : Int) (aT : Option Addr) (lT cT m xb cb n : Nat) (fv : Value) (tr : TypeId) : Prop where
  run : w.heap[xb]? = some (.cells #[.int .i64 size, .slice aT lT cT, .int .i64 m, .slice (some ⟨cb, 0, none⟩) n n, .slice none 0 0, fv, .int .i64 0, .slice none 0 0] tr (0, 0))
  nils : NilB w cb n
  told : Ip (fun z => (w0.heap.size ≤ z ∧ z < w.heap.size) ∧ z ≠ xb ∧ z ≠ cb) w [fv] (List.replicate n (-1 : Int))
  dis : xb ≠ cb ∧ (w0.heap.size ≤ xb ∧ w0.heap.size ≤ cb) ∧ (xb < w.heap.size ∧ cb < w.heap.size)
  bel : Below w0.heap.size w0 w
theorem pow64_cases {size : Int} {m n : Nat} (hs : 1 ≤ size ∧ size ≤ 4) (hm : 1 ≤ m ∧ m ≤ 3) (hn : size ^ m = (n : Int)) : 1 ≤ n ∧ (n ≤ 10 ∨ n = 16 ∨ n = 27 ∨ n = 64) := by
  obtain rfl | rfl | rfl : m = 1 ∨ m = 2 ∨ m = 3 := by omega
  all_goals (obtain rfl | rfl | rfl | rfl : size = 1 ∨ size = 2 ∨ size = 3 ∨ size = 4 := by omega) <;> (simp at hn; omega)
set_option maxRecDepth 100000 in
set_option maxHeartbeats 16000000 in
theorem newFinder_c (t : Tmpl) (m n : Nat) (t0 t1 : Value) (w : World) (ht : Rd w [t0, t1] t) (hok : tmplOk t = true) (hm : 1 ≤ m ∧ m ≤ 3) (hn : t.1 ^ m = (n : Int)) (hmany : manyTo t m t.2.length ≤ 4000) :
    Calls Tryz.prog 129 #[.agg #[t0, t1], .int .i64 m] w fun e w' => ∃ xb, e = .returned (.pointer (some ⟨xb, 0, none⟩)) ∧ Below w.heap.size w w' ∧
      w.heap.size ≤ xb ∧ ∃ cb lo, ∀ H, w'.heap.size ≤ H → FindR lo w'.heap.size H w' t m xb cb n 161 184 182 2 [] 0 := by
  have hs := (tmplOk_get hok).1
  have hnc := pow64_cases hs hm hn
  have hn64 : n ≤ 64 := by omega
  have hn1 := hnc.1
  have HNC := Lib.hid hnc.2
  have HT := Lib.hid ht
  have HOK := Lib.hid hok
  have HN := Lib.hid hn
  have HMANY := Lib.hid hmany
  have hrl := (tmplOk_get hok).2.1
  obtain ⟨size, rs⟩ := t
  have zt := rd_cons rfl ht
  obtain ⟨rfl, hI⟩ := rd_i1 zt.1
  obtain ⟨at0, ct0, rfl, _⟩ := rd_list zt.2
  simp only at hrl hs
  have HNS := Lib.hid (show size ^ m = (n : Int) from HN.out)
  clear ht zt hok hn hmany hnc
  have hs1 := (St.start w).alloc #[.int .i64 size, .slice at0 rs.length ct0] 26 (n := w.heap.size) (by simp)
  have k0_0 := hs1.cellAt 0 rfl 0 rfl
  have k0_1 := hs1.cellAt 0 rfl 1 rfl
  go_enter Tryz.func129, Tryz.ntmps129
  go_upto_region 1 with fail
  go_cut [5] from 20 to 35 (fun x5 wx => ∃ (xb cb : Nat) (fv : Value), x5 = .pointer (some ⟨xb, 0, none⟩) ∧ Hid (w.heap.size + 1 ≤ xb ∧ w.heap.size + 1 ≤ cb) ∧ Hid (St w (w.heap.size + 1) wx [(w.heap.size, #[.int .i64 size, .slice at0 rs.length ct0], 26)]) ∧ Hid (BegunI wx w size at0 rs.length ct0 m xb cb n fv 182))
  case first =>
    refine wp_region_noPanic (wp_region_tree4 (fun w' => w'.cell? ⟨w.heap.size, 0, none⟩ = some (.int .i64 size) ∧ w'.cell? ⟨w.heap.size, 1, none⟩ = some (.slice at0 rs.length ct0)) (.float 0 (.float 1 (.float 2 (.float 3 (.float 4 (.float 8 (.float 9 (.float 10 (.fork2 5 (.fork3 6 (.fork2 7 (.hard 11 (.hard 12 (.float 13 (.hard 14 (.float 15 .nil))))) 11 (.hard 7 (.hard 12 (.float 13 (.hard 14 (.float 15 .nil)))))) 7 (.fork2 6 (.hard 11 (.hard 12 (.float 13 (.hard 14 (.float 15 .nil))))) 11 (.fork2 6 (.hard 12 (.float 13 (.hard 14 (.float 15 .nil)))) 12 (.hard 6 (.float 13 (.hard 14 (.float 15 .nil)))))) 11 (.fork2 6 (.hard 7 (.hard 12 (.float 13 (.hard 14 (.float 15 .nil))))) 7 (.fork2 6 (.hard 12 (.float 13 (.hard 14 (.float 15 .nil)))) 12 (.hard 6 (.float 13 (.hard 14 (.float 15 .nil))))))) 7 (.hard 5 (.fork2 6 (.hard 11 (.hard 12 (.float 13 (.hard 14 (.float 15 .nil))))) 11 (.fork2 6 (.hard 12 (.float 13 (.hard 14 (.float 15 .nil)))) 12 (.hard 6 (.float 13 (.hard 14 (.float 15 .nil)))))))))))))))) (by kernel_rfl) (by kernel_rfl) (by kernel_rfl) rfl ?_ (fun _ _ _ _ _ h => h) ?_)
    · exact ⟨(hs1.drew).cellAt 0 rfl 0 rfl, (hs1.drew).cellAt 0 rfl 1 rfl⟩
    have hs2 := hs1.drew
    clear k0_0 k0_1
    have hz_wd3 : w.heap.size + 1 ≤ ((w.alloc (.cells #[.int .i64 size, .slice at0 rs.length ct0] 26)).drew).heap.size := by simp
    generalize hgen_wd3 : (w.alloc (.cells #[.int .i64 size, .slice at0 rs.length ct0] 26)).drew = wd3 at *
    have HG_wd3 := Lib.hid hgen_wd3
    clear hgen_wd3
    (repeat (first | (apply t4_skip rfl (by rfl); try simp only [Act.put, List.setIfInBounds_toArray, List.set_cons_zero, List.set_cons_succ]) | (apply t4_float rfl (by rfl); (· (intro w' hS; go_simp <;> with_reducible rfl)); (try simp only [Act.put, List.setIfInBounds_toArray, List.set_cons_zero, List.set_cons_succ]))))
    refine t4_fork2 ?_ ?_
    · refine t4_hard rfl (by rfl) (fun K hK => ?_)
      go_wp2_with (go_at_call 91; refine (power_c size m _ (by omega) (by omega) (by omega) (by rw [Int.toNat_natCast, HNS.out]; omega)).mono ?_; rintro e w4 ⟨rfl, rfl⟩)
      rw [HNS.out]
      refine ⟨⟨hs2.cellAt 0 rfl 0 rfl, hs2.cellAt 0 rfl 1 rfl⟩, ?_⟩
      (repeat (first | (apply t4_skip rfl (by rfl); try simp only [Act.put, List.setIfInBounds_toArray, List.set_cons_zero, List.set_cons_succ]) | (apply t4_float rfl (by rfl); (· (intro w' hS; go_simp <;> with_reducible rfl)); (try simp only [Act.put, List.setIfInBounds_toArray, List.set_cons_zero, List.set_cons_succ]))))
      refine t4_fork3 ?_ ?_ ?_
      · refine t4_hard rfl (by rfl) (fun K hK => ?_)
        refine wp_make_nils _ _ _ 178 rfl E_lookss n (by omega) rfl rfl ?_
        intro gC wK hgC1 hgC2 hnil hbK
        (try simp at hgC1)
        have HNL := Lib.hid hnil
        have HBK := Lib.hid (Below.refl wK.heap.size wK)
        clear hnil
        have hz_wK : wd3.heap.size ≤ wK.heap.size := by have h9 := hbK.size; (try simp at h9); omega
        have hs5 := hs2.step hbK
        refine hK _ _ ⟨⟨hs5.cellAt 0 rfl 0 rfl, hs5.cellAt 0 rfl 1 rfl⟩, ?_⟩
        (repeat (first | (apply t4_skip rfl (by rfl); try simp only [Act.put, List.setIfInBounds_toArray, List.set_cons_zero, List.set_cons_succ]) | (apply t4_float rfl (by rfl); (· (intro w' hS; go_simp <;> with_reducible rfl)); (try simp only [Act.put, List.setIfInBounds_toArray, List.set_cons_zero, List.set_cons_succ]))))
        refine t4_fork2 ?_ ?_
        · refine t4_hard rfl (by rfl) (fun K hK => ?_)
          go_wp2_with fail
          have hs6 := hs5.alloc #[.int .i64 (-1)] 2 (n := wK.heap.size) (by simp)
          have HBK_7 := Lib.hid (HBK.out.trans (((belowA _ (.cells #[.int .i64 (-1)] 2))).mono HBK.out.size))
          clear HBK
          have HE1 := Lib.hid (rd_single (show I64 (-1) from ⟨by decide, by decide⟩) (hs6.cellAt 1 rfl 0 rfl))
          refine ⟨⟨hs6.cellAt 0 rfl 0 rfl, hs6.cellAt 0 rfl 1 rfl⟩, ?_⟩
          (repeat (first | (apply t4_skip rfl (by rfl); try simp only [Act.put, List.setIfInBounds_toArray, List.set_cons_zero, List.set_cons_succ]) | (apply t4_float rfl (by rfl); (· (intro w' hS; go_simp <;> with_reducible rfl)); (try simp only [Act.put, List.setIfInBounds_toArray, List.set_cons_zero, List.set_cons_succ]))))
          refine t4_hard rfl (by rfl) (fun K hK => ?_)
          go_wp2_with (go_at_call 91; refine (power_c size m _ (by omega) (by omega) (by omega) (by rw [Int.toNat_natCast, HNS.out]; omega)).mono ?_; rintro e w8 ⟨rfl, rfl⟩)
          rw [HNS.out]
          refine ⟨⟨hs6.cellAt 0 rfl 0 rfl, hs6.cellAt 0 rfl 1 rfl⟩, ?_⟩
          (repeat (first | (apply t4_skip rfl (by rfl); try simp only [Act.put, List.setIfInBounds_toArray, List.set_cons_zero, List.set_cons_succ]) | (apply t4_float rfl (by rfl); (· (intro w' hS; go_simp <;> with_reducible rfl)); (try simp only [Act.put, List.setIfInBounds_toArray, List.set_cons_zero, List.set_cons_succ]))))
          refine t4_hard rfl (by rfl) (fun K hK => ?_)
          go_wp2_with (go_at_call 158; refine (repeatInts_c (-1) n _ _ HE1.out hn1 HNC.out).mono ?_; rintro e w9 ⟨v9, rfl, fr9, hbw9⟩)
          have hz_w9 : wK.heap.size + 1 ≤ w9.heap.size := by have h9 := hbw9.size; (try simp at h9); omega
          have hs10 := hs6.step hbw9
          have HBK_11 := Lib.hid (HBK_7.out.trans ((hbw9).mono HBK_7.out.size))
          clear HBK_7
          have HE1_12 := Lib.hid (Rd.mono HE1.out hbw9)
          clear HE1
          obtain ⟨a9, c9, rfl, _⟩ := rd_list fr9.rd
          rw [List.length_replicate] at fr9 ⊢
          have HIV := Lib.hid fr9.iv
          clear fr9
          refine ⟨⟨hs10.cellAt 0 rfl 0 rfl, hs10.cellAt 0 rfl 1 rfl⟩, ?_⟩
          (repeat (first | (apply t4_skip rfl (by rfl); try simp only [Act.put, List.setIfInBounds_toArray, List.set_cons_zero, List.set_cons_succ]) | (apply t4_float rfl (by rfl); (· (intro w' hS; go_simp <;> with_reducible rfl)); (try simp only [Act.put, List.setIfInBounds_toArray, List.set_cons_zero, List.set_cons_succ]))))
          refine t4_hard rfl (by rfl) (fun K hK => ?_)
          go_wp2_with fail
          have hs13 := hs10.alloc #[.int .i64 size, .slice at0 rs.length ct0, .int .i64 m, .slice (some ⟨gC, 0, none⟩) n n, .slice none 0 0, .slice a9 n c9, .int .i64 0, .slice none 0 0] 182 (n := w9.heap.size) (by simp)
          have HBK_14 := Lib.hid (HBK_11.out.trans (((belowA _ (.cells #[.int .i64 size, .slice at0 rs.length ct0, .int .i64 m, .slice (some ⟨gC, 0, none⟩) n n, .slice none 0 0, .slice a9 n c9, .int .i64 0, .slice none 0 0] 182))).mono HBK_11.out.size))
          clear HBK_11
          have HE1_15 := Lib.hid (Rd.mono HE1_12.out (belowA _ (.cells #[.int .i64 size, .slice at0 rs.length ct0, .int .i64 m, .slice (some ⟨gC, 0, none⟩) n n, .slice none 0 0, .slice a9 n c9, .int .i64 0, .slice none 0 0] 182)))
          clear HE1_12
          have HIV_16 := Lib.hid (Iv.mono HIV.out (belowA _ (.cells #[.int .i64 size, .slice at0 rs.length ct0, .int .i64 m, .slice (some ⟨gC, 0, none⟩) n n, .slice none 0 0, .slice a9 n c9, .int .i64 0, .slice none 0 0] 182)))
          clear HIV
          refine ⟨⟨hs13.cellAt 0 rfl 0 rfl, hs13.cellAt 0 rfl 1 rfl⟩, ?_⟩
          (repeat (first | (apply t4_skip rfl (by rfl); try simp only [Act.put, List.setIfInBounds_toArray, List.set_cons_zero, List.set_cons_succ]) | (apply t4_float rfl (by rfl); (· (intro w' hS; go_simp <;> with_reducible rfl)); (try simp only [Act.put, List.setIfInBounds_toArray, List.set_cons_zero, List.set_cons_succ]))))
          have k0_0 := hs13.cellAt 0 rfl 0 rfl
          have k0_1 := hs13.cellAt 0 rfl 1 rfl
          have k1_0 := hs13.cellAt 1 rfl 0 rfl
          have k2_0 := hs13.cellAt 2 rfl 0 rfl
          have k2_1 := hs13.cellAt 2 rfl 1 rfl
          have k2_2 := hs13.cellAt 2 rfl 2 rfl
          have k2_3 := hs13.cellAt 2 rfl 3 rfl
          have k2_4 := hs13.cellAt 2 rfl 4 rfl
          have k2_5 := hs13.cellAt 2 rfl 5 rfl
          have k2_6 := hs13.cellAt 2 rfl 6 rfl
          have k2_7 := hs13.cellAt 2 rfl 7 rfl
          refine t4_nil (NoPanic.normal ?_)
          have HRUN := Lib.hid (hs13.box (w9.heap.size, #[.int .i64 size, .slice at0 rs.length ct0, .int .i64 m, .slice (some ⟨gC, 0, none⟩) n n, .slice none 0 0, .slice a9 n c9, .int .i64 0, .slice none 0 0], 182) (by simp)).2.2
          have HNL2 := Lib.hid (HNL.out.mono HBK_14.out)
          have HDIS := Lib.hid (show w9.heap.size ≠ gC ∧ (w.heap.size ≤ w9.heap.size ∧ w.heap.size ≤ gC) ∧ (w9.heap.size < (w9.alloc (.cells #[.int .i64 size, .slice at0 rs.length ct0, .int .i64 m, .slice (some ⟨gC, 0, none⟩) n n, .slice none 0 0, .slice a9 n c9, .int .i64 0, .slice none 0 0] 182)).heap.size ∧ gC < (w9.alloc (.cells #[.int .i64 size, .slice at0 rs.length ct0, .int .i64 m, .slice (some ⟨gC, 0, none⟩) n n, .slice none 0 0, .slice a9 n c9, .int .i64 0, .slice none 0 0] 182)).heap.size) by (try simp); omega)
          have HTOLD := Lib.hid (show Ip (fun z => (w.heap.size ≤ z ∧ z < (w9.alloc (.cells #[.int .i64 size, .slice at0 rs.length ct0, .int .i64 m, .slice (some ⟨gC, 0, none⟩) n n, .slice none 0 0, .slice a9 n c9, .int .i64 0, .slice none 0 0] 182)).heap.size) ∧ z ≠ w9.heap.size ∧ z ≠ gC) _ [.slice a9 n c9] (List.replicate n (-1 : Int)) from (Ip.of_iv HIV_16.out).wk (fun z hz => by (try simp at hz ⊢); omega))
          have HLO := Lib.hid (show w.heap.size + 1 ≤ w9.heap.size ∧ w.heap.size + 1 ≤ gC by omega)
          clear HIV_16
          clear HBK_14
          clear HE1_15
          have hs17 := hs13.low (B' := w.heap.size + 1) (bx' := [(w.heap.size, #[.int .i64 size, .slice at0 rs.length ct0], 26)]) (by omega) (by (try simp) <;> omega) (fun x hx => by simp only [List.mem_cons, List.not_mem_nil, or_false] at hx; rcases hx with rfl <;> (refine ⟨?_, ?_⟩ <;> (try simp) <;> (try omega)))
          go_wp2_with fail
          go_meet
          case rel => exact ⟨_, gC, _, rfl, HLO.out, hs17, ⟨HRUN.out, HNL2.out, HTOLD.out, HDIS.out, hs17.bel⟩⟩
        · refine t4_hard rfl (by rfl) (fun K hK => ?_)
          go_wp2_with (go_at_call 91; refine (power_c size m _ (by omega) (by omega) (by omega) (by rw [Int.toNat_natCast, HNS.out]; omega)).mono ?_; rintro e w18 ⟨rfl, rfl⟩)
          rw [HNS.out]
          refine ⟨⟨hs5.cellAt 0 rfl 0 rfl, hs5.cellAt 0 rfl 1 rfl⟩, ?_⟩
          (repeat (first | (apply t4_skip rfl (by rfl); try simp only [Act.put, List.setIfInBounds_toArray, List.set_cons_zero, List.set_cons_succ]) | (apply t4_float rfl (by rfl); (· (intro w' hS; go_simp <;> with_reducible rfl)); (try simp only [Act.put, List.setIfInBounds_toArray, List.set_cons_zero, List.set_cons_succ]))))
          refine t4_hard rfl (by rfl) (fun K hK => ?_)
          go_wp2_with fail
          have hs19 := hs5.alloc #[.int .i64 (-1)] 2 (n := wK.heap.size) (by simp)
          have HBK_20 := Lib.hid (HBK.out.trans (((belowA _ (.cells #[.int .i64 (-1)] 2))).mono HBK.out.size))
          clear HBK
          have HE1 := Lib.hid (rd_single (show I64 (-1) from ⟨by decide, by decide⟩) (hs19.cellAt 1 rfl 0 rfl))
          refine ⟨⟨hs19.cellAt 0 rfl 0 rfl, hs19.cellAt 0 rfl 1 rfl⟩, ?_⟩
          (repeat (first | (apply t4_skip rfl (by rfl); try simp only [Act.put, List.setIfInBounds_toArray, List.set_cons_zero, List.set_cons_succ]) | (apply t4_float rfl (by rfl); (· (intro w' hS; go_simp <;> with_reducible rfl)); (try simp only [Act.put, List.setIfInBounds_toArray, List.set_cons_zero, List.set_cons_succ]))))
          refine t4_hard rfl (by rfl) (fun K hK => ?_)
          go_wp2_with (go_at_call 158; refine (repeatInts_c (-1) n _ _ HE1.out hn1 HNC.out).mono ?_; rintro e w21 ⟨v9, rfl, fr9, hbw21⟩)
          have hz_w21 : wK.heap.size + 1 ≤ w21.heap.size := by have h9 := hbw21.size; (try simp at h9); omega
          have hs22 := hs19.step hbw21
          have HBK_23 := Lib.hid (HBK_20.out.trans ((hbw21).mono HBK_20.out.size))
          clear HBK_20
          have HE1_24 := Lib.hid (Rd.mono HE1.out hbw21)
          clear HE1
          obtain ⟨a9, c9, rfl, _⟩ := rd_list fr9.rd
          rw [List.length_replicate] at fr9 ⊢
          have HIV := Lib.hid fr9.iv
          clear fr9
          refine ⟨⟨hs22.cellAt 0 rfl 0 rfl, hs22.cellAt 0 rfl 1 rfl⟩, ?_⟩
          (repeat (first | (apply t4_skip rfl (by rfl); try simp only [Act.put, List.setIfInBounds_toArray, List.set_cons_zero, List.set_cons_succ]) | (apply t4_float rfl (by rfl); (· (intro w' hS; go_simp <;> with_reducible rfl)); (try simp only [Act.put, List.setIfInBounds_toArray, List.set_cons_zero, List.set_cons_succ]))))
          refine t4_hard rfl (by rfl) (fun K hK => ?_)
          go_wp2_with fail
          have hs25 := hs22.alloc #[.int .i64 size, .slice at0 rs.length ct0, .int .i64 m, .slice (some ⟨gC, 0, none⟩) n n, .slice none 0 0, .slice a9 n c9, .int .i64 0, .slice none 0 0] 182 (n := w21.heap.size) (by simp)
          have HBK_26 := Lib.hid (HBK_23.out.trans (((belowA _ (.cells #[.int .i64 size, .slice at0 rs.length ct0, .int .i64 m, .slice (some ⟨gC, 0, none⟩) n n, .slice none 0 0, .slice a9 n c9, .int .i64 0, .slice none 0 0] 182))).mono HBK_23.out.size))
          clear HBK_23
          have HE1_27 := Lib.hid (Rd.mono HE1_24.out (belowA _ (.cells #[.int .i64 size, .slice at0 rs.length ct0, .int .i64 m, .slice (some ⟨gC, 0, none⟩) n n, .slice none 0 0, .slice a9 n c9, .int .i64 0, .slice none 0 0] 182)))
          clear HE1_24
          have HIV_28 := Lib.hid (Iv.mono HIV.out (belowA _ (.cells #[.int .i64 size, .slice at0 rs.length ct0, .int .i64 m, .slice (some ⟨gC, 0, none⟩) n n, .slice none 0 0, .slice a9 n c9, .int .i64 0, .slice none 0 0] 182)))
          clear HIV
          refine ⟨⟨hs25.cellAt 0 rfl 0 rfl, hs25.cellAt 0 rfl 1 rfl⟩, ?_⟩
          (repeat (first | (apply t4_skip rfl (by rfl); try simp only [Act.put, List.setIfInBounds_toArray, List.set_cons_zero, List.set_cons_succ]) | (apply t4_float rfl (by rfl); (· (intro w' hS; go_simp <;> with_reducible rfl)); (try simp only [Act.put, List.setIfInBounds_toArray, List.set_cons_zero, List.set_cons_succ]))))
          have k0_0 := hs25.cellAt 0 rfl 0 rfl
          have k0_1 := hs25.cellAt 0 rfl 1 rfl
          have k1_0 := hs25.cellAt 1 rfl 0 rfl
          have k2_0 := hs25.cellAt 2 rfl 0 rfl
          have k2_1 := hs25.cellAt 2 rfl 1 rfl
          have k2_2 := hs25.cellAt 2 rfl 2 rfl
          have k2_3 := hs25.cellAt 2 rfl 3 rfl
          have k2_4 := hs25.cellAt 2 rfl 4 rfl
          have k2_5 := hs25.cellAt 2 rfl 5 rfl
          have k2_6 := hs25.cellAt 2 rfl 6 rfl
          have k2_7 := hs25.cellAt 2 rfl 7 rfl
          refine t4_nil (NoPanic.normal ?_)
          have HRUN := Lib.hid (hs25.box (w21.heap.size, #[.int .i64 size, .slice at0 rs.length ct0, .int .i64 m, .slice (some ⟨gC, 0, none⟩) n n, .slice none 0 0, .slice a9 n c9, .int .i64 0, .slice none 0 0], 182) (by simp)).2.2
          have HNL2 := Lib.hid (HNL.out.mono HBK_26.out)
          have HDIS := Lib.hid (show w21.heap.size ≠ gC ∧ (w.heap.size ≤ w21.heap.size ∧ w.heap.size ≤ gC) ∧ (w21.heap.size < (w21.alloc (.cells #[.int .i64 size, .slice at0 rs.length ct0, .int .i64 m, .slice (some ⟨gC, 0, none⟩) n n, .slice none 0 0, .slice a9 n c9, .int .i64 0, .slice none 0 0] 182)).heap.size ∧ gC < (w21.alloc (.cells #[.int .i64 size, .slice at0 rs.length ct0, .int .i64 m, .slice (some ⟨gC, 0, none⟩) n n, .slice none 0 0, .slice a9 n c9, .int .i64 0, .slice none 0 0] 182)).heap.size) by (try simp); omega)
          have HTOLD := Lib.hid (show Ip (fun z => (w.heap.size ≤ z ∧ z < (w21.alloc (.cells #[.int .i64 size, .slice at0 rs.length ct0, .int .i64 m, .slice (some ⟨gC, 0, none⟩) n n, .slice none 0 0, .slice a9 n c9, .int .i64 0, .slice none 0 0] 182)).heap.size) ∧ z ≠ w21.heap.size ∧ z ≠ gC) _ [.slice a9 n c9] (List.replicate n (-1 : Int)) from (Ip.of_iv HIV_28.out).wk (fun z hz => by (try simp at hz ⊢); omega))
          have HLO := Lib.hid (show w.heap.size + 1 ≤ w21.heap.size ∧ w.heap.size + 1 ≤ gC by omega)
          clear HIV_28
          clear HBK_26
          clear HE1_27
          have hs29 := hs25.low (B' := w.heap.size + 1) (bx' := [(w.heap.size, #[.int .i64 size, .slice at0 rs.length ct0], 26)]) (by omega) (by (try simp) <;> omega) (fun x hx => by simp only [List.mem_cons, List.not_mem_nil, or_false] at hx; rcases hx with rfl <;> (refine ⟨?_, ?_⟩ <;> (try simp) <;> (try omega)))
          go_wp2_with fail
          go_meet
          case rel => exact ⟨_, gC, _, rfl, HLO.out, hs29, ⟨HRUN.out, HNL2.out, HTOLD.out, HDIS.out, hs29.bel⟩⟩
      · refine t4_hard rfl (by rfl) (fun K hK => ?_)
        go_wp2_with fail
        have hs30 := hs2.alloc #[.int .i64 (-1)] 2 (n := wd3.heap.size) (by simp)
        have HE1 := Lib.hid (rd_single (show I64 (-1) from ⟨by decide, by decide⟩) (hs30.cellAt 1 rfl 0 rfl))
        refine ⟨⟨hs30.cellAt 0 rfl 0 rfl, hs30.cellAt 0 rfl 1 rfl⟩, ?_⟩
        (repeat (first | (apply t4_skip rfl (by rfl); try simp only [Act.put, List.setIfInBounds_toArray, List.set_cons_zero, List.set_cons_succ]) | (apply t4_float rfl (by rfl); (· (intro w' hS; go_simp <;> with_reducible rfl)); (try simp only [Act.put, List.setIfInBounds_toArray, List.set_cons_zero, List.set_cons_succ]))))
        refine t4_fork2 ?_ ?_
        · refine t4_hard rfl (by rfl) (fun K hK => ?_)
          refine wp_make_nils _ _ _ 178 rfl E_lookss n (by omega) rfl rfl ?_
          intro gC wK hgC1 hgC2 hnil hbK
          (try simp at hgC1)
          have HNL := Lib.hid hnil
          have HBK := Lib.hid (Below.refl wK.heap.size wK)
          clear hnil
          have hz_wK : wd3.heap.size + 1 ≤ wK.heap.size := by have h9 := hbK.size; (try simp at h9); omega
          have hs31 := hs30.step hbK
          have HE1_32 := Lib.hid (Rd.mono HE1.out hbK)
          clear HE1
          refine hK _ _ ⟨⟨hs31.cellAt 0 rfl 0 rfl, hs31.cellAt 0 rfl 1 rfl⟩, ?_⟩
          (repeat (first | (apply t4_skip rfl (by rfl); try simp only [Act.put, List.setIfInBounds_toArray, List.set_cons_zero, List.set_cons_succ]) | (apply t4_float rfl (by rfl); (· (intro w' hS; go_simp <;> with_reducible rfl)); (try simp only [Act.put, List.setIfInBounds_toArray, List.set_cons_zero, List.set_cons_succ]))))
          refine t4_hard rfl (by rfl) (fun K hK => ?_)
          go_wp2_with (go_at_call 91; refine (power_c size m _ (by omega) (by omega) (by omega) (by rw [Int.toNat_natCast, HNS.out]; omega)).mono ?_; rintro e w33 ⟨rfl, rfl⟩)
          rw [HNS.out]
          refine ⟨⟨hs31.cellAt 0 rfl 0 rfl, hs31.cellAt 0 rfl 1 rfl⟩, ?_⟩
          (repeat (first | (apply t4_skip rfl (by rfl); try simp only [Act.put, List.setIfInBounds_toArray, List.set_cons_zero, List.set_cons_succ]) | (apply t4_float rfl (by rfl); (· (intro w' hS; go_simp <;> with_reducible rfl)); (try simp only [Act.put, List.setIfInBounds_toArray, List.set_cons_zero, List.set_cons_succ]))))
          refine t4_hard rfl (by rfl) (fun K hK => ?_)
          go_wp2_with (go_at_call 158; refine (repeatInts_c (-1) n _ _ HE1_32.out hn1 HNC.out).mono ?_; rintro e w34 ⟨v9, rfl, fr9, hbw34⟩)
          have hz_w34 : wK.heap.size ≤ w34.heap.size := by have h9 := hbw34.size; (try simp at h9); omega
          have hs35 := hs31.step hbw34
          have HE1_36 := Lib.hid (Rd.mono HE1_32.out hbw34)
          clear HE1_32
          have HBK_37 := Lib.hid (HBK.out.trans ((hbw34).mono HBK.out.size))
          clear HBK
          obtain ⟨a9, c9, rfl, _⟩ := rd_list fr9.rd
          rw [List.length_replicate] at fr9 ⊢
          have HIV := Lib.hid fr9.iv
          clear fr9
          refine ⟨⟨hs35.cellAt 0 rfl 0 rfl, hs35.cellAt 0 rfl 1 rfl⟩, ?_⟩
          (repeat (first | (apply t4_skip rfl (by rfl); try simp only [Act.put, List.setIfInBounds_toArray, List.set_cons_zero, List.set_cons_succ]) | (apply t4_float rfl (by rfl); (· (intro w' hS; go_simp <;> with_reducible rfl)); (try simp only [Act.put, List.setIfInBounds_toArray, List.set_cons_zero, List.set_cons_succ]))))
          refine t4_hard rfl (by rfl) (fun K hK => ?_)
          go_wp2_with fail
          have hs38 := hs35.alloc #[.int .i64 size, .slice at0 rs.length ct0, .int .i64 m, .slice (some ⟨gC, 0, none⟩) n n, .slice none 0 0, .slice a9 n c9, .int .i64 0, .slice none 0 0] 182 (n := w34.heap.size) (by simp)
          have HE1_39 := Lib.hid (Rd.mono HE1_36.out (belowA _ (.cells #[.int .i64 size, .slice at0 rs.length ct0, .int .i64 m, .slice (some ⟨gC, 0, none⟩) n n, .slice none 0 0, .slice a9 n c9, .int .i64 0, .slice none 0 0] 182)))
          clear HE1_36
          have HBK_40 := Lib.hid (HBK_37.out.trans (((belowA _ (.cells #[.int .i64 size, .slice at0 rs.length ct0, .int .i64 m, .slice (some ⟨gC, 0, none⟩) n n, .slice none 0 0, .slice a9 n c9, .int .i64 0, .slice none 0 0] 182))).mono HBK_37.out.size))
          clear HBK_37
          have HIV_41 := Lib.hid (Iv.mono HIV.out (belowA _ (.cells #[.int .i64 size, .slice at0 rs.length ct0, .int .i64 m, .slice (some ⟨gC, 0, none⟩) n n, .slice none 0 0, .slice a9 n c9, .int .i64 0, .slice none 0 0] 182)))
          clear HIV
          refine ⟨⟨hs38.cellAt 0 rfl 0 rfl, hs38.cellAt 0 rfl 1 rfl⟩, ?_⟩
          (repeat (first | (apply t4_skip rfl (by rfl); try simp only [Act.put, List.setIfInBounds_toArray, List.set_cons_zero, List.set_cons_succ]) | (apply t4_float rfl (by rfl); (· (intro w' hS; go_simp <;> with_reducible rfl)); (try simp only [Act.put, List.setIfInBounds_toArray, List.set_cons_zero, List.set_cons_succ]))))
          have k0_0 := hs38.cellAt 0 rfl 0 rfl
          have k0_1 := hs38.cellAt 0 rfl 1 rfl
          have k1_0 := hs38.cellAt 1 rfl 0 rfl
          have k2_0 := hs38.cellAt 2 rfl 0 rfl
          have k2_1 := hs38.cellAt 2 rfl 1 rfl
          have k2_2 := hs38.cellAt 2 rfl 2 rfl
          have k2_3 := hs38.cellAt 2 rfl 3 rfl
          have k2_4 := hs38.cellAt 2 rfl 4 rfl
          have k2_5 := hs38.cellAt 2 rfl 5 rfl
          have k2_6 := hs38.cellAt 2 rfl 6 rfl
          have k2_7 := hs38.cellAt 2 rfl 7 rfl
          refine t4_nil (NoPanic.normal ?_)
          have HRUN := Lib.hid (hs38.box (w34.heap.size, #[.int .i64 size, .slice at0 rs.length ct0, .int .i64 m, .slice (some ⟨gC, 0, none⟩) n n, .slice none 0 0, .slice a9 n c9, .int .i64 0, .slice none 0 0], 182) (by simp)).2.2
          have HNL2 := Lib.hid (HNL.out.mono HBK_40.out)
          have HDIS := Lib.hid (show w34.heap.size ≠ gC ∧ (w.heap.size ≤ w34.heap.size ∧ w.heap.size ≤ gC) ∧ (w34.heap.size < (w34.alloc (.cells #[.int .i64 size, .slice at0 rs.length ct0, .int .i64 m, .slice (some ⟨gC, 0, none⟩) n n, .slice none 0 0, .slice a9 n c9, .int .i64 0, .slice none 0 0] 182)).heap.size ∧ gC < (w34.alloc (.cells #[.int .i64 size, .slice at0 rs.length ct0, .int .i64 m, .slice (some ⟨gC, 0, none⟩) n n, .slice none 0 0, .slice a9 n c9, .int .i64 0, .slice none 0 0] 182)).heap.size) by (try simp); omega)
          have HTOLD := Lib.hid (show Ip (fun z => (w.heap.size ≤ z ∧ z < (w34.alloc (.cells #[.int .i64 size, .slice at0 rs.length ct0, .int .i64 m, .slice (some ⟨gC, 0, none⟩) n n, .slice none 0 0, .slice a9 n c9, .int .i64 0, .slice none 0 0] 182)).heap.size) ∧ z ≠ w34.heap.size ∧ z ≠ gC) _ [.slice a9 n c9] (List.replicate n (-1 : Int)) from (Ip.of_iv HIV_41.out).wk (fun z hz => by (try simp at hz ⊢); omega))
          have HLO := Lib.hid (show w.heap.size + 1 ≤ w34.heap.size ∧ w.heap.size + 1 ≤ gC by omega)
          clear HIV_41
          clear HBK_40
          clear HE1_39
          have hs42 := hs38.low (B' := w.heap.size + 1) (bx' := [(w.heap.size, #[.int .i64 size, .slice at0 rs.length ct0], 26)]) (by omega) (by (try simp) <;> omega) (fun x hx => by simp only [List.mem_cons, List.not_mem_nil, or_false] at hx; rcases hx with rfl <;> (refine ⟨?_, ?_⟩ <;> (try simp) <;> (try omega)))
          go_wp2_with fail
          go_meet
          case rel => exact ⟨_, gC, _, rfl, HLO.out, hs42, ⟨HRUN.out, HNL2.out, HTOLD.out, HDIS.out, hs42.bel⟩⟩
        · refine t4_hard rfl (by rfl) (fun K hK => ?_)
          go_wp2_with (go_at_call 91; refine (power_c size m _ (by omega) (by omega) (by omega) (by rw [Int.toNat_natCast, HNS.out]; omega)).mono ?_; rintro e w43 ⟨rfl, rfl⟩)
          rw [HNS.out]
          refine ⟨⟨hs30.cellAt 0 rfl 0 rfl, hs30.cellAt 0 rfl 1 rfl⟩, ?_⟩
          (repeat (first | (apply t4_skip rfl (by rfl); try simp only [Act.put, List.setIfInBounds_toArray, List.set_cons_zero, List.set_cons_succ]) | (apply t4_float rfl (by rfl); (· (intro w' hS; go_simp <;> with_reducible rfl)); (try simp only [Act.put, List.setIfInBounds_toArray, List.set_cons_zero, List.set_cons_succ]))))
          refine t4_fork2 ?_ ?_
          · refine t4_hard rfl (by rfl) (fun K hK => ?_)
            refine wp_make_nils _ _ _ 178 rfl E_lookss n (by omega) rfl rfl ?_
            intro gC wK hgC1 hgC2 hnil hbK
            (try simp at hgC1)
            have HNL := Lib.hid hnil
            have HBK := Lib.hid (Below.refl wK.heap.size wK)
            clear hnil
            have hz_wK : wd3.heap.size + 1 ≤ wK.heap.size := by have h9 := hbK.size; (try simp at h9); omega
            have hs44 := hs30.step hbK
            have HE1_45 := Lib.hid (Rd.mono HE1.out hbK)
            clear HE1
            refine hK _ _ ⟨⟨hs44.cellAt 0 rfl 0 rfl, hs44.cellAt 0 rfl 1 rfl⟩, ?_⟩
            (repeat (first | (apply t4_skip rfl (by rfl); try simp only [Act.put, List.setIfInBounds_toArray, List.set_cons_zero, List.set_cons_succ]) | (apply t4_float rfl (by rfl); (· (intro w' hS; go_simp <;> with_reducible rfl)); (try simp only [Act.put, List.setIfInBounds_toArray, List.set_cons_zero, List.set_cons_succ]))))
            refine t4_hard rfl (by rfl) (fun K hK => ?_)
            go_wp2_with (go_at_call 158; refine (repeatInts_c (-1) n _ _ HE1_45.out hn1 HNC.out).mono ?_; rintro e w46 ⟨v9, rfl, fr9, hbw46⟩)
            have hz_w46 : wK.heap.size ≤ w46.heap.size := by have h9 := hbw46.size; (try simp at h9); omega
            have hs47 := hs44.step hbw46
            have HE1_48 := Lib.hid (Rd.mono HE1_45.out hbw46)
            clear HE1_45
            have HBK_49 := Lib.hid (HBK.out.trans ((hbw46).mono HBK.out.size))
            clear HBK
            obtain ⟨a9, c9, rfl, _⟩ := rd_list fr9.rd
            rw [List.length_replicate] at fr9 ⊢
            have HIV := Lib.hid fr9.iv
            clear fr9
            refine ⟨⟨hs47.cellAt 0 rfl 0 rfl, hs47.cellAt 0 rfl 1 rfl⟩, ?_⟩
            (repeat (first | (apply t4_skip rfl (by rfl); try simp only [Act.put, List.setIfInBounds_toArray, List.set_cons_zero, List.set_cons_succ]) | (apply t4_float rfl (by rfl); (· (intro w' hS; go_simp <;> with_reducible rfl)); (try simp only [Act.put, List.setIfInBounds_toArray, List.set_cons_zero, List.set_cons_succ]))))
            refine t4_hard rfl (by rfl) (fun K hK => ?_)
            go_wp2_with fail
            have hs50 := hs47.alloc #[.int .i64 size, .slice at0 rs.length ct0, .int .i64 m, .slice (some ⟨gC, 0, none⟩) n n, .slice none 0 0, .slice a9 n c9, .int .i64 0, .slice none 0 0] 182 (n := w46.heap.size) (by simp)
            have HE1_51 := Lib.hid (Rd.mono HE1_48.out (belowA _ (.cells #[.int .i64 size, .slice at0 rs.length ct0, .int .i64 m, .slice (some ⟨gC, 0, none⟩) n n, .slice none 0 0, .slice a9 n c9, .int .i64 0, .slice none 0 0] 182)))
            clear HE1_48
            have HBK_52 := Lib.hid (HBK_49.out.trans (((belowA _ (.cells #[.int .i64 size, .slice at0 rs.length ct0, .int .i64 m, .slice (some ⟨gC, 0, none⟩) n n, .slice none 0 0, .slice a9 n c9, .int .i64 0, .slice none 0 0] 182))).mono HBK_49.out.size))
            clear HBK_49
            have HIV_53 := Lib.hid (Iv.mono HIV.out (belowA _ (.cells #[.int .i64 size, .slice at0 rs.length ct0, .int .i64 m, .slice (some ⟨gC, 0, none⟩) n n, .slice none 0 0, .slice a9 n c9, .int .i64 0, .slice none 0 0] 182)))
            clear HIV
            refine ⟨⟨hs50.cellAt 0 rfl 0 rfl, hs50.cellAt 0 rfl 1 rfl⟩, ?_⟩
            (repeat (first | (apply t4_skip rfl (by rfl); try simp only [Act.put, List.setIfInBounds_toArray, List.set_cons_zero, List.set_cons_succ]) | (apply t4_float rfl (by rfl); (· (intro w' hS; go_simp <;> with_reducible rfl)); (try simp only [Act.put, List.setIfInBounds_toArray, List.set_cons_zero, List.set_cons_succ]))))
            have k0_0 := hs50.cellAt 0 rfl 0 rfl
            have k0_1 := hs50.cellAt 0 rfl 1 rfl
            have k1_0 := hs50.cellAt 1 rfl 0 rfl
            have k2_0 := hs50.cellAt 2 rfl 0 rfl
            have k2_1 := hs50.cellAt 2 rfl 1 rfl
            have k2_2 := hs50.cellAt 2 rfl 2 rfl
            have k2_3 := hs50.cellAt 2 rfl 3 rfl
            have k2_4 := hs50.cellAt 2 rfl 4 rfl
            have k2_5 := hs50.cellAt 2 rfl 5 rfl
            have k2_6 := hs50.cellAt 2 rfl 6 rfl
            have k2_7 := hs50.cellAt 2 rfl 7 rfl
            refine t4_nil (NoPanic.normal ?_)
            have HRUN := Lib.hid (hs50.box (w46.heap.size, #[.int .i64 size, .slice at0 rs.length ct0, .int .i64 m, .slice (some ⟨gC, 0, none⟩) n n, .slice none 0 0, .slice a9 n c9, .int .i64 0, .slice none 0 0], 182) (by simp)).2.2
            have HNL2 := Lib.hid (HNL.out.mono HBK_52.out)
            have HDIS := Lib.hid (show w46.heap.size ≠ gC ∧ (w.heap.size ≤ w46.heap.size ∧ w.heap.size ≤ gC) ∧ (w46.heap.size < (w46.alloc (.cells #[.int .i64 size, .slice at0 rs.length ct0, .int .i64 m, .slice (some ⟨gC, 0, none⟩) n n, .slice none 0 0, .slice a9 n c9, .int .i64 0, .slice none 0 0] 182)).heap.size ∧ gC < (w46.alloc (.cells #[.int .i64 size, .slice at0 rs.length ct0, .int .i64 m, .slice (some ⟨gC, 0, none⟩) n n, .slice none 0 0, .slice a9 n c9, .int .i64 0, .slice none 0 0] 182)).heap.size) by (try simp); omega)
            have HTOLD := Lib.hid (show Ip (fun z => (w.heap.size ≤ z ∧ z < (w46.alloc (.cells #[.int .i64 size, .slice at0 rs.length ct0, .int .i64 m, .slice (some ⟨gC, 0, none⟩) n n, .slice none 0 0, .slice a9 n c9, .int .i64 0, .slice none 0 0] 182)).heap.size) ∧ z ≠ w46.heap.size ∧ z ≠ gC) _ [.slice a9 n c9] (List.replicate n (-1 : Int)) from (Ip.of_iv HIV_53.out).wk (fun z hz => by (try simp at hz ⊢); omega))
            have HLO := Lib.hid (show w.heap.size + 1 ≤ w46.heap.size ∧ w.heap.size + 1 ≤ gC by omega)
            clear HIV_53
            clear HBK_52
            clear HE1_51
            have hs54 := hs50.low (B' := w.heap.size + 1) (bx' := [(w.heap.size, #[.int .i64 size, .slice at0 rs.length ct0], 26)]) (by omega) (by (try simp) <;> omega) (fun x hx => by simp only [List.mem_cons, List.not_mem_nil, or_false] at hx; rcases hx with rfl <;> (refine ⟨?_, ?_⟩ <;> (try simp) <;> (try omega)))
            go_wp2_with fail
            go_meet
            case rel => exact ⟨_, gC, _, rfl, HLO.out, hs54, ⟨HRUN.out, HNL2.out, HTOLD.out, HDIS.out, hs54.bel⟩⟩
          · refine t4_hard rfl (by rfl) (fun K hK => ?_)
            go_wp2_with (go_at_call 158; refine (repeatInts_c (-1) n _ _ HE1.out hn1 HNC.out).mono ?_; rintro e w55 ⟨v9, rfl, fr9, hbw55⟩)
            have hz_w55 : wd3.heap.size + 1 ≤ w55.heap.size := by have h9 := hbw55.size; (try simp at h9); omega
            have hs56 := hs30.step hbw55
            have HE1_57 := Lib.hid (Rd.mono HE1.out hbw55)
            clear HE1
            obtain ⟨a9, c9, rfl, _⟩ := rd_list fr9.rd
            rw [List.length_replicate] at fr9 ⊢
            have HIV := Lib.hid fr9.iv
            clear fr9
            refine ⟨⟨hs56.cellAt 0 rfl 0 rfl, hs56.cellAt 0 rfl 1 rfl⟩, ?_⟩
            (repeat (first | (apply t4_skip rfl (by rfl); try simp only [Act.put, List.setIfInBounds_toArray, List.set_cons_zero, List.set_cons_succ]) | (apply t4_float rfl (by rfl); (· (intro w' hS; go_simp <;> with_reducible rfl)); (try simp only [Act.put, List.setIfInBounds_toArray, List.set_cons_zero, List.set_cons_succ]))))
            refine t4_hard rfl (by rfl) (fun K hK => ?_)
            refine wp_make_nils _ _ _ 178 rfl E_lookss n (by omega) rfl rfl ?_
            intro gC wK hgC1 hgC2 hnil hbK
            (try simp at hgC1)
            have HNL := Lib.hid hnil
            have HBK := Lib.hid (Below.refl wK.heap.size wK)
            clear hnil
            have hz_wK : w55.heap.size ≤ wK.heap.size := by have h9 := hbK.size; (try simp at h9); omega
            have hs58 := hs56.step hbK
            have HE1_59 := Lib.hid (Rd.mono HE1_57.out hbK)
            clear HE1_57
            have HIV_60 := Lib.hid (Iv.mono HIV.out hbK)
            clear HIV
            refine hK _ _ ⟨⟨hs58.cellAt 0 rfl 0 rfl, hs58.cellAt 0 rfl 1 rfl⟩, ?_⟩
            (repeat (first | (apply t4_skip rfl (by rfl); try simp only [Act.put, List.setIfInBounds_toArray, List.set_cons_zero, List.set_cons_succ]) | (apply t4_float rfl (by rfl); (· (intro w' hS; go_simp <;> with_reducible rfl)); (try simp only [Act.put, List.setIfInBounds_toArray, List.set_cons_zero, List.set_cons_succ]))))
            refine t4_hard rfl (by rfl) (fun K hK => ?_)
            go_wp2_with fail
            have hs61 := hs58.alloc #[.int .i64 size, .slice at0 rs.length ct0, .int .i64 m, .slice (some ⟨gC, 0, none⟩) n n, .slice none 0 0, .slice a9 n c9, .int .i64 0, .slice none 0 0] 182 (n := wK.heap.size) (by simp)
            have HE1_62 := Lib.hid (Rd.mono HE1_59.out (belowA _ (.cells #[.int .i64 size, .slice at0 rs.length ct0, .int .i64 m, .slice (some ⟨gC, 0, none⟩) n n, .slice none 0 0, .slice a9 n c9, .int .i64 0, .slice none 0 0] 182)))
            clear HE1_59
            have HIV_63 := Lib.hid (Iv.mono HIV_60.out (belowA _ (.cells #[.int .i64 size, .slice at0 rs.length ct0, .int .i64 m, .slice (some ⟨gC, 0, none⟩) n n, .slice none 0 0, .slice a9 n c9, .int .i64 0, .slice none 0 0] 182)))
            clear HIV_60
            have HBK_64 := Lib.hid (HBK.out.trans (((belowA _ (.cells #[.int .i64 size, .slice at0 rs.length ct0, .int .i64 m, .slice (some ⟨gC, 0, none⟩) n n, .slice none 0 0, .slice a9 n c9, .int .i64 0, .slice none 0 0] 182))).mono HBK.out.size))
            clear HBK
            refine ⟨⟨hs61.cellAt 0 rfl 0 rfl, hs61.cellAt 0 rfl 1 rfl⟩, ?_⟩
            (repeat (first | (apply t4_skip rfl (by rfl); try simp only [Act.put, List.setIfInBounds_toArray, List.set_cons_zero, List.set_cons_succ]) | (apply t4_float rfl (by rfl); (· (intro w' hS; go_simp <;> with_reducible rfl)); (try simp only [Act.put, List.setIfInBounds_toArray, List.set_cons_zero, List.set_cons_succ]))))
            have k0_0 := hs61.cellAt 0 rfl 0 rfl
            have k0_1 := hs61.cellAt 0 rfl 1 rfl
            have k1_0 := hs61.cellAt 1 rfl 0 rfl
            have k2_0 := hs61.cellAt 2 rfl 0 rfl
            have k2_1 := hs61.cellAt 2 rfl 1 rfl
            have k2_2 := hs61.cellAt 2 rfl 2 rfl
            have k2_3 := hs61.cellAt 2 rfl 3 rfl
            have k2_4 := hs61.cellAt 2 rfl 4 rfl
            have k2_5 := hs61.cellAt 2 rfl 5 rfl
            have k2_6 := hs61.cellAt 2 rfl 6 rfl
            have k2_7 := hs61.cellAt 2 rfl 7 rfl
            refine t4_nil (NoPanic.normal ?_)
            have HRUN := Lib.hid (hs61.box (wK.heap.size, #[.int .i64 size, .slice at0 rs.length ct0, .int .i64 m, .slice (some ⟨gC, 0, none⟩) n n, .slice none 0 0, .slice a9 n c9, .int .i64 0, .slice none 0 0], 182) (by simp)).2.2
            have HNL2 := Lib.hid (HNL.out.mono HBK_64.out)
            have HDIS := Lib.hid (show wK.heap.size ≠ gC ∧ (w.heap.size ≤ wK.heap.size ∧ w.heap.size ≤ gC) ∧ (wK.heap.size < (wK.alloc (.cells #[.int .i64 size, .slice at0 rs.length ct0, .int .i64 m, .slice (some ⟨gC, 0, none⟩) n n, .slice none 0 0, .slice a9 n c9, .int .i64 0, .slice none 0 0] 182)).heap.size ∧ gC < (wK.alloc (.cells #[.int .i64 size, .slice at0 rs.length ct0, .int .i64 m, .slice (some ⟨gC, 0, none⟩) n n, .slice none 0 0, .slice a9 n c9, .int .i64 0, .slice none 0 0] 182)).heap.size) by (try simp); omega)
            have HTOLD := Lib.hid (show Ip (fun z => (w.heap.size ≤ z ∧ z < (wK.alloc (.cells #[.int .i64 size, .slice at0 rs.length ct0, .int .i64 m, .slice (some ⟨gC, 0, none⟩) n n, .slice none 0 0, .slice a9 n c9, .int .i64 0, .slice none 0 0] 182)).heap.size) ∧ z ≠ wK.heap.size ∧ z ≠ gC) _ [.slice a9 n c9] (List.replicate n (-1 : Int)) from (Ip.of_iv HIV_63.out).wk (fun z hz => by (try simp at hz ⊢); omega))
            have HLO := Lib.hid (show w.heap.size + 1 ≤ wK.heap.size ∧ w.heap.size + 1 ≤ gC by omega)
            clear HIV_63
            clear HBK_64
            clear HE1_62
            have hs65 := hs61.low (B' := w.heap.size + 1) (bx' := [(w.heap.size, #[.int .i64 size, .slice at0 rs.length ct0], 26)]) (by omega) (by (try simp) <;> omega) (fun x hx => by simp only [List.mem_cons, List.not_mem_nil, or_false] at hx; rcases hx with rfl <;> (refine ⟨?_, ?_⟩ <;> (try simp) <;> (try omega)))
            go_wp2_with fail
            go_meet
            case rel => exact ⟨_, gC, _, rfl, HLO.out, hs65, ⟨HRUN.out, HNL2.out, HTOLD.out, HDIS.out, hs65.bel⟩⟩
      · refine t4_hard rfl (by rfl) (fun K hK => ?_)
        go_wp2_with (go_at_call 91; refine (power_c size m _ (by omega) (by omega) (by omega) (by rw [Int.toNat_natCast, HNS.out]; omega)).mono ?_; rintro e w66 ⟨rfl, rfl⟩)
        rw [HNS.out]
        refine ⟨⟨hs2.cellAt 0 rfl 0 rfl, hs2.cellAt 0 rfl 1 rfl⟩, ?_⟩
        (repeat (first | (apply t4_skip rfl (by rfl); try simp only [Act.put, List.setIfInBounds_toArray, List.set_cons_zero, List.set_cons_succ]) | (apply t4_float rfl (by rfl); (· (intro w' hS; go_simp <;> with_reducible rfl)); (try simp only [Act.put, List.setIfInBounds_toArray, List.set_cons_zero, List.set_cons_succ]))))
        refine t4_fork2 ?_ ?_
        · refine t4_hard rfl (by rfl) (fun K hK => ?_)
          refine wp_make_nils _ _ _ 178 rfl E_lookss n (by omega) rfl rfl ?_
          intro gC wK hgC1 hgC2 hnil hbK
          (try simp at hgC1)
          have HNL := Lib.hid hnil
          have HBK := Lib.hid (Below.refl wK.heap.size wK)
          clear hnil
          have hz_wK : wd3.heap.size ≤ wK.heap.size := by have h9 := hbK.size; (try simp at h9); omega
          have hs67 := hs2.step hbK
          refine hK _ _ ⟨⟨hs67.cellAt 0 rfl 0 rfl, hs67.cellAt 0 rfl 1 rfl⟩, ?_⟩
          (repeat (first | (apply t4_skip rfl (by rfl); try simp only [Act.put, List.setIfInBounds_toArray, List.set_cons_zero, List.set_cons_succ]) | (apply t4_float rfl (by rfl); (· (intro w' hS; go_simp <;> with_reducible rfl)); (try simp only [Act.put, List.setIfInBounds_toArray, List.set_cons_zero, List.set_cons_succ]))))
          refine t4_hard rfl (by rfl) (fun K hK => ?_)
          go_wp2_with fail
          have hs68 := hs67.alloc #[.int .i64 (-1)] 2 (n := wK.heap.size) (by simp)
          have HBK_69 := Lib.hid (HBK.out.trans (((belowA _ (.cells #[.int .i64 (-1)] 2))).mono HBK.out.size))
          clear HBK
          have HE1 := Lib.hid (rd_single (show I64 (-1) from ⟨by decide, by decide⟩) (hs68.cellAt 1 rfl 0 rfl))
          refine ⟨⟨hs68.cellAt 0 rfl 0 rfl, hs68.cellAt 0 rfl 1 rfl⟩, ?_⟩
          (repeat (first | (apply t4_skip rfl (by rfl); try simp only [Act.put, List.setIfInBounds_toArray, List.set_cons_zero, List.set_cons_succ]) | (apply t4_float rfl (by rfl); (· (intro w' hS; go_simp <;> with_reducible rfl)); (try simp only [Act.put, List.setIfInBounds_toArray, List.set_cons_zero, List.set_cons_succ]))))
          refine t4_hard rfl (by rfl) (fun K hK => ?_)
          go_wp2_with (go_at_call 158; refine (repeatInts_c (-1) n _ _ HE1.out hn1 HNC.out).mono ?_; rintro e w70 ⟨v9, rfl, fr9, hbw70⟩)
          have hz_w70 : wK.heap.size + 1 ≤ w70.heap.size := by have h9 := hbw70.size; (try simp at h9); omega
          have hs71 := hs68.step hbw70
          have HBK_72 := Lib.hid (HBK_69.out.trans ((hbw70).mono HBK_69.out.size))
          clear HBK_69
          have HE1_73 := Lib.hid (Rd.mono HE1.out hbw70)
          clear HE1
          obtain ⟨a9, c9, rfl, _⟩ := rd_list fr9.rd
          rw [List.length_replicate] at fr9 ⊢
          have HIV := Lib.hid fr9.iv
          clear fr9
          refine ⟨⟨hs71.cellAt 0 rfl 0 rfl, hs71.cellAt 0 rfl 1 rfl⟩, ?_⟩
          (repeat (first | (apply t4_skip rfl (by rfl); try simp only [Act.put, List.setIfInBounds_toArray, List.set_cons_zero, List.set_cons_succ]) | (apply t4_float rfl (by rfl); (· (intro w' hS; go_simp <;> with_reducible rfl)); (try simp only [Act.put, List.setIfInBounds_toArray, List.set_cons_zero, List.set_cons_succ]))))
          refine t4_hard rfl (by rfl) (fun K hK => ?_)
          go_wp2_with fail
          have hs74 := hs71.alloc #[.int .i64 size, .slice at0 rs.length ct0, .int .i64 m, .slice (some ⟨gC, 0, none⟩) n n, .slice none 0 0, .slice a9 n c9, .int .i64 0, .slice none 0 0] 182 (n := w70.heap.size) (by simp)
          have HBK_75 := Lib.hid (HBK_72.out.trans (((belowA _ (.cells #[.int .i64 size, .slice at0 rs.length ct0, .int .i64 m, .slice (some ⟨gC, 0, none⟩) n n, .slice none 0 0, .slice a9 n c9, .int .i64 0, .slice none 0 0] 182))).mono HBK_72.out.size))
          clear HBK_72
          have HE1_76 := Lib.hid (Rd.mono HE1_73.out (belowA _ (.cells #[.int .i64 size, .slice at0 rs.length ct0, .int .i64 m, .slice (some ⟨gC, 0, none⟩) n n, .slice none 0 0, .slice a9 n c9, .int .i64 0, .slice none 0 0] 182)))
          clear HE1_73
          have HIV_77 := Lib.hid (Iv.mono HIV.out (belowA _ (.cells #[.int .i64 size, .slice at0 rs.length ct0, .int .i64 m, .slice (some ⟨gC, 0, none⟩) n n, .slice none 0 0, .slice a9 n c9, .int .i64 0, .slice none 0 0] 182)))
          clear HIV
          refine ⟨⟨hs74.cellAt 0 rfl 0 rfl, hs74.cellAt 0 rfl 1 rfl⟩, ?_⟩
          (repeat (first | (apply t4_skip rfl (by rfl); try simp only [Act.put, List.setIfInBounds_toArray, List.set_cons_zero, List.set_cons_succ]) | (apply t4_float rfl (by rfl); (· (intro w' hS; go_simp <;> with_reducible rfl)); (try simp only [Act.put, List.setIfInBounds_toArray, List.set_cons_zero, List.set_cons_succ]))))
          have k0_0 := hs74.cellAt 0 rfl 0 rfl
          have k0_1 := hs74.cellAt 0 rfl 1 rfl
          have k1_0 := hs74.cellAt 1 rfl 0 rfl
          have k2_0 := hs74.cellAt 2 rfl 0 rfl
          have k2_1 := hs74.cellAt 2 rfl 1 rfl
          have k2_2 := hs74.cellAt 2 rfl 2 rfl
          have k2_3 := hs74.cellAt 2 rfl 3 rfl
          have k2_4 := hs74.cellAt 2 rfl 4 rfl
          have k2_5 := hs74.cellAt 2 rfl 5 rfl
          have k2_6 := hs74.cellAt 2 rfl 6 rfl
          have k2_7 := hs74.cellAt 2 rfl 7 rfl
          refine t4_nil (NoPanic.normal ?_)
          have HRUN := Lib.hid (hs74.box (w70.heap.size, #[.int .i64 size, .slice at0 rs.length ct0, .int .i64 m, .slice (some ⟨gC, 0, none⟩) n n, .slice none 0 0, .slice a9 n c9, .int .i64 0, .slice none 0 0], 182) (by simp)).2.2
          have HNL2 := Lib.hid (HNL.out.mono HBK_75.out)
          have HDIS := Lib.hid (show w70.heap.size ≠ gC ∧ (w.heap.size ≤ w70.heap.size ∧ w.heap.size ≤ gC) ∧ (w70.heap.size < (w70.alloc (.cells #[.int .i64 size, .slice at0 rs.length ct0, .int .i64 m, .slice (some ⟨gC, 0, none⟩) n n, .slice none 0 0, .slice a9 n c9, .int .i64 0, .slice none 0 0] 182)).heap.size ∧ gC < (w70.alloc (.cells #[.int .i64 size, .slice at0 rs.length ct0, .int .i64 m, .slice (some ⟨gC, 0, none⟩) n n, .slice none 0 0, .slice a9 n c9, .int .i64 0, .slice none 0 0] 182)).heap.size) by (try simp); omega)
          have HTOLD := Lib.hid (show Ip (fun z => (w.heap.size ≤ z ∧ z < (w70.alloc (.cells #[.int .i64 size, .slice at0 rs.length ct0, .int .i64 m, .slice (some ⟨gC, 0, none⟩) n n, .slice none 0 0, .slice a9 n c9, .int .i64 0, .slice none 0 0] 182)).heap.size) ∧ z ≠ w70.heap.size ∧ z ≠ gC) _ [.slice a9 n c9] (List.replicate n (-1 : Int)) from (Ip.of_iv HIV_77.out).wk (fun z hz => by (try simp at hz ⊢); omega))
          have HLO := Lib.hid (show w.heap.size + 1 ≤ w70.heap.size ∧ w.heap.size + 1 ≤ gC by omega)
          clear HIV_77
          clear HBK_75
          clear HE1_76
          have hs78 := hs74.low (B' := w.heap.size + 1) (bx' := [(w.heap.size, #[.int .i64 size, .slice at0 rs.length ct0], 26)]) (by omega) (by (try simp) <;> omega) (fun x hx => by simp only [List.mem_cons, List.not_mem_nil, or_false] at hx; rcases hx with rfl <;> (refine ⟨?_, ?_⟩ <;> (try simp) <;> (try omega)))
          go_wp2_with fail
          go_meet
          case rel => exact ⟨_, gC, _, rfl, HLO.out, hs78, ⟨HRUN.out, HNL2.out, HTOLD.out, HDIS.out, hs78.bel⟩⟩
        · refine t4_hard rfl (by rfl) (fun K hK => ?_)
          go_wp2_with fail
          have hs79 := hs2.alloc #[.int .i64 (-1)] 2 (n := wd3.heap.size) (by simp)
          have HE1 := Lib.hid (rd_single (show I64 (-1) from ⟨by decide, by decide⟩) (hs79.cellAt 1 rfl 0 rfl))
          refine ⟨⟨hs79.cellAt 0 rfl 0 rfl, hs79.cellAt 0 rfl 1 rfl⟩, ?_⟩
          (repeat (first | (apply t4_skip rfl (by rfl); try simp only [Act.put, List.setIfInBounds_toArray, List.set_cons_zero, List.set_cons_succ]) | (apply t4_float rfl (by rfl); (· (intro w' hS; go_simp <;> with_reducible rfl)); (try simp only [Act.put, List.setIfInBounds_toArray, List.set_cons_zero, List.set_cons_succ]))))
          refine t4_fork2 ?_ ?_
          · refine t4_hard rfl (by rfl) (fun K hK => ?_)
            refine wp_make_nils _ _ _ 178 rfl E_lookss n (by omega) rfl rfl ?_
            intro gC wK hgC1 hgC2 hnil hbK
            (try simp at hgC1)
            have HNL := Lib.hid hnil
            have HBK := Lib.hid (Below.refl wK.heap.size wK)
            clear hnil
            have hz_wK : wd3.heap.size + 1 ≤ wK.heap.size := by have h9 := hbK.size; (try simp at h9); omega
            have hs80 := hs79.step hbK
            have HE1_81 := Lib.hid (Rd.mono HE1.out hbK)
            clear HE1
            refine hK _ _ ⟨⟨hs80.cellAt 0 rfl 0 rfl, hs80.cellAt 0 rfl 1 rfl⟩, ?_⟩
            (repeat (first | (apply t4_skip rfl (by rfl); try simp only [Act.put, List.setIfInBounds_toArray, List.set_cons_zero, List.set_cons_succ]) | (apply t4_float rfl (by rfl); (· (intro w' hS; go_simp <;> with_reducible rfl)); (try simp only [Act.put, List.setIfInBounds_toArray, List.set_cons_zero, List.set_cons_succ]))))
            refine t4_hard rfl (by rfl) (fun K hK => ?_)
            go_wp2_with (go_at_call 158; refine (repeatInts_c (-1) n _ _ HE1_81.out hn1 HNC.out).mono ?_; rintro e w82 ⟨v9, rfl, fr9, hbw82⟩)
            have hz_w82 : wK.heap.size ≤ w82.heap.size := by have h9 := hbw82.size; (try simp at h9); omega
            have hs83 := hs80.step hbw82
            have HE1_84 := Lib.hid (Rd.mono HE1_81.out hbw82)
            clear HE1_81
            have HBK_85 := Lib.hid (HBK.out.trans ((hbw82).mono HBK.out.size))
            clear HBK
            obtain ⟨a9, c9, rfl, _⟩ := rd_list fr9.rd
            rw [List.length_replicate] at fr9 ⊢
            have HIV := Lib.hid fr9.iv
            clear fr9
            refine ⟨⟨hs83.cellAt 0 rfl 0 rfl, hs83.cellAt 0 rfl 1 rfl⟩, ?_⟩
            (repeat (first | (apply t4_skip rfl (by rfl); try simp only [Act.put, List.setIfInBounds_toArray, List.set_cons_zero, List.set_cons_succ]) | (apply t4_float rfl (by rfl); (· (intro w' hS; go_simp <;> with_reducible rfl)); (try simp only [Act.put, List.setIfInBounds_toArray, List.set_cons_zero, List.set_cons_succ]))))
            refine t4_hard rfl (by rfl) (fun K hK => ?_)
            go_wp2_with fail
            have hs86 := hs83.alloc #[.int .i64 size, .slice at0 rs.length ct0, .int .i64 m, .slice (some ⟨gC, 0, none⟩) n n, .slice none 0 0, .slice a9 n c9, .int .i64 0, .slice none 0 0] 182 (n := w82.heap.size) (by simp)
            have HE1_87 := Lib.hid (Rd.mono HE1_84.out (belowA _ (.cells #[.int .i64 size, .slice at0 rs.length ct0, .int .i64 m, .slice (some ⟨gC, 0, none⟩) n n, .slice none 0 0, .slice a9 n c9, .int .i64 0, .slice none 0 0] 182)))
            clear HE1_84
            have HBK_88 := Lib.hid (HBK_85.out.trans (((belowA _ (.cells #[.int .i64 size, .slice at0 rs.length ct0, .int .i64 m, .slice (some ⟨gC, 0, none⟩) n n, .slice none 0 0, .slice a9 n c9, .int .i64 0, .slice none 0 0] 182))).mono HBK_85.out.size))
            clear HBK_85
            have HIV_89 := Lib.hid (Iv.mono HIV.out (belowA _ (.cells #[.int .i64 size, .slice at0 rs.length ct0, .int .i64 m, .slice (some ⟨gC, 0, none⟩) n n, .slice none 0 0, .slice a9 n c9, .int .i64 0, .slice none 0 0] 182)))
            clear HIV
            refine ⟨⟨hs86.cellAt 0 rfl 0 rfl, hs86.cellAt 0 rfl 1 rfl⟩, ?_⟩
            (repeat (first | (apply t4_skip rfl (by rfl); try simp only [Act.put, List.setIfInBounds_toArray, List.set_cons_zero, List.set_cons_succ]) | (apply t4_float rfl (by rfl); (· (intro w' hS; go_simp <;> with_reducible rfl)); (try simp only [Act.put, List.setIfInBounds_toArray, List.set_cons_zero, List.set_cons_succ]))))
            have k0_0 := hs86.cellAt 0 rfl 0 rfl
            have k0_1 := hs86.cellAt 0 rfl 1 rfl
            have k1_0 := hs86.cellAt 1 rfl 0 rfl
            have k2_0 := hs86.cellAt 2 rfl 0 rfl
            have k2_1 := hs86.cellAt 2 rfl 1 rfl
            have k2_2 := hs86.cellAt 2 rfl 2 rfl
            have k2_3 := hs86.cellAt 2 rfl 3 rfl
            have k2_4 := hs86.cellAt 2 rfl 4 rfl
            have k2_5 := hs86.cellAt 2 rfl 5 rfl
            have k2_6 := hs86.cellAt 2 rfl 6 rfl
            have k2_7 := hs86.cellAt 2 rfl 7 rfl
            refine t4_nil (NoPanic.normal ?_)
            have HRUN := Lib.hid (hs86.box (w82.heap.size, #[.int .i64 size, .slice at0 rs.length ct0, .int .i64 m, .slice (some ⟨gC, 0, none⟩) n n, .slice none 0 0, .slice a9 n c9, .int .i64 0, .slice none 0 0], 182) (by simp)).2.2
            have HNL2 := Lib.hid (HNL.out.mono HBK_88.out)
            have HDIS := Lib.hid (show w82.heap.size ≠ gC ∧ (w.heap.size ≤ w82.heap.size ∧ w.heap.size ≤ gC) ∧ (w82.heap.size < (w82.alloc (.cells #[.int .i64 size, .slice at0 rs.length ct0, .int .i64 m, .slice (some ⟨gC, 0, none⟩) n n, .slice none 0 0, .slice a9 n c9, .int .i64 0, .slice none 0 0] 182)).heap.size ∧ gC < (w82.alloc (.cells #[.int .i64 size, .slice at0 rs.length ct0, .int .i64 m, .slice (some ⟨gC, 0, none⟩) n n, .slice none 0 0, .slice a9 n c9, .int .i64 0, .slice none 0 0] 182)).heap.size) by (try simp); omega)
            have HTOLD := Lib.hid (show Ip (fun z => (w.heap.size ≤ z ∧ z < (w82.alloc (.cells #[.int .i64 size, .slice at0 rs.length ct0, .int .i64 m, .slice (some ⟨gC, 0, none⟩) n n, .slice none 0 0, .slice a9 n c9, .int .i64 0, .slice none 0 0] 182)).heap.size) ∧ z ≠ w82.heap.size ∧ z ≠ gC) _ [.slice a9 n c9] (List.replicate n (-1 : Int)) from (Ip.of_iv HIV_89.out).wk (fun z hz => by (try simp at hz ⊢); omega))
            have HLO := Lib.hid (show w.heap.size + 1 ≤ w82.heap.size ∧ w.heap.size + 1 ≤ gC by omega)
            clear HIV_89
            clear HBK_88
            clear HE1_87
            have hs90 := hs86.low (B' := w.heap.size + 1) (bx' := [(w.heap.size, #[.int .i64 size, .slice at0 rs.length ct0], 26)]) (by omega) (by (try simp) <;> omega) (fun x hx => by simp only [List.mem_cons, List.not_mem_nil, or_false] at hx; rcases hx with rfl <;> (refine ⟨?_, ?_⟩ <;> (try simp) <;> (try omega)))
            go_wp2_with fail
            go_meet
            case rel => exact ⟨_, gC, _, rfl, HLO.out, hs90, ⟨HRUN.out, HNL2.out, HTOLD.out, HDIS.out, hs90.bel⟩⟩
          · refine t4_hard rfl (by rfl) (fun K hK => ?_)
            go_wp2_with (go_at_call 158; refine (repeatInts_c (-1) n _ _ HE1.out hn1 HNC.out).mono ?_; rintro e w91 ⟨v9, rfl, fr9, hbw91⟩)
            have hz_w91 : wd3.heap.size + 1 ≤ w91.heap.size := by have h9 := hbw91.size; (try simp at h9); omega
            have hs92 := hs79.step hbw91
            have HE1_93 := Lib.hid (Rd.mono HE1.out hbw91)
            clear HE1
            obtain ⟨a9, c9, rfl, _⟩ := rd_list fr9.rd
            rw [List.length_replicate] at fr9 ⊢
            have HIV := Lib.hid fr9.iv
            clear fr9
            refine ⟨⟨hs92.cellAt 0 rfl 0 rfl, hs92.cellAt 0 rfl 1 rfl⟩, ?_⟩
            (repeat (first | (apply t4_skip rfl (by rfl); try simp only [Act.put, List.setIfInBounds_toArray, List.set_cons_zero, List.set_cons_succ]) | (apply t4_float rfl (by rfl); (· (intro w' hS; go_simp <;> with_reducible rfl)); (try simp only [Act.put, List.setIfInBounds_toArray, List.set_cons_zero, List.set_cons_succ]))))
            refine t4_hard rfl (by rfl) (fun K hK => ?_)
            refine wp_make_nils _ _ _ 178 rfl E_lookss n (by omega) rfl rfl ?_
            intro gC wK hgC1 hgC2 hnil hbK
            (try simp at hgC1)
            have HNL := Lib.hid hnil
            have HBK := Lib.hid (Below.refl wK.heap.size wK)
            clear hnil
            have hz_wK : w91.heap.size ≤ wK.heap.size := by have h9 := hbK.size; (try simp at h9); omega
            have hs94 := hs92.step hbK
            have HE1_95 := Lib.hid (Rd.mono HE1_93.out hbK)
            clear HE1_93
            have HIV_96 := Lib.hid (Iv.mono HIV.out hbK)
            clear HIV
            refine hK _ _ ⟨⟨hs94.cellAt 0 rfl 0 rfl, hs94.cellAt 0 rfl 1 rfl⟩, ?_⟩
            (repeat (first | (apply t4_skip rfl (by rfl); try simp only [Act.put, List.setIfInBounds_toArray, List.set_cons_zero, List.set_cons_succ]) | (apply t4_float rfl (by rfl); (· (intro w' hS; go_simp <;> with_reducible rfl)); (try simp only [Act.put, List.setIfInBounds_toArray, List.set_cons_zero, List.set_cons_succ]))))
            refine t4_hard rfl (by rfl) (fun K hK => ?_)
            go_wp2_with fail
            have hs97 := hs94.alloc #[.int .i64 size, .slice at0 rs.length ct0, .int .i64 m, .slice (some ⟨gC, 0, none⟩) n n, .slice none 0 0, .slice a9 n c9, .int .i64 0, .slice none 0 0] 182 (n := wK.heap.size) (by simp)
            have HE1_98 := Lib.hid (Rd.mono HE1_95.out (belowA _ (.cells #[.int .i64 size, .slice at0 rs.length ct0, .int .i64 m, .slice (some ⟨gC, 0, none⟩) n n, .slice none 0 0, .slice a9 n c9, .int .i64 0, .slice none 0 0] 182)))
            clear HE1_95
            have HIV_99 := Lib.hid (Iv.mono HIV_96.out (belowA _ (.cells #[.int .i64 size, .slice at0 rs.length ct0, .int .i64 m, .slice (some ⟨gC, 0, none⟩) n n, .slice none 0 0, .slice a9 n c9, .int .i64 0, .slice none 0 0] 182)))
            clear HIV_96
            have HBK_100 := Lib.hid (HBK.out.trans (((belowA _ (.cells #[.int .i64 size, .slice at0 rs.length ct0, .int .i64 m, .slice (some ⟨gC, 0, none⟩) n n, .slice none 0 0, .slice a9 n c9, .int .i64 0, .slice none 0 0] 182))).mono HBK.out.size))
            clear HBK
            refine ⟨⟨hs97.cellAt 0 rfl 0 rfl, hs97.cellAt 0 rfl 1 rfl⟩, ?_⟩
            (repeat (first | (apply t4_skip rfl (by rfl); try simp only [Act.put, List.setIfInBounds_toArray, List.set_cons_zero, List.set_cons_succ]) | (apply t4_float rfl (by rfl); (· (intro w' hS; go_simp <;> with_reducible rfl)); (try simp only [Act.put, List.setIfInBounds_toArray, List.set_cons_zero, List.set_cons_succ]))))
            have k0_0 := hs97.cellAt 0 rfl 0 rfl
            have k0_1 := hs97.cellAt 0 rfl 1 rfl
            have k1_0 := hs97.cellAt 1 rfl 0 rfl
            have k2_0 := hs97.cellAt 2 rfl 0 rfl
            have k2_1 := hs97.cellAt 2 rfl 1 rfl
            have k2_2 := hs97.cellAt 2 rfl 2 rfl
            have k2_3 := hs97.cellAt 2 rfl 3 rfl
            have k2_4 := hs97.cellAt 2 rfl 4 rfl
            have k2_5 := hs97.cellAt 2 rfl 5 rfl
            have k2_6 := hs97.cellAt 2 rfl 6 rfl
            have k2_7 := hs97.cellAt 2 rfl 7 rfl
            refine t4_nil (NoPanic.normal ?_)
            have HRUN := Lib.hid (hs97.box (wK.heap.size, #[.int .i64 size, .slice at0 rs.length ct0, .int .i64 m, .slice (some ⟨gC, 0, none⟩) n n, .slice none 0 0, .slice a9 n c9, .int .i64 0, .slice none 0 0], 182) (by simp)).2.2
            have HNL2 := Lib.hid (HNL.out.mono HBK_100.out)
            have HDIS := Lib.hid (show wK.heap.size ≠ gC ∧ (w.heap.size ≤ wK.heap.size ∧ w.heap.size ≤ gC) ∧ (wK.heap.size < (wK.alloc (.cells #[.int .i64 size, .slice at0 rs.length ct0, .int .i64 m, .slice (some ⟨gC, 0, none⟩) n n, .slice none 0 0, .slice a9 n c9, .int .i64 0, .slice none 0 0] 182)).heap.size ∧ gC < (wK.alloc (.cells #[.int .i64 size, .slice at0 rs.length ct0, .int .i64 m, .slice (some ⟨gC, 0, none⟩) n n, .slice none 0 0, .slice a9 n c9, .int .i64 0, .slice none 0 0] 182)).heap.size) by (try simp); omega)
            have HTOLD := Lib.hid (show Ip (fun z => (w.heap.size ≤ z ∧ z < (wK.alloc (.cells #[.int .i64 size, .slice at0 rs.length ct0, .int .i64 m, .slice (some ⟨gC, 0, none⟩) n n, .slice none 0 0, .slice a9 n c9, .int .i64 0, .slice none 0 0] 182)).heap.size) ∧ z ≠ wK.heap.size ∧ z ≠ gC) _ [.slice a9 n c9] (List.replicate n (-1 : Int)) from (Ip.of_iv HIV_99.out).wk (fun z hz => by (try simp at hz ⊢); omega))
            have HLO := Lib.hid (show w.heap.size + 1 ≤ wK.heap.size ∧ w.heap.size + 1 ≤ gC by omega)
            clear HIV_99
            clear HBK_100
            clear HE1_98
            have hs101 := hs97.low (B' := w.heap.size + 1) (bx' := [(w.heap.size, #[.int .i64 size, .slice at0 rs.length ct0], 26)]) (by omega) (by (try simp) <;> omega) (fun x hx => by simp only [List.mem_cons, List.not_mem_nil, or_false] at hx; rcases hx with rfl <;> (refine ⟨?_, ?_⟩ <;> (try simp) <;> (try omega)))
            go_wp2_with fail
            go_meet
            case rel => exact ⟨_, gC, _, rfl, HLO.out, hs101, ⟨HRUN.out, HNL2.out, HTOLD.out, HDIS.out, hs101.bel⟩⟩
    · refine t4_hard rfl (by rfl) (fun K hK => ?_)
      go_wp2_with fail
      have hs102 := hs2.alloc #[.int .i64 (-1)] 2 (n := wd3.heap.size) (by simp)
      have HE1 := Lib.hid (rd_single (show I64 (-1) from ⟨by decide, by decide⟩) (hs102.cellAt 1 rfl 0 rfl))
      refine ⟨⟨hs102.cellAt 0 rfl 0 rfl, hs102.cellAt 0 rfl 1 rfl⟩, ?_⟩
      (repeat (first | (apply t4_skip rfl (by rfl); try simp only [Act.put, List.setIfInBounds_toArray, List.set_cons_zero, List.set_cons_succ]) | (apply t4_float rfl (by rfl); (· (intro w' hS; go_simp <;> with_reducible rfl)); (try simp only [Act.put, List.setIfInBounds_toArray, List.set_cons_zero, List.set_cons_succ]))))
      refine t4_hard rfl (by rfl) (fun K hK => ?_)
      go_wp2_with (go_at_call 91; refine (power_c size m _ (by omega) (by omega) (by omega) (by rw [Int.toNat_natCast, HNS.out]; omega)).mono ?_; rintro e w103 ⟨rfl, rfl⟩)
      rw [HNS.out]
      refine ⟨⟨hs102.cellAt 0 rfl 0 rfl, hs102.cellAt 0 rfl 1 rfl⟩, ?_⟩
      (repeat (first | (apply t4_skip rfl (by rfl); try simp only [Act.put, List.setIfInBounds_toArray, List.set_cons_zero, List.set_cons_succ]) | (apply t4_float rfl (by rfl); (· (intro w' hS; go_simp <;> with_reducible rfl)); (try simp only [Act.put, List.setIfInBounds_toArray, List.set_cons_zero, List.set_cons_succ]))))
      refine t4_fork2 ?_ ?_
      · refine t4_hard rfl (by rfl) (fun K hK => ?_)
        refine wp_make_nils _ _ _ 178 rfl E_lookss n (by omega) rfl rfl ?_
        intro gC wK hgC1 hgC2 hnil hbK
        (try simp at hgC1)
        have HNL := Lib.hid hnil
        have HBK := Lib.hid (Below.refl wK.heap.size wK)
        clear hnil
        have hz_wK : wd3.heap.size + 1 ≤ wK.heap.size := by have h9 := hbK.size; (try simp at h9); omega
        have hs104 := hs102.step hbK
        have HE1_105 := Lib.hid (Rd.mono HE1.out hbK)
        clear HE1
        refine hK _ _ ⟨⟨hs104.cellAt 0 rfl 0 rfl, hs104.cellAt 0 rfl 1 rfl⟩, ?_⟩
        (repeat (first | (apply t4_skip rfl (by rfl); try simp only [Act.put, List.setIfInBounds_toArray, List.set_cons_zero, List.set_cons_succ]) | (apply t4_float rfl (by rfl); (· (intro w' hS; go_simp <;> with_reducible rfl)); (try simp only [Act.put, List.setIfInBounds_toArray, List.set_cons_zero, List.set_cons_succ]))))
        refine t4_hard rfl (by rfl) (fun K hK => ?_)
        go_wp2_with (go_at_call 91; refine (power_c size m _ (by omega) (by omega) (by omega) (by rw [Int.toNat_natCast, HNS.out]; omega)).mono ?_; rintro e w106 ⟨rfl, rfl⟩)
        rw [HNS.out]
        refine ⟨⟨hs104.cellAt 0 rfl 0 rfl, hs104.cellAt 0 rfl 1 rfl⟩, ?_⟩
        (repeat (first | (apply t4_skip rfl (by rfl); try simp only [Act.put, List.setIfInBounds_toArray, List.set_cons_zero, List.set_cons_succ]) | (apply t4_float rfl (by rfl); (· (intro w' hS; go_simp <;> with_reducible rfl)); (try simp only [Act.put, List.setIfInBounds_toArray, List.set_cons_zero, List.set_cons_succ]))))
        refine t4_hard rfl (by rfl) (fun K hK => ?_)
        go_wp2_with (go_at_call 158; refine (repeatInts_c (-1) n _ _ HE1_105.out hn1 HNC.out).mono ?_; rintro e w107 ⟨v9, rfl, fr9, hbw107⟩)
        have hz_w107 : wK.heap.size ≤ w107.heap.size := by have h9 := hbw107.size; (try simp at h9); omega
        have hs108 := hs104.step hbw107
        have HE1_109 := Lib.hid (Rd.mono HE1_105.out hbw107)
        clear HE1_105
        have HBK_110 := Lib.hid (HBK.out.trans ((hbw107).mono HBK.out.size))
        clear HBK
        obtain ⟨a9, c9, rfl, _⟩ := rd_list fr9.rd
        rw [List.length_replicate] at fr9 ⊢
        have HIV := Lib.hid fr9.iv
        clear fr9
        refine ⟨⟨hs108.cellAt 0 rfl 0 rfl, hs108.cellAt 0 rfl 1 rfl⟩, ?_⟩
        (repeat (first | (apply t4_skip rfl (by rfl); try simp only [Act.put, List.setIfInBounds_toArray, List.set_cons_zero, List.set_cons_succ]) | (apply t4_float rfl (by rfl); (· (intro w' hS; go_simp <;> with_reducible rfl)); (try simp only [Act.put, List.setIfInBounds_toArray, List.set_cons_zero, List.set_cons_succ]))))
        refine t4_hard rfl (by rfl) (fun K hK => ?_)
        go_wp2_with fail
        have hs111 := hs108.alloc #[.int .i64 size, .slice at0 rs.length ct0, .int .i64 m, .slice (some ⟨gC, 0, none⟩) n n, .slice none 0 0, .slice a9 n c9, .int .i64 0, .slice none 0 0] 182 (n := w107.heap.size) (by simp)
        have HE1_112 := Lib.hid (Rd.mono HE1_109.out (belowA _ (.cells #[.int .i64 size, .slice at0 rs.length ct0, .int .i64 m, .slice (some ⟨gC, 0, none⟩) n n, .slice none 0 0, .slice a9 n c9, .int .i64 0, .slice none 0 0] 182)))
        clear HE1_109
        have HBK_113 := Lib.hid (HBK_110.out.trans (((belowA _ (.cells #[.int .i64 size, .slice at0 rs.length ct0, .int .i64 m, .slice (some ⟨gC, 0, none⟩) n n, .slice none 0 0, .slice a9 n c9, .int .i64 0, .slice none 0 0] 182))).mono HBK_110.out.size))
        clear HBK_110
        have HIV_114 := Lib.hid (Iv.mono HIV.out (belowA _ (.cells #[.int .i64 size, .slice at0 rs.length ct0, .int .i64 m, .slice (some ⟨gC, 0, none⟩) n n, .slice none 0 0, .slice a9 n c9, .int .i64 0, .slice none 0 0] 182)))
        clear HIV
        refine ⟨⟨hs111.cellAt 0 rfl 0 rfl, hs111.cellAt 0 rfl 1 rfl⟩, ?_⟩
        (repeat (first | (apply t4_skip rfl (by rfl); try simp only [Act.put, List.setIfInBounds_toArray, List.set_cons_zero, List.set_cons_succ]) | (apply t4_float rfl (by rfl); (· (intro w' hS; go_simp <;> with_reducible rfl)); (try simp only [Act.put, List.setIfInBounds_toArray, List.set_cons_zero, List.set_cons_succ]))))
        have k0_0 := hs111.cellAt 0 rfl 0 rfl
        have k0_1 := hs111.cellAt 0 rfl 1 rfl
        have k1_0 := hs111.cellAt 1 rfl 0 rfl
        have k2_0 := hs111.cellAt 2 rfl 0 rfl
        have k2_1 := hs111.cellAt 2 rfl 1 rfl
        have k2_2 := hs111.cellAt 2 rfl 2 rfl
        have k2_3 := hs111.cellAt 2 rfl 3 rfl
        have k2_4 := hs111.cellAt 2 rfl 4 rfl
        have k2_5 := hs111.cellAt 2 rfl 5 rfl
        have k2_6 := hs111.cellAt 2 rfl 6 rfl
        have k2_7 := hs111.cellAt 2 rfl 7 rfl
        refine t4_nil (NoPanic.normal ?_)
        have HRUN := Lib.hid (hs111.box (w107.heap.size, #[.int .i64 size, .slice at0 rs.length ct0, .int .i64 m, .slice (some ⟨gC, 0, none⟩) n n, .slice none 0 0, .slice a9 n c9, .int .i64 0, .slice none 0 0], 182) (by simp)).2.2
        have HNL2 := Lib.hid (HNL.out.mono HBK_113.out)
        have HDIS := Lib.hid (show w107.heap.size ≠ gC ∧ (w.heap.size ≤ w107.heap.size ∧ w.heap.size ≤ gC) ∧ (w107.heap.size < (w107.alloc (.cells #[.int .i64 size, .slice at0 rs.length ct0, .int .i64 m, .slice (some ⟨gC, 0, none⟩) n n, .slice none 0 0, .slice a9 n c9, .int .i64 0, .slice none 0 0] 182)).heap.size ∧ gC < (w107.alloc (.cells #[.int .i64 size, .slice at0 rs.length ct0, .int .i64 m, .slice (some ⟨gC, 0, none⟩) n n, .slice none 0 0, .slice a9 n c9, .int .i64 0, .slice none 0 0] 182)).heap.size) by (try simp); omega)
        have HTOLD := Lib.hid (show Ip (fun z => (w.heap.size ≤ z ∧ z < (w107.alloc (.cells #[.int .i64 size, .slice at0 rs.length ct0, .int .i64 m, .slice (some ⟨gC, 0, none⟩) n n, .slice none 0 0, .slice a9 n c9, .int .i64 0, .slice none 0 0] 182)).heap.size) ∧ z ≠ w107.heap.size ∧ z ≠ gC) _ [.slice a9 n c9] (List.replicate n (-1 : Int)) from (Ip.of_iv HIV_114.out).wk (fun z hz => by (try simp at hz ⊢); omega))
        have HLO := Lib.hid (show w.heap.size + 1 ≤ w107.heap.size ∧ w.heap.size + 1 ≤ gC by omega)
        clear HIV_114
        clear HBK_113
        clear HE1_112
        have hs115 := hs111.low (B' := w.heap.size + 1) (bx' := [(w.heap.size, #[.int .i64 size, .slice at0 rs.length ct0], 26)]) (by omega) (by (try simp) <;> omega) (fun x hx => by simp only [List.mem_cons, List.not_mem_nil, or_false] at hx; rcases hx with rfl <;> (refine ⟨?_, ?_⟩ <;> (try simp) <;> (try omega)))
        go_wp2_with fail
        go_meet
        case rel => exact ⟨_, gC, _, rfl, HLO.out, hs115, ⟨HRUN.out, HNL2.out, HTOLD.out, HDIS.out, hs115.bel⟩⟩
      · refine t4_hard rfl (by rfl) (fun K hK => ?_)
        go_wp2_with (go_at_call 91; refine (power_c size m _ (by omega) (by omega) (by omega) (by rw [Int.toNat_natCast, HNS.out]; omega)).mono ?_; rintro e w116 ⟨rfl, rfl⟩)
        rw [HNS.out]
        refine ⟨⟨hs102.cellAt 0 rfl 0 rfl, hs102.cellAt 0 rfl 1 rfl⟩, ?_⟩
        (repeat (first | (apply t4_skip rfl (by rfl); try simp only [Act.put, List.setIfInBounds_toArray, List.set_cons_zero, List.set_cons_succ]) | (apply t4_float rfl (by rfl); (· (intro w' hS; go_simp <;> with_reducible rfl)); (try simp only [Act.put, List.setIfInBounds_toArray, List.set_cons_zero, List.set_cons_succ]))))
        refine t4_fork2 ?_ ?_
        · refine t4_hard rfl (by rfl) (fun K hK => ?_)
          refine wp_make_nils _ _ _ 178 rfl E_lookss n (by omega) rfl rfl ?_
          intro gC wK hgC1 hgC2 hnil hbK
          (try simp at hgC1)
          have HNL := Lib.hid hnil
          have HBK := Lib.hid (Below.refl wK.heap.size wK)
          clear hnil
          have hz_wK : wd3.heap.size + 1 ≤ wK.heap.size := by have h9 := hbK.size; (try simp at h9); omega
          have hs117 := hs102.step hbK
          have HE1_118 := Lib.hid (Rd.mono HE1.out hbK)
          clear HE1
          refine hK _ _ ⟨⟨hs117.cellAt 0 rfl 0 rfl, hs117.cellAt 0 rfl 1 rfl⟩, ?_⟩
          (repeat (first | (apply t4_skip rfl (by rfl); try simp only [Act.put, List.setIfInBounds_toArray, List.set_cons_zero, List.set_cons_succ]) | (apply t4_float rfl (by rfl); (· (intro w' hS; go_simp <;> with_reducible rfl)); (try simp only [Act.put, List.setIfInBounds_toArray, List.set_cons_zero, List.set_cons_succ]))))
          refine t4_hard rfl (by rfl) (fun K hK => ?_)
          go_wp2_with (go_at_call 158; refine (repeatInts_c (-1) n _ _ HE1_118.out hn1 HNC.out).mono ?_; rintro e w119 ⟨v9, rfl, fr9, hbw119⟩)
          have hz_w119 : wK.heap.size ≤ w119.heap.size := by have h9 := hbw119.size; (try simp at h9); omega
          have hs120 := hs117.step hbw119
          have HE1_121 := Lib.hid (Rd.mono HE1_118.out hbw119)
          clear HE1_118
          have HBK_122 := Lib.hid (HBK.out.trans ((hbw119).mono HBK.out.size))
          clear HBK
          obtain ⟨a9, c9, rfl, _⟩ := rd_list fr9.rd
          rw [List.length_replicate] at fr9 ⊢
          have HIV := Lib.hid fr9.iv
          clear fr9
          refine ⟨⟨hs120.cellAt 0 rfl 0 rfl, hs120.cellAt 0 rfl 1 rfl⟩, ?_⟩
          (repeat (first | (apply t4_skip rfl (by rfl); try simp only [Act.put, List.setIfInBounds_toArray, List.set_cons_zero, List.set_cons_succ]) | (apply t4_float rfl (by rfl); (· (intro w' hS; go_simp <;> with_reducible rfl)); (try simp only [Act.put, List.setIfInBounds_toArray, List.set_cons_zero, List.set_cons_succ]))))
          refine t4_hard rfl (by rfl) (fun K hK => ?_)
          go_wp2_with fail
          have hs123 := hs120.alloc #[.int .i64 size, .slice at0 rs.length ct0, .int .i64 m, .slice (some ⟨gC, 0, none⟩) n n, .slice none 0 0, .slice a9 n c9, .int .i64 0, .slice none 0 0] 182 (n := w119.heap.size) (by simp)
          have HE1_124 := Lib.hid (Rd.mono HE1_121.out (belowA _ (.cells #[.int .i64 size, .slice at0 rs.length ct0, .int .i64 m, .slice (some ⟨gC, 0, none⟩) n n, .slice none 0 0, .slice a9 n c9, .int .i64 0, .slice none 0 0] 182)))
          clear HE1_121
          have HBK_125 := Lib.hid (HBK_122.out.trans (((belowA _ (.cells #[.int .i64 size, .slice at0 rs.length ct0, .int .i64 m, .slice (some ⟨gC, 0, none⟩) n n, .slice none 0 0, .slice a9 n c9, .int .i64 0, .slice none 0 0] 182))).mono HBK_122.out.size))
          clear HBK_122
          have HIV_126 := Lib.hid (Iv.mono HIV.out (belowA _ (.cells #[.int .i64 size, .slice at0 rs.length ct0, .int .i64 m, .slice (some ⟨gC, 0, none⟩) n n, .slice none 0 0, .slice a9 n c9, .int .i64 0, .slice none 0 0] 182)))
          clear HIV
          refine ⟨⟨hs123.cellAt 0 rfl 0 rfl, hs123.cellAt 0 rfl 1 rfl⟩, ?_⟩
          (repeat (first | (apply t4_skip rfl (by rfl); try simp only [Act.put, List.setIfInBounds_toArray, List.set_cons_zero, List.set_cons_succ]) | (apply t4_float rfl (by rfl); (· (intro w' hS; go_simp <;> with_reducible rfl)); (try simp only [Act.put, List.setIfInBounds_toArray, List.set_cons_zero, List.set_cons_succ]))))
          have k0_0 := hs123.cellAt 0 rfl 0 rfl
          have k0_1 := hs123.cellAt 0 rfl 1 rfl
          have k1_0 := hs123.cellAt 1 rfl 0 rfl
          have k2_0 := hs123.cellAt 2 rfl 0 rfl
          have k2_1 := hs123.cellAt 2 rfl 1 rfl
          have k2_2 := hs123.cellAt 2 rfl 2 rfl
          have k2_3 := hs123.cellAt 2 rfl 3 rfl
          have k2_4 := hs123.cellAt 2 rfl 4 rfl
          have k2_5 := hs123.cellAt 2 rfl 5 rfl
          have k2_6 := hs123.cellAt 2 rfl 6 rfl
          have k2_7 := hs123.cellAt 2 rfl 7 rfl
          refine t4_nil (NoPanic.normal ?_)
          have HRUN := Lib.hid (hs123.box (w119.heap.size, #[.int .i64 size, .slice at0 rs.length ct0, .int .i64 m, .slice (some ⟨gC, 0, none⟩) n n, .slice none 0 0, .slice a9 n c9, .int .i64 0, .slice none 0 0], 182) (by simp)).2.2
          have HNL2 := Lib.hid (HNL.out.mono HBK_125.out)
          have HDIS := Lib.hid (show w119.heap.size ≠ gC ∧ (w.heap.size ≤ w119.heap.size ∧ w.heap.size ≤ gC) ∧ (w119.heap.size < (w119.alloc (.cells #[.int .i64 size, .slice at0 rs.length ct0, .int .i64 m, .slice (some ⟨gC, 0, none⟩) n n, .slice none 0 0, .slice a9 n c9, .int .i64 0, .slice none 0 0] 182)).heap.size ∧ gC < (w119.alloc (.cells #[.int .i64 size, .slice at0 rs.length ct0, .int .i64 m, .slice (some ⟨gC, 0, none⟩) n n, .slice none 0 0, .slice a9 n c9, .int .i64 0, .slice none 0 0] 182)).heap.size) by (try simp); omega)
          have HTOLD := Lib.hid (show Ip (fun z => (w.heap.size ≤ z ∧ z < (w119.alloc (.cells #[.int .i64 size, .slice at0 rs.length ct0, .int .i64 m, .slice (some ⟨gC, 0, none⟩) n n, .slice none 0 0, .slice a9 n c9, .int .i64 0, .slice none 0 0] 182)).heap.size) ∧ z ≠ w119.heap.size ∧ z ≠ gC) _ [.slice a9 n c9] (List.replicate n (-1 : Int)) from (Ip.of_iv HIV_126.out).wk (fun z hz => by (try simp at hz ⊢); omega))
          have HLO := Lib.hid (show w.heap.size + 1 ≤ w119.heap.size ∧ w.heap.size + 1 ≤ gC by omega)
          clear HIV_126
          clear HBK_125
          clear HE1_124
          have hs127 := hs123.low (B' := w.heap.size + 1) (bx' := [(w.heap.size, #[.int .i64 size, .slice at0 rs.length ct0], 26)]) (by omega) (by (try simp) <;> omega) (fun x hx => by simp only [List.mem_cons, List.not_mem_nil, or_false] at hx; rcases hx with rfl <;> (refine ⟨?_, ?_⟩ <;> (try simp) <;> (try omega)))
          go_wp2_with fail
          go_meet
          case rel => exact ⟨_, gC, _, rfl, HLO.out, hs127, ⟨HRUN.out, HNL2.out, HTOLD.out, HDIS.out, hs127.bel⟩⟩
        · refine t4_hard rfl (by rfl) (fun K hK => ?_)
          go_wp2_with (go_at_call 158; refine (repeatInts_c (-1) n _ _ HE1.out hn1 HNC.out).mono ?_; rintro e w128 ⟨v9, rfl, fr9, hbw128⟩)
          have hz_w128 : wd3.heap.size + 1 ≤ w128.heap.size := by have h9 := hbw128.size; (try simp at h9); omega
          have hs129 := hs102.step hbw128
          have HE1_130 := Lib.hid (Rd.mono HE1.out hbw128)
          clear HE1
          obtain ⟨a9, c9, rfl, _⟩ := rd_list fr9.rd
          rw [List.length_replicate] at fr9 ⊢
          have HIV := Lib.hid fr9.iv
          clear fr9
          refine ⟨⟨hs129.cellAt 0 rfl 0 rfl, hs129.cellAt 0 rfl 1 rfl⟩, ?_⟩
          (repeat (first | (apply t4_skip rfl (by rfl); try simp only [Act.put, List.setIfInBounds_toArray, List.set_cons_zero, List.set_cons_succ]) | (apply t4_float rfl (by rfl); (· (intro w' hS; go_simp <;> with_reducible rfl)); (try simp only [Act.put, List.setIfInBounds_toArray, List.set_cons_zero, List.set_cons_succ]))))
          refine t4_hard rfl (by rfl) (fun K hK => ?_)
          refine wp_make_nils _ _ _ 178 rfl E_lookss n (by omega) rfl rfl ?_
          intro gC wK hgC1 hgC2 hnil hbK
          (try simp at hgC1)
          have HNL := Lib.hid hnil
          have HBK := Lib.hid (Below.refl wK.heap.size wK)
          clear hnil
          have hz_wK : w128.heap.size ≤ wK.heap.size := by have h9 := hbK.size; (try simp at h9); omega
          have hs131 := hs129.step hbK
          have HE1_132 := Lib.hid (Rd.mono HE1_130.out hbK)
          clear HE1_130
          have HIV_133 := Lib.hid (Iv.mono HIV.out hbK)
          clear HIV
          refine hK _ _ ⟨⟨hs131.cellAt 0 rfl 0 rfl, hs131.cellAt 0 rfl 1 rfl⟩, ?_⟩
          (repeat (first | (apply t4_skip rfl (by rfl); try simp only [Act.put, List.setIfInBounds_toArray, List.set_cons_zero, List.set_cons_succ]) | (apply t4_float rfl (by rfl); (· (intro w' hS; go_simp <;> with_reducible rfl)); (try simp only [Act.put, List.setIfInBounds_toArray, List.set_cons_zero, List.set_cons_succ]))))
          refine t4_hard rfl (by rfl) (fun K hK => ?_)
          go_wp2_with fail
          have hs134 := hs131.alloc #[.int .i64 size, .slice at0 rs.length ct0, .int .i64 m, .slice (some ⟨gC, 0, none⟩) n n, .slice none 0 0, .slice a9 n c9, .int .i64 0, .slice none 0 0] 182 (n := wK.heap.size) (by simp)
          have HE1_135 := Lib.hid (Rd.mono HE1_132.out (belowA _ (.cells #[.int .i64 size, .slice at0 rs.length ct0, .int .i64 m, .slice (some ⟨gC, 0, none⟩) n n, .slice none 0 0, .slice a9 n c9, .int .i64 0, .slice none 0 0] 182)))
          clear HE1_132
          have HIV_136 := Lib.hid (Iv.mono HIV_133.out (belowA _ (.cells #[.int .i64 size, .slice at0 rs.length ct0, .int .i64 m, .slice (some ⟨gC, 0, none⟩) n n, .slice none 0 0, .slice a9 n c9, .int .i64 0, .slice none 0 0] 182)))
          clear HIV_133
          have HBK_137 := Lib.hid (HBK.out.trans (((belowA _ (.cells #[.int .i64 size, .slice at0 rs.length ct0, .int .i64 m, .slice (some ⟨gC, 0, none⟩) n n, .slice none 0 0, .slice a9 n c9, .int .i64 0, .slice none 0 0] 182))).mono HBK.out.size))
          clear HBK
          refine ⟨⟨hs134.cellAt 0 rfl 0 rfl, hs134.cellAt 0 rfl 1 rfl⟩, ?_⟩
          (repeat (first | (apply t4_skip rfl (by rfl); try simp only [Act.put, List.setIfInBounds_toArray, List.set_cons_zero, List.set_cons_succ]) | (apply t4_float rfl (by rfl); (· (intro w' hS; go_simp <;> with_reducible rfl)); (try simp only [Act.put, List.setIfInBounds_toArray, List.set_cons_zero, List.set_cons_succ]))))
          have k0_0 := hs134.cellAt 0 rfl 0 rfl
          have k0_1 := hs134.cellAt 0 rfl 1 rfl
          have k1_0 := hs134.cellAt 1 rfl 0 rfl
          have k2_0 := hs134.cellAt 2 rfl 0 rfl
          have k2_1 := hs134.cellAt 2 rfl 1 rfl
          have k2_2 := hs134.cellAt 2 rfl 2 rfl
          have k2_3 := hs134.cellAt 2 rfl 3 rfl
          have k2_4 := hs134.cellAt 2 rfl 4 rfl
          have k2_5 := hs134.cellAt 2 rfl 5 rfl
          have k2_6 := hs134.cellAt 2 rfl 6 rfl
          have k2_7 := hs134.cellAt 2 rfl 7 rfl
          refine t4_nil (NoPanic.normal ?_)
          have HRUN := Lib.hid (hs134.box (wK.heap.size, #[.int .i64 size, .slice at0 rs.length ct0, .int .i64 m, .slice (some ⟨gC, 0, none⟩) n n, .slice none 0 0, .slice a9 n c9, .int .i64 0, .slice none 0 0], 182) (by simp)).2.2
          have HNL2 := Lib.hid (HNL.out.mono HBK_137.out)
          have HDIS := Lib.hid (show wK.heap.size ≠ gC ∧ (w.heap.size ≤ wK.heap.size ∧ w.heap.size ≤ gC) ∧ (wK.heap.size < (wK.alloc (.cells #[.int .i64 size, .slice at0 rs.length ct0, .int .i64 m, .slice (some ⟨gC, 0, none⟩) n n, .slice none 0 0, .slice a9 n c9, .int .i64 0, .slice none 0 0] 182)).heap.size ∧ gC < (wK.alloc (.cells #[.int .i64 size, .slice at0 rs.length ct0, .int .i64 m, .slice (some ⟨gC, 0, none⟩) n n, .slice none 0 0, .slice a9 n c9, .int .i64 0, .slice none 0 0] 182)).heap.size) by (try simp); omega)
          have HTOLD := Lib.hid (show Ip (fun z => (w.heap.size ≤ z ∧ z < (wK.alloc (.cells #[.int .i64 size, .slice at0 rs.length ct0, .int .i64 m, .slice (some ⟨gC, 0, none⟩) n n, .slice none 0 0, .slice a9 n c9, .int .i64 0, .slice none 0 0] 182)).heap.size) ∧ z ≠ wK.heap.size ∧ z ≠ gC) _ [.slice a9 n c9] (List.replicate n (-1 : Int)) from (Ip.of_iv HIV_136.out).wk (fun z hz => by (try simp at hz ⊢); omega))
          have HLO := Lib.hid (show w.heap.size + 1 ≤ wK.heap.size ∧ w.heap.size + 1 ≤ gC by omega)
          clear HIV_136
          clear HBK_137
          clear HE1_135
          have hs138 := hs134.low (B' := w.heap.size + 1) (bx' := [(w.heap.size, #[.int .i64 size, .slice at0 rs.length ct0], 26)]) (by omega) (by (try simp) <;> omega) (fun x hx => by simp only [List.mem_cons, List.not_mem_nil, or_false] at hx; rcases hx with rfl <;> (refine ⟨?_, ?_⟩ <;> (try simp) <;> (try omega)))
          go_wp2_with fail
          go_meet
          case rel => exact ⟨_, gC, _, rfl, HLO.out, hs138, ⟨HRUN.out, HNL2.out, HTOLD.out, HDIS.out, hs138.bel⟩⟩
  case rest =>
    obtain ⟨xb, cb, fv, rfl, hlo, hst, hbg⟩ := hcut
    have hlo1 := hlo.out.1
    have hlo2 := hlo.out.2
    have hd1 := hbg.out.dis.1
    have hd2 := hbg.out.dis.2.1
    have hd3 := hbg.out.dis.2.2
    have HB := hbg
    have hsc := hst.out
    have hzc := hst.out.hi
    have C0 := Lib.hid (hst.out.cellAt 0 rfl 0 rfl)
    have C1 := Lib.hid (hst.out.cellAt 0 rfl 1 rfl)
    clear hbg hlo hst
    have k0_0 := hsc.cellAt 0 rfl 0 rfl
    have k0_1 := hsc.cellAt 0 rfl 1 rfl
    go_wp2_with fail
    go_loopw [38] (fun i wl => ∃ (j : Nat) (sv : Value), j ≤ rs.length ∧ i = .int .i64 j ∧ Hid (wc.heap.size ≤ wl.heap.size) ∧ Hid (Below w.heap.size w wl) ∧ Hid (wl.heap[xb]? = some (.cells #[.int .i64 size, .slice at0 rs.length ct0, .int .i64 m, .slice (some ⟨cb, 0, none⟩) n n, sv, fv, .int .i64 0, .slice none 0 0] 182 (0, 0))) ∧ Hid (RunM wc.heap.size wl.heap.size wl cb n 161 184 sv (insTo (size, rs) j) (dueL (looksTo (size, rs) m j))) ∧ Hid (ButP (fun z => z = xb ∨ z = cb ∨ wc.heap.size ≤ z) wc wl)) (fun i _ => rs.length - (intOf i).toNat)
    case atStart => exact ⟨0, _, Nat.zero_le _, rfl, Nat.le_refl _, hsc.bel, HB.out.run, HB.out.nils.run (by omega), ButP.refl _ _⟩
    case round =>
      obtain ⟨j, sv, hj, rfl, hsz9, hbw, hrb, hrm, hbp⟩ := hrel
      obtain ⟨wo, rfl⟩ : ∃ x, x = wr := ⟨_, rfl⟩
      have hszo := hsz9.out
      have hww := hbw.out.size
      have HBW := hbw
      have HXB := hrb
      have HRM := hrm
      have HBP := hbp
      have y0 : wo.cell? ⟨w.heap.size, 0, none⟩ = some (.int .i64 size) := cellB hbp.out C0.out (by omega)
      have y1 : wo.cell? ⟨w.heap.size, 1, none⟩ = some (.slice at0 rs.length ct0) := cellB hbp.out C1.out (by omega)
      clear hbw hrb hrm hbp hsz9
      by_cases hlj : j < rs.length
      · have hljI : (j : Int) < rs.length := by omega
        obtain ⟨b1, o1, aS, cS, rfl, q0w, q1w, hTS⟩ := tmpl_at HT.out hlj
        have y3 := cellL HBW.out q0w
        have y4 := cellL HBW.out q1w
        have HTS := Lib.hid (Rd.mono hTS HBW.out)
        have HTS0 := Lib.hid hTS
        have hx1 := World.block_lt_of_cell? w _ q0w
        simp only at hx1
        have hx1w : b1 < wo.heap.size := by omega
        have hrm2 : rs.getD j (0, []) ∈ rs := by simp [List.getD, hlj]
        have hrok := (tmplOk_get HOK.out).2.2 _ hrm2
        simp only at hrok
        have har := (relOk_get hrok).2.1
        have hcnt := (relOk_count hrok).2
        have HROK := Lib.hid hrok
        obtain ⟨PN, hPN⟩ : ∃ PN : Nat, size ^ (rs.getD j (0, [])).1.toNat = (PN : Int) := ⟨(size ^ (rs.getD j (0, [])).1.toNat).toNat, by have := pow256 hs har; omega⟩
        have hPN256 : PN ≤ 256 := by have := pow256 hs har; omega
        have HIS := Lib.hid (insTo_snoc (size, rs) (j := j) hlj hPN)
        have HSL := Lib.hid (insTo_len (size, rs) (j := j) hj)
        obtain ⟨aV, cV, rfl⟩ := HRM.out.lenS
        rw [HSL.out] at HRM HXB
        have HVAL := Lib.hid (relOk_val hrok)
        have HPWJ := Lib.hid (show manyTo (size, rs) m j + (rs.getD j (0, [])).2.length ^ m ≤ 4000 from by
          have h1 := many_up (size, rs) m (j + 1) rs.length (by omega)
          have h2 : manyTo (size, rs) m (j + 1) = manyTo (size, rs) m j + (rs.getD j (0, [])).2.length ^ m := rfl
          have h3 : manyTo (size, rs) m rs.length ≤ 4000 := HMANY.out
          omega)
        have HPN := Lib.hid hPN
        clear hTS q0w q1w hrm2 hrok hPN
        generalize hRN : rs.getD j (0, []) = RN at *
        have HRN := Lib.hid hRN
        clear hRN
        obtain ⟨ar, ts⟩ := RN
        simp only at har hcnt y3 y4
        obtain ⟨AR, rfl⟩ : ∃ AR : Nat, ar = (AR : Int) := ⟨ar.toNat, by omega⟩
        have HPN2 := Lib.hid (show size ^ AR = (PN : Int) from by simpa using HPN.out)
        obtain ⟨bT, oT, aT2, hTSd⟩ : ∃ (a : Option Addr) (c : Nat) (_ : True), Rd wo [.slice a ts.length c] ts := ⟨aS, cS, trivial, HTS.out⟩
        clear bT oT aT2 hTSd
        have y0_ := cellL (St.start wo).bel y0
        clear y0_
        have y0_ := cellL (St.start wo).bel y0
        have y3_ := cellL (St.start wo).bel y3
        clear y0_ y3_
        have y0_ := cellL (St.start wo).bel y0
        have y3_ := cellL (St.start wo).bel y3
        have y4_ := cellL (St.start wo).bel y4
        go_upto_region 5 with fail
        have hs139 := (St.start wo).alloc #[.int .i64 AR, .slice aS ts.length cS] 50 (n := wo.heap.size) (by simp)
        clear y0_ y3_ y4_
        have k0_0 := hs139.cellAt 0 rfl 0 rfl
        have k0_1 := hs139.cellAt 0 rfl 1 rfl
        have y0_ := cellL hs139.bel y0
        have y3_ := cellL hs139.bel y3
        have y4_ := cellL hs139.bel y4
        have hz_wR : wo.heap.size + 1 ≤ ((wo.alloc (.cells #[.int .i64 AR, .slice aS ts.length cS] 50))).heap.size := by simp
        generalize hgen_wR : (wo.alloc (.cells #[.int .i64 AR, .slice aS ts.length cS] 50)) = wR at *
        clear hgen_wR
        have hszR := hs139.hi
        go_wp2_with fail
        refine (power_c size AR _ (by omega) (by omega) (by omega) (by rw [Int.toNat_natCast, HPN2.out]; omega)).mono ?_
        rintro e w2 ⟨rfl, rfl⟩
        rw [Int.toNat_natCast, HPN2.out]
        go_wp2_with (at_make; refine wpList_make_rep _ rfl _ _ 161 rfl E_bools false own0_bool PN (by omega) rfl rfl ?_; intro wI hown hbI hsI; refine Hid.out ?_)
        have HOWN := Lib.hid hown
        have hsI1 : wR.heap.size + 1 ≤ wI.heap.size := by omega
        clear hown hsI
        have hz_wI : wR.heap.size ≤ wI.heap.size := by have h9 := hbI.size; (try simp at h9); omega
        have hs140 := hs139.step hbI
        clear k0_0 k0_1 y0_ y3_ y4_
        have k0_0 := hs140.cellAt 0 rfl 0 rfl
        have k0_1 := hs140.cellAt 0 rfl 1 rfl
        have y0_ := cellL hs140.bel y0
        have y3_ := cellL hs140.bel y3
        have y4_ := cellL hs140.bel y4
        have HBO := Lib.hid hs140.bel
        have HR0 := Lib.hid (hs140.cellAt 0 rfl 0 rfl)
        have HR1 := Lib.hid (hs140.cellAt 0 rfl 1 rfl)
        refine Lib.hid ?_
        go_wp2_with fail
        go_loopw [52] (fun i wl => ∃ k : Nat, k ≤ ts.length ∧ i = .int .i64 k ∧ Hid (But [wR.heap.size] wI wl) ∧ Hid (OwnSl [wR.heap.size] wl (.slice (some ⟨wR.heap.size, 0, none⟩) PN PN) (setTo size PN ts k))) (fun i _ => ts.length - (intOf i).toNat)
        case atStart => exact ⟨0, Nat.zero_le _, rfl, But.refl _ _, HOWN.out⟩
        case round =>
          clear HOWN
          obtain ⟨k, hk, rfl, hbt, hw⟩ := hrel
          have HBO2 := Lib.hid (HBO.out.trans (hbt.out.below (B := wo.heap.size) (by simp; omega) (by omega)))
          have hsr := (St.start wo).step HBO2.out
          have HSLK := Lib.hid (setTo_len size PN ts k)
          have HOW := hw
          have HBT := hbt
          clear hw hbt
          have y0_ := cellL hsr.bel y0
          have y3_ := cellL hsr.bel y3
          have y4_ := cellL hsr.bel y4
          by_cases hlt : k < ts.length
          · have hltI : (k : Int) < ts.length := by omega
            obtain ⟨aQ, cQ, eQ, hQ⟩ := rd_list (Rd.mono HTS.out hsr.bel)
            simp only [Value.slice.injEq] at eQ
            obtain ⟨rfl, -, rfl⟩ := eQ
            obtain ⟨b, o, u0, rfl, q0, hx⟩ := rdSl_one rfl hQ k hlt
            have HX := Lib.hid hx
            obtain ⟨a0, cc0, rfl, _⟩ := rd_list hx
            have hvv := HVAL.out _ (List.getElem_mem hlt)
            have hcb := codeL_bd hs.1 ts[k] hvv.2
            rw [hvv.1] at hcb
            simp only [Int.toNat_natCast] at hcb
            rw [HPN2.out] at hcb
            have HVV := Lib.hid (show ∀ x, x ∈ ts[k] → 0 ≤ x ∧ x ≤ size - 1 from hvv.2)
            have HLN := Lib.hid (show ts[k].length = AR by have := hvv.1; simpa using this)
            obtain ⟨C, hC⟩ : ∃ C : Nat, codeL size ts[k] = C := ⟨(codeL size ts[k]).toNat, by omega⟩
            have HC := Lib.hid hC
            rw [hC] at hcb
            have HSS := Lib.hid (show (setTo size PN ts k).set C true = setTo size PN ts (k + 1) by
              rw [setTo, show ts.getD k [] = ts[k] by simp [List.getD, hlt], HC.out, Int.toNat_natCast])
            have hCl : (C : Int) < PN := by omega
            obtain ⟨o9, c9, hv9, hcd9, hf9, hset9⟩ := ownSl_bool HOW.out C (by rw [HSLK.out]; omega)
            simp only [Value.slice.injEq, Option.some.injEq, Addr.mk.injEq] at hv9
            obtain ⟨⟨-, rfl, -⟩, -, rfl⟩ := hv9
            rw [Nat.zero_add] at hcd9 hf9
            have HS9 := Lib.hid (hset9 true)
            rw [Nat.zero_add, HSS.out] at HS9
            have HO9 := Lib.hid (HBT.out.trans (OnlyAt.but ((OnlyAt.refl [wR.heap.size] wr).setCell (p := ⟨wR.heap.size, C, none⟩) (by simp) (.bool true))))
            generalize (setTo size PN ts k)[C]'(by rw [HSLK.out]; omega) = B9 at hcd9
            clear hset9 hx hvv hC
            go_wp2_with fail
            refine (indexOf_c size ts[k] _ _ HX.out hs.1 HVV.out (by rw [HLN.out, HPN2.out]; omega)).mono ?_
            rintro e w5 ⟨rfl, rfl⟩
            rw [HC.out]
            go_wp2_with fail
            go_roundw
            case rel => exact ⟨k + 1, hlt, by go_num, HO9.out, HS9.out⟩
            case measure => simp [intOf]; omega
          · obtain rfl : k = ts.length := by omega
            have hnl : ¬ ((ts.length : Int) < ts.length) := by omega
            obtain ⟨wA, rfl⟩ : ∃ x, x = wr := ⟨_, rfl⟩
            have hzA := HBT.out.size
            have x4 : wA.cell? ⟨xb, 4, none⟩ = some (.slice aV j cV) := cellL HBO2.out (by rw [cell_at_block HXB.out]; rfl)
            have hxA : wA.heap[xb]? = _ := (HBO2.out.block xb (by omega)).trans HXB.out
            have HXA := Lib.hid hxA
            obtain ⟨A, hAS, hAl, hfin⟩ := HRM.out.pushR (R := wo.heap.size) hszo (Nat.le_refl _)
            have HAS := Lib.hid hAS
            have HAL := Lib.hid hAl
            have HFIN := Lib.hid hfin
            have HIN := Lib.hid (show Ip (fun z => z = wR.heap.size) wA [.slice (some ⟨wR.heap.size, 0, none⟩) PN PN] (setTo size PN ts ts.length) from ⟨[wR.heap.size], ⟨_, rfl, HOW.out⟩, by simp, by simp⟩)
            have g0 : wA.cell? ⟨w.heap.size, 0, none⟩ = some (.int .i64 size) := cellL HBO2.out y0
            have g1 : wA.cell? ⟨wo.heap.size, 0, none⟩ = some (.int .i64 AR) := cellK HR0.out (HBT.out.block _ (by omega) (by simp; omega))
            have g2 : wA.cell? ⟨wo.heap.size, 1, none⟩ = some (.slice aS ts.length cS) := cellK HR1.out (HBT.out.block _ (by omega) (by simp; omega))
            have hlm := (rdSl_len (rd_list HTS.out).choose_spec.choose_spec.2).2
            unfold maxLen at hlm
            generalize hSTL : setTo size PN ts ts.length = STL at *
            have HSTL := Lib.hid hSTL
            clear hxA hAS hAl hfin y0 y3 y4 hSTL
            have HBA := Lib.hid (HBO2.out.trans ((belowA wA (.cells #[.slice (some ⟨wR.heap.size, 0, none⟩) PN PN] 161)).mono (by omega)))
            go_wp2_with (at_builtin; refine wpList_append_accP _ rfl _ _ _ rfl E_boolss rfl (AccP.mono HAS.out HBA.out) (Ip.mono HIN.out (belowA _ _)) (fun z h1 h2 => by have h3 := HAL.out z h1; omega) ⟨wA.heap.size, 0, none⟩ 1 rfl (news1 (cell_at_block (heap_alloc_new _ _))) (by rw [HSL.out]; omega) ?_; simp only [HSL.out]; intro a8 c8 w8 hA8 hB8; refine Hid.out ?_)
            have hz8 := hB8.size
            have hzA1 : wA.heap.size + 1 ≤ w8.heap.size := by (try simp at hz8); omega
            have hx8 := (hB8.block xb (by simp; omega) (fun h => by have := HAL.out _ h; omega)).trans (((belowA wA (.cells #[.slice (some ⟨wR.heap.size, 0, none⟩) PN PN] 161)).block xb (by omega)).trans HXA.out)
            have q4 : w8.cell? ⟨xb, 4, none⟩ = some (.slice aV j cV) := by rw [cell_at_block hx8]; rfl
            have f4 : w8.frozen? ⟨xb, 4, none⟩ = false := free_at_block hx8
            have HX9 := Lib.hid (heap_setCell_at w8 xb 4 (.slice a8 (j + 1) c8) _ _ _ hx8)
            have HRC := Lib.hid ((HFIN.out _ w8 (fun z => z = wR.heap.size) (.slice a8 (j + 1) c8) (insTo (size, rs) (j + 1)) HBA.out (by simp; omega) (Nat.le_refl _) (fun z hz => by (try simp only at hz); omega) (by rw [HIS.out]; exact hA8) hB8).setCell (b := xb) (o := 4) (.slice a8 (j + 1) c8) (by omega) (.inl (by omega)))
            have hA1 : ¬ A w.heap.size := fun h => by have := HAL.out _ h; omega
            have hA2 : ¬ A wo.heap.size := fun h => by have := HAL.out _ h; omega
            have G0 := Lib.hid (cell_put (b' := xb) (o' := 4) (u := .slice a8 (j + 1) c8) (cellB hB8 (cellL (belowA wA (.cells #[.slice (some ⟨wR.heap.size, 0, none⟩) PN PN] 161)) g0) hA1) (by omega))
            have G1 := Lib.hid (cell_put (b' := xb) (o' := 4) (u := .slice a8 (j + 1) c8) (cellB hB8 (cellL (belowA wA (.cells #[.slice (some ⟨wR.heap.size, 0, none⟩) PN PN] 161)) g1) hA2) (by omega))
            have G2 := Lib.hid (cell_put (b' := xb) (o' := 4) (u := .slice a8 (j + 1) c8) (cellB hB8 (cellL (belowA wA (.cells #[.slice (some ⟨wR.heap.size, 0, none⟩) PN PN] 161)) g2) hA2) (by omega))
            have HBP9 := Lib.hid (butp_set (b := xb) (o := 4) ((HBP.out.trans ((ButP.of HBA.out) : ButP (fun z => z = xb ∨ z = cb ∨ wc.heap.size ≤ z) _ _) (fun z hz => .inl hz)).trans (hB8.wk (C := fun z => z = xb ∨ z = cb ∨ wc.heap.size ≤ z) (fun z hz => .inr (.inr (HAL.out z hz).1))) (fun z hz => .inl hz)) (.slice a8 (j + 1) c8) (.inl rfl))
            have HBW9 := Lib.hid (((HBW.out.trans (HBA.out.mono hww)).trans (hB8.below (fun z hz => by have := HAL.out z hz; omega) (by simp; omega))).setCell (p := ⟨xb, 4, none⟩) (by (try simp only); omega) (.slice a8 (j + 1) c8))
            have hz9 : wA.heap.size + 1 ≤ (w8.setCell ⟨xb, 4, none⟩ (.slice a8 (j + 1) c8)).heap.size := by simpa [World.setCell] using hzA1
            have HSZ9 := Lib.hid (show (w8.setCell ⟨xb, 4, none⟩ (.slice a8 (j + 1) c8)).heap.size = w8.heap.size by simp [World.setCell])
            rw [← HSZ9.out] at HRC
            clear hx8 hA8 hB8 hz8 g0 g1 g2 x4 HFIN HAL HAS hA1 hA2 HIN HOW HXA HBA HSZ9 HXB HRM HBP HBW hzA1
            refine Lib.hid ?_
            go_upto_region 12 with fail
            generalize w8.setCell ⟨xb, 4, none⟩ (.slice a8 (j + 1) c8) = w9 at *
            clear q4 f4 HBT HBO2 hsr HR0 HR1 HBO hbI hs1 hsc C0 C1 y1 hlt hk
            have hPW4 := HPWJ.out
            have HML := Lib.hid (show (ts.length : Int) ^ m = ((ts.length ^ m : Nat) : Int) from (Int.natCast_pow _ _).symm)
            have hj1 : (rs.getD j (0, [])).2.length ^ m = ts.length ^ m := by rw [HRN.out]
            obtain ⟨PW, hPW⟩ : ∃ PW, PW = ts.length ^ m := ⟨_, rfl⟩
            rw [← hPW] at hPW4 HML hj1
            have HPW := Lib.hid hPW
            have HJ1 := Lib.hid hj1
            clear hPW hj1
            have hzz9 : wo.heap.size + 1 ≤ w9.heap.size := by omega
            have g2 := G2.out
            go_wp2_with fail
            refine (power_c ts.length m _ (by omega) (by omega) (by omega) (by rw [Int.toNat_natCast, HML.out]; omega)).mono ?_
            rintro e w2 ⟨rfl, rfl⟩
            rw [Int.toNat_natCast, HML.out]
            go_wp2_with fail
            clear g2
            go_loopw [79] (fun i wl => ∃ k : Nat, k ≤ PW ∧ i = .int .i64 k ∧ Hid (w9.heap.size ≤ wl.heap.size) ∧ Hid (ButP (fun z => z = cb ∨ (wc.heap.size ≤ z ∧ z ≠ wo.heap.size)) w9 wl) ∧ Hid (RunC wo.heap.size wc.heap.size wl.heap.size wl cb n 161 184 (.slice a8 (j + 1) c8) (insTo (size, rs) (j + 1)) (dueL (looksK (size, rs) m j k)))) (fun i _ => PW - (intOf i).toNat)
            case atStart =>
              refine ⟨0, Nat.zero_le _, rfl, Nat.le_refl _, ButP.refl _ _, ?_⟩
              rw [looksK_zero]
              exact HRC.out
            case round =>
              clear HRC
              obtain ⟨wk, rfl⟩ : ∃ x, x = wr := ⟨_, rfl⟩
              obtain ⟨k, hk, rfl, hsz, hbt, hrm⟩ := hrel
              have hszk := hsz.out
              have HRM := hrm
              have HBTK := hbt
              have d0 := cellB hbt.out G0.out (by omega)
              have d1 := cellB hbt.out G1.out (by simp; omega)
              have d2 := cellB hbt.out G2.out (by simp; omega)
              have hx9 := (hbt.out.block xb (by have := (Array.getElem?_eq_some_iff.1 HX9.out).1; omega) (by omega)).trans HX9.out
              have HXK := Lib.hid hx9
              have d3 : wk.cell? ⟨xb, 3, none⟩ = some (.slice (some ⟨cb, 0, none⟩) n n) := by rw [cell_at_block hx9]; rfl
              have HBWK := Lib.hid (HBW9.out.trans (hbt.out.below (fun z hz => by omega) (by omega)))
              have HTS := Lib.hid (Rd.mono HTS0.out HBWK.out)
              clear hsz hbt hrm hx9
              have d0_ := cellL (St.start wk).bel d0
              clear d0_
              have d0_ := cellL (St.start wk).bel d0
              have d1_ := cellL (St.start wk).bel d1
              clear d0_ d1_
              have d0_ := cellL (St.start wk).bel d0
              have d1_ := cellL (St.start wk).bel d1
              have d2_ := cellL (St.start wk).bel d2
              clear d0_ d1_ d2_
              have d0_ := cellL (St.start wk).bel d0
              have d1_ := cellL (St.start wk).bel d1
              have d2_ := cellL (St.start wk).bel d2
              have d3_ := cellL (St.start wk).bel d3
              clear d0_ d1_ d2_ d3_
              have d0_ := cellL (St.start wk).bel d0
              have d1_ := cellL (St.start wk).bel d1
              have d2_ := cellL (St.start wk).bel d2
              have d3_ := cellL (St.start wk).bel d3
              by_cases hlt : k < PW
              · have hltI : (k : Int) < PW := by omega
                have hcp := pow_pos_of (c := ts.length) hm.1 (k := k) (by have := HPW.out; omega)
                go_upto_region 17 with fail
                have hs141 := (St.start wk).alloc #[.int .i64 j, .slice none 0 0] 184 (n := wk.heap.size) (by simp)
                clear d0_ d1_ d2_ d3_
                have k0_0 := hs141.cellAt 0 rfl 0 rfl
                have k0_1 := hs141.cellAt 0 rfl 1 rfl
                have d0_ := cellL hs141.bel d0
                have d1_ := cellL hs141.bel d1
                have d2_ := cellL hs141.bel d2
                have d3_ := cellL hs141.bel d3
                have hz_wC : wk.heap.size + 1 ≤ ((wk.alloc (.cells #[.int .i64 j, .slice none 0 0] 184))).heap.size := by simp
                generalize hgen_wC : (wk.alloc (.cells #[.int .i64 j, .slice none 0 0] 184)) = wC at *
                clear hgen_wC
                obtain ⟨CA, hCA⟩ : ∃ z, z = wk.heap.size := ⟨_, rfl⟩
                have hCAk : wk.heap.size = CA := hCA.symm
                go_wp2_with fail
                refine (listOf_c ts.length m k _ (by omega) (by omega) (by omega) (by omega) (by omega) (by omega)).mono ?_
                rintro e w142 ⟨vd, rfl, fr, hbw142⟩
                have hz_w142 : wC.heap.size ≤ w142.heap.size := by have h9 := hbw142.size; (try simp at h9); omega
                have hs143 := hs141.step hbw142
                clear k0_0 k0_1 d0_ d1_ d2_ d3_
                have k0_0 := hs143.cellAt 0 rfl 0 rfl
                have k0_1 := hs143.cellAt 0 rfl 1 rfl
                have d0_ := cellL hs143.bel d0
                have d1_ := cellL hs143.bel d1
                have d2_ := cellL hs143.bel d2
                have d3_ := cellL hs143.bel d3
                rw [Int.toNat_natCast] at fr
                have HDM := Lib.hid (digs_mem ts.length (by omega) m (k : Int))
                obtain ⟨DG, hDG⟩ : ∃ DG, DG = digs (ts.length : Int) m (k : Int) := ⟨_, rfl⟩
                rw [← hDG] at fr HDM
                have hDL : DG.length = m := by rw [hDG]; simp
                have HDG := Lib.hid hDG
                clear hDG
                obtain ⟨aD, cD, rfl, _⟩ := rd_list fr.rd
                rw [hDL] at fr ⊢
                have HDL := Lib.hid hDL
                clear hDL
                have HDI := Lib.hid fr.ip
                clear fr
                have HST := Lib.hid hs143
                obtain ⟨DZ, hDZ⟩ : ∃ z, z = w142.heap.size := ⟨_, rfl⟩
                have hDZ1 : DZ ≤ w142.heap.size := by omega
                have hzCA : wk.heap.size ≤ CA := by omega
                have hzCD : CA + 1 ≤ DZ := by omega
                have HDI := Lib.hid (HDI.out.wk (B := fun z => CA + 1 ≤ z ∧ z < DZ) (fun z hz => by (try simp only at hz); omega))
                rw [← hCA] at HST ⊢
                clear hCA hDZ hCAk
                go_wp2_with fail
                generalize hCL : cellsL size m ((AR : Int), ts) k = CL at *
                have HCL := Lib.hid hCL
                have HCLL := Lib.hid (show CL.length = AR by rw [← hCL]; simp [cellsL])
                clear hCL
                go_loopw [90] (fun ix wl => ∃ (p : Nat) (s : Option Addr) (cs : Nat), p ≤ AR ∧ ix = .int .i64 p ∧ Hid (St wk (CA + 1) wl [(CA, #[.int .i64 j, .slice s p cs], 184)]) ∧ Hid (AccP (fun z => DZ ≤ z ∧ z < wl.heap.size) 2 wl (.slice s p cs) (CL.take p)) ∧ Hid (DZ ≤ wl.heap.size) ∧ Hid (Ip (fun z => CA + 1 ≤ z ∧ z < DZ) wl [.slice aD m cD] DG)) (fun ix _ => AR - (intOf ix).toNat)
                case atStart => exact ⟨0, none, 0, Nat.zero_le _, rfl, HST.out, by simpa [Hid] using AccP.nil _ _ _, hDZ1, HDI.out⟩
                case round =>
                  clear HST HDI
                  obtain ⟨wp, rfl⟩ : ∃ x, x = wr := ⟨_, rfl⟩
                  obtain ⟨p, s, cs, hp, rfl, hst, hac, hdz, hdi⟩ := hrel
                  have hs0 := hst.out
                  have hszr := hst.out.hi
                  have hdzr := hdz.out
                  have HAC := hac
                  have HDI := hdi
                  clear hac hdi hst hdz
                  have k0_0 := hs0.cellAt 0 rfl 0 rfl
                  have k0_1 := hs0.cellAt 0 rfl 1 rfl
                  have d0_ := cellL hs0.bel d0
                  have d1_ := cellL hs0.bel d1
                  have d2_ := cellL hs0.bel d2
                  have d3_ := cellL hs0.bel d3
                  by_cases hlp : p < AR
                  · have hlpI : (p : Int) < AR := by omega
                    have hkr : k < ((AR : Int), ts).2.length ^ m := by have := HPW.out; simp only; omega
                    have HCB := Lib.hid (cellP_bd HROK.out (m := m) (i := k) hkr (p := p) (by simpa using hlp))
                    obtain ⟨AL, hAL⟩ : ∃ AL, AL = DG.map (fun a => (ts.getD a.toNat []).getD p 0) := ⟨_, rfl⟩
                    have HAE := Lib.hid (show AL = (digs (ts.length : Int) m (k : Int)).map (fun a => (ts.getD a.toNat []).getD p 0) by rw [hAL, HDG.out])
                    have HALL := Lib.hid (show AL.length = m by rw [hAL, List.length_map, HDL.out])
                    have HAG := Lib.hid (fun (q : Nat) (h1 : q < DG.length) (h2 : q < AL.length) => show AL[q] = (ts.getD DG[q].toNat []).getD p 0 by simp [hAL])
                    have HCE := Lib.hid (show codeL size AL = cellP size ((AR : Int), ts) (digs (ts.length : Int) m (k : Int)) p by rw [HAE.out]; rfl)
                    have HVA := Lib.hid (show Val size AL by rw [HAE.out]; exact HCB.out.2.2)
                    have HPWA := Lib.hid (show size ^ AL.length ≤ 1000000000000 by rw [HALL.out, HNS.out]; omega)
                    clear hAL
                    have HTSW := Lib.hid (Rd.mono HTS.out hs0.bel)
                    have HDIW := Lib.hid HDI.out
                    go_wp2_with fail
                    go_loopw [16, 95] (fun q ix wl => ∃ (i : Nat) (Q : Int), i ≤ m ∧ ix = .int .i64 i ∧ q = .int .i64 Q ∧ Hid (Q = codeL size (AL.take i)) ∧ Hid (Below wp.heap.size wp wl)) (fun _ ix _ => m - (intOf ix).toNat)
                    case atStart => exact ⟨0, 0, Nat.zero_le _, rfl, rfl, by simp [Hid, codeL], Below.refl _ _⟩
                    case round =>
                      obtain ⟨i, Q, him, rfl, rfl, hq, hbl⟩ := hrel
                      have hsr := hs0.step hbl.out
                      have HAC := Lib.hid (AccP.mono HAC.out hbl.out)
                      have HDI := Lib.hid (Ip.mono HDI.out hbl.out)
                      have HBP := hbl
                      clear hbl
                      have k0_0 := hsr.cellAt 0 rfl 0 rfl
                      have k0_1 := hsr.cellAt 0 rfl 1 rfl
                      have d0_ := cellL hsr.bel d0
                      have d1_ := cellL hsr.bel d1
                      have d2_ := cellL hsr.bel d2
                      have d3_ := cellL hsr.bel d3
                      by_cases hlm : i < m
                      · have hlmI : (i : Int) < m := by omega
                        have hiD : i < DG.length := by rw [HDL.out]; exact hlm
                        have hiA : i < AL.length := by rw [HALL.out]; exact hlm
                        obtain ⟨b6, o6, rfl, y0, _⟩ := rd_int_at (HDI.out).rd i hiD
                        have hdm := HDM.out _ (List.getElem_mem hiD)
                        obtain ⟨A, hA⟩ : ∃ A : Nat, DG[i] = (A : Int) := ⟨DG[i].toNat, by omega⟩
                        have hag := HAG.out i hiD hiA
                        rw [hA] at y0 hdm hag
                        rw [Int.toNat_natCast] at hag
                        have hAl : A < ts.length := by omega
                        have hAlI : (A : Int) < ts.length := by omega
                        obtain ⟨aS3, cS3, e3, hsl3⟩ := rd_list (Rd.mono HTS.out hsr.bel)
                        simp only [Value.slice.injEq] at e3
                        obtain ⟨rfl, -, rfl⟩ := e3
                        obtain ⟨b2, o2, v2, rfl, y1, hv2⟩ := rdSl_one rfl hsl3 A hAl
                        obtain ⟨a4, c4, rfl, _⟩ := rd_list hv2
                        have hvt := HVAL.out ts[A] (List.getElem_mem hAl)
                        have hpl : p < ts[A].length := by rw [hvt.1]; simpa using hlp
                        have hplI : (p : Int) < ts[A].length := by omega
                        obtain ⟨b3, o3, rfl, y2, hIX⟩ := rd_int_at hv2 p hpl
                        rw [show ts[A][p] = AL[i] by rw [hag]; simp [List.getD, hAl, hpl]] at y2
                        have hst := codeL_step hs.1 HVA.out HPWA.out hiA
                        have HTK := Lib.hid (codeL_take (size := size) hiA)
                        rw [← hq.out] at hst
                        have HQ2 := Lib.hid (show Q * size + AL[i] = codeL size (AL.take (i + 1)) by rw [HTK.out, hq.out])
                        clear HTK hag hA hsl3 hv2 hvt hdm hIX
                        generalize AL[i] = XA at *
                        generalize hTL : ts[A].length = TL at *
                        clear hTL
                        obtain ⟨e1, e2, e3, e4, e5⟩ := hst
                        have hwq : IntKind.i64.wrap (Q * size) = Q * size := i64_in _ (by omega)
                        have hwa : IntKind.i64.wrap (Q * size + XA) = Q * size + XA := i64_in _ (by omega)
                        have HWA := Lib.hid hwa
                        go_upto_region 25 with fail
                        refine wp_region_noPanic (wp_region_tree4 (fun w' => w'.cell? ⟨CA, 0, none⟩ = some (.int .i64 j) ∧ w'.cell? ⟨CA, 1, none⟩ = some (.slice s p cs) ∧ w'.cell? ⟨w.heap.size, 0, none⟩ = some (.int .i64 size) ∧ w'.cell? ⟨wo.heap.size, 0, none⟩ = some (.int .i64 AR) ∧ w'.cell? ⟨wo.heap.size, 1, none⟩ = some (.slice (some ⟨b2, o2, none⟩) ts.length cS) ∧ w'.cell? ⟨xb, 3, none⟩ = some (.slice (some ⟨cb, 0, none⟩) n n) ∧ w'.cell? ⟨b6, o6 + i, none⟩ = some (.int .i64 A) ∧ w'.cell? ⟨b2, o2 + A, none⟩ = some (.slice (some ⟨b3, o3, none⟩) TL c4) ∧ w'.cell? ⟨b3, o3 + p, none⟩ = some (.int .i64 XA)) (.float 0 (.float 1 (.float 2 (.float 3 (.float 4 (.float 5 (.float 6 (.float 7 (.float 8 (.float 9 (.float 10 (.float 11 (.float 12 (.float 13 .nil)))))))))))))) (by kernel_rfl) (by kernel_rfl) (by kernel_rfl) rfl ?_ (fun _ _ _ _ _ h => h) ?_)
                        · exact ⟨(hsr.drew).cellAt 0 rfl 0 rfl, (hsr.drew).cellAt 0 rfl 1 rfl, cellL (hsr.drew).bel d0, cellL (hsr.drew).bel d1, cellL (hsr.drew).bel d2, cellL (hsr.drew).bel d3, cellL (belowD _) y0, cellL (belowD _) y1, cellL (belowD _) y2⟩
                        have hs144 := hsr.drew
                        have y0_145 := cellL (belowD _) y0
                        clear y0
                        have y1_146 := cellL (belowD _) y1
                        clear y1
                        have y2_147 := cellL (belowD _) y2
                        clear y2
                        have HAC_148 := Lib.hid (AccP.mono HAC.out (belowD _))
                        clear HAC
                        have HDI_149 := Lib.hid (Ip.mono HDI.out (belowD _))
                        clear HDI
                        have HBP_150 := Lib.hid (HBP.out.trans (((belowD _)).mono HBP.out.size))
                        clear HBP
                        clear k0_0 k0_1 d0_ d1_ d2_ d3_
                        have hz_wd151 : wr.heap.size ≤ (wr.drew).heap.size := by simp
                        generalize hgen_wd151 : wr.drew = wd151 at *
                        have HG_wd151 := Lib.hid hgen_wd151
                        clear hgen_wd151
                        (repeat (first | (apply t4_skip rfl (by rfl); try simp only [Act.put, List.setIfInBounds_toArray, List.set_cons_zero, List.set_cons_succ]) | (apply t4_float rfl (by rfl); (· (intro w' hS; go_simp <;> with_reducible rfl)); (try simp only [Act.put, List.setIfInBounds_toArray, List.set_cons_zero, List.set_cons_succ]))))
                        have k0_0 := hs144.cellAt 0 rfl 0 rfl
                        have k0_1 := hs144.cellAt 0 rfl 1 rfl
                        have d0_ := cellL hs144.bel d0
                        have d1_ := cellL hs144.bel d1
                        have d2_ := cellL hs144.bel d2
                        have d3_ := cellL hs144.bel d3
                        refine t4_nil (NoPanic.normal ?_)
                        have HBR := Lib.hid HBP_150.out
                        go_wp2_with fail
                        go_roundw
                        case rel => exact ⟨i + 1, Q * size + XA, hlm, by go_num, (by first | rfl | (rw [HWA.out])), HQ2.out, HBR.out⟩
                        case measure => simp [intOf]; omega
                      · obtain rfl : i = m := by omega
                        have hnm : ¬ ((i : Int) < i) := by omega
                        obtain ⟨wq, rfl⟩ : ∃ x, x = wr := ⟨_, rfl⟩
                        have hqv := hq.out
                        rw [List.take_of_length_le (by rw [HALL.out]; exact Nat.le_refl _)] at hqv
                        have hci0 : 0 ≤ codeL size AL := by rw [HCE.out]; exact HCB.out.1
                        have hci1 : codeL size AL < (n : Int) := by rw [HCE.out, ← HNS.out]; exact HCB.out.2.1
                        have hpc : p < CL.length := by rw [HCLL.out]; exact hlp
                        have HCT := Lib.hid (show CL.take (p + 1) = CL.take p ++ [codeL size AL] by
                          rw [List.take_succ_eq_append_getElem hpc, HCE.out]
                          congr 2
                          have h9 : (cellsL size i ((AR : Int), ts) k)[p]? = CL[p]? := by rw [HCL.out]
                          rw [List.getElem?_eq_getElem hpc] at h9
                          have h8 : (cellsL size i ((AR : Int), ts) k)[p]? = some (cellP size ((AR : Int), ts) (digs (ts.length : Int) i (k : Int)) p) := by simp [cellsL, hlp]
                          rw [h8] at h9
                          simpa using h9.symm)
                        have HLK := Lib.hid (show (CL.take p).length = p by rw [List.length_take]; omega)
                        rw [← hqv] at hci0 hci1 HCT
                        clear hqv hq HCB HVA HAE HALL HAG HCE HPWA HTSW HDIW
                        have HIX := Lib.hid (show I64 Q from ⟨by omega, by omega⟩)
                        have hb9 := belowA wq (.cells #[.int .i64 Q] 2)
                        have HS9 := Lib.hid (hsr.step hb9)
                        have hz6 := HBP.out.size
                        have hzz9 : (wq.alloc (.cells #[.int .i64 Q] 2)).heap.size = wq.heap.size + 1 := by simp
                        have HZ9 := Lib.hid hzz9
                        clear hzz9
                        go_wp2_with (at_builtin; refine wpList_append_accP _ rfl _ _ _ rfl E_ints rfl (AccP.mono HAC.out (belowA _ _)) (ip_int1 (C := fun _ => False) HIX.out) (fun z h1 h2 => h2) ⟨wq.heap.size, 0, none⟩ 1 rfl (news1 (cell_at_block (heap_alloc_new _ _))) (by rw [HLK.out]; omega) ?_; simp only [HLK.out]; intro a7 c7 w7 hA7 hB7; have hs7 := HS9.out.butP hB7 (fun z hz => by have := hz.1; omega) (fun x hx hA => by have h1 := hA.1; have h2 := hA.2; simp at hx; rcases hx with rfl <;> (try simp only at h1 h2) <;> omega); have q2 := hs7.cellAt 0 rfl 1 rfl; have f2 := hs7.freeAt 0 rfl 1)
                        have hz7 := hB7.size
                        have hzz7 : wq.heap.size < w7.heap.size := by have := HZ9.out; omega
                        have HQ7 := Lib.hid (hs7.set (p := []) (by simp <;> omega) 1 (.slice a7 (p + 1) c7))
                        have HA9 := Lib.hid ((AccP.setCell (b := CA) (o := 1) hA7.tight (.slice a7 (p + 1) c7) (by intro hA9; have h1 := hA9.1; (try simp at h1); omega)).wk (C := fun z => DZ ≤ z ∧ z < w7.heap.size) (fun z hz => by
                          have h2 := hz.2
                          have h3 := HZ9.out
                          rcases hz.1 with h | h | h
                          · exact ⟨h.1, h2⟩
                          · exact h.elim
                          · rw [h] at h2 ⊢; omega))
                        rw [← HCT.out] at HA9
                        have HDI9 := Lib.hid (Ip.setCell (b := CA) (o := 1) (Ip.butP (Ip.mono HDI.out hb9) hB7 (fun z h1 h2 => by (try simp only at h1 h2); omega)) (.slice a7 (p + 1) c7) (by intro hA9; (try simp only at hA9); omega))
                        have HSZ := Lib.hid (show (w7.setCell ⟨CA, 1, none⟩ (.slice a7 (p + 1) c7)).heap.size = w7.heap.size by simp [World.setCell])
                        have hdz7 : DZ ≤ w7.heap.size := by omega
                        clear hA7 hB7 hs7
                        go_wp2_with fail
                        go_roundw
                        case rel => exact ⟨p + 1, a7, c7, hlp, by go_num, HQ7.out, HA9.out.wk (fun z hz => by rw [HSZ.out]; exact hz), by simp only [Hid]; rw [HSZ.out]; exact hdz7, HDI9.out⟩
                        case measure => simp [intOf]; omega
                  · obtain rfl : p = AR := by omega
                    have hnp : ¬ ((p : Int) < p) := by omega
                    have hcll := HCLL.out
                    have hctk : CL.take p = CL := List.take_of_length_le (by omega)
                    have HACL := Lib.hid HAC.out
                    rw [hctk] at HACL
                    have hkr : k < (rs.getD j (0, [])).2.length ^ m := by rw [HJ1.out]; exact hlt
                    have HLO := Lib.hid (lookN_ok HOK.out (m := m) (show j < ((size, rs) : Tmpl).2.length from by simp only; omega) (i := k) hkr)
                    have HLE := Lib.hid (show lookN size m j (rs.getD j (0, [])) k = ((j : Int), CL) by unfold lookN; rw [HRN.out, HCL.out])
                    have HMXN := Lib.hid (look_max (t := (size, rs)) hs.1 HLO.out)
                    have hmx := HMXN.out
                    simp only at hmx
                    rw [HLE.out, HNS.out] at hmx
                    simp only at hmx
                    have HNNG := Lib.hid (show ∀ a, a ∈ CL → 0 ≤ a from fun a ha => by
                      have h1 := HLO.out.val
                      simp only at h1
                      rw [HLE.out] at h1
                      exact (h1 a ha).1)
                    obtain ⟨P, hP⟩ : ∃ P : Nat, maxC CL = (P : Int) := ⟨(maxC CL).toNat, by omega⟩
                    have HP := Lib.hid hP
                    have hPn : P < n := by omega
                    have hPI : (P : Int) < n := by omega
                    have hCL1 : 1 ≤ CL.length := by omega
                    obtain ⟨f9, cur9, ty9, -, -, hc9, -⟩ := HRM.out
                    have HC9 := Lib.hid hc9
                    have hcblt : cb < wk.heap.size := (Array.getElem?_eq_some_iff.1 hc9).1
                    obtain ⟨A, aP, cP, qP, hAP, hAl, hfin⟩ := HRM.out.pushC hPn (by omega)
                    have HAP := Lib.hid hAP
                    have HAL := Lib.hid hAl
                    have HFIN := Lib.hid hfin
                    have HDLN := Lib.hid (show (dueL (looksK (size, rs) m j k) P).length ≤ 4000 from Nat.le_trans (dueL_len _ _) (by
                      have h1 := looksTo_len (size, rs) m j
                      unfold looksK
                      rw [List.length_append, h1, List.length_map, List.length_range]
                      omega))
                    clear hc9 hAP hAl hfin hmx hkr hctk hcll
                    generalize hDK : dueL (looksK (size, rs) m j k) P = DK at *
                    have HDK := Lib.hid hDK
                    clear hDK
                    have HSCL := Lib.hid (show CL.length = p from HCLL.out)
                    go_wp2_with fail
                    refine (maxInts_c CL _ _ HACL.out.rd hCL1 HNNG.out).mono ?_
                    rintro e w5 ⟨rfl, rfl⟩
                    rw [HP.out]
                    go_upto_region 30 with fail
                    have HBLP := Lib.hid hs0.bel
                    have hwop := hs0.bel.size
                    have y0 := cellL hs0.bel d3
                    have y2 := cellL hs0.bel qP
                    have y3 := (hs0.cellAt 0 rfl 0 rfl)
                    have y4 := (hs0.cellAt 0 rfl 1 rfl)
                    simp only [List.getElem_toArray, List.getElem_cons_zero, List.getElem_cons_succ] at y3 y4
                    have hsN := St.start wp
                    have HBN := Lib.hid (Below.refl wp.heap.size wp)
                    have HAC := HACL
                    clear HACL
                    refine wp_region_noPanic (wp_region_tree4 (fun w' => w'.cell? ⟨xb, 3, none⟩ = some (.slice (some ⟨cb, 0, none⟩) n n) ∧ w'.cell? ⟨cb, P, none⟩ = some (.slice aP DK.length cP) ∧ w'.cell? ⟨CA, 0, none⟩ = some (.int .i64 j) ∧ w'.cell? ⟨CA, 1, none⟩ = some (.slice s p cs)) (.float 0 (.float 1 (.float 2 (.float 3 (.float 4 (.float 5 (.float 6 (.float 7 (.float 8 (.float 9 (.float 10 (.float 11 (.float 12 (.hard 13 (.hard 14 (.float 15 (.last 16 .nil))))))))))))))))) (by kernel_rfl) (by kernel_rfl) (by kernel_rfl) rfl ?_ (fun _ _ _ _ _ h => h) ?_)
                    · exact ⟨cellL (belowD _) y0, cellL (belowD _) y2, cellL (belowD _) y3, cellL (belowD _) y4⟩
                    have hs152 := hsN.drew
                    have y0_153 := cellL (belowD _) y0
                    clear y0
                    have y2_154 := cellL (belowD _) y2
                    clear y2
                    have y3_155 := cellL (belowD _) y3
                    clear y3
                    have y4_156 := cellL (belowD _) y4
                    clear y4
                    have HAC_157 := Lib.hid (AccP.mono HAC.out (belowD _))
                    clear HAC
                    have HBN_158 := Lib.hid (HBN.out.trans (((belowD _)).mono HBN.out.size))
                    clear HBN
                    have hz_wd159 : wp.heap.size ≤ (wp.drew).heap.size := by simp
                    generalize hgen_wd159 : wp.drew = wd159 at *
                    have HG_wd159 := Lib.hid hgen_wd159
                    clear hgen_wd159
                    (repeat (first | (apply t4_skip rfl (by rfl); try simp only [Act.put, List.setIfInBounds_toArray, List.set_cons_zero, List.set_cons_succ]) | (apply t4_float rfl (by rfl); (· (intro w' hS; go_simp <;> with_reducible rfl)); (try simp only [Act.put, List.setIfInBounds_toArray, List.set_cons_zero, List.set_cons_succ]))))
                    refine t4_hard rfl (by rfl) (fun K hK => ?_)
                    go_wp2_with fail
                    have hs160 := hs152.alloc #[.int .i64 j, .slice s p cs] 184 (n := wd159.heap.size) (by simp)
                    have y0_161 := cellL (belowA _ (.cells #[.int .i64 j, .slice s p cs] 184)) y0_153
                    clear y0_153
                    have y2_162 := cellL (belowA _ (.cells #[.int .i64 j, .slice s p cs] 184)) y2_154
                    clear y2_154
                    have y3_163 := cellL (belowA _ (.cells #[.int .i64 j, .slice s p cs] 184)) y3_155
                    clear y3_155
                    have y4_164 := cellL (belowA _ (.cells #[.int .i64 j, .slice s p cs] 184)) y4_156
                    clear y4_156
                    have HAC_165 := Lib.hid (AccP.mono HAC_157.out (belowA _ (.cells #[.int .i64 j, .slice s p cs] 184)))
                    clear HAC_157
                    have HBN_166 := Lib.hid (HBN_158.out.trans (((belowA _ (.cells #[.int .i64 j, .slice s p cs] 184))).mono HBN_158.out.size))
                    clear HBN_158
                    refine ⟨⟨y0_161, y2_162, y3_163, y4_164⟩, ?_⟩
                    (repeat (first | (apply t4_skip rfl (by rfl); try simp only [Act.put, List.setIfInBounds_toArray, List.set_cons_zero, List.set_cons_succ]) | (apply t4_float rfl (by rfl); (· (intro w' hS; go_simp <;> with_reducible rfl)); (try simp only [Act.put, List.setIfInBounds_toArray, List.set_cons_zero, List.set_cons_succ]))))
                    refine t4_hard rfl (by rfl) (fun K hK => ?_)
                    have hdl := HDLN.out
                    have HIR := Lib.hid (ip_icA (k := (j : Int)) ⟨by omega, by omega⟩ HAC_165.out.ip)
                    have hsz9 := HBN_166.out.size
                    have HBWO := Lib.hid (HBLP.out.trans (HBN_166.out.mono (by omega)))
                    refine wp_append_accP _ _ _ _ rfl E_looks rfl (AccP.mono HAP.out HBWO.out) HIR.out (fun z h1 h2 => by have h3 := HAL.out z h1; (try simp only at h2); omega) ⟨wd159.heap.size, 0, none⟩ 1 rfl (news2 (hs160.cellAt 0 rfl 0 rfl) (hs160.cellAt 0 rfl 1 rfl)) (by omega) ?_
                    intro a7 c7 w7 hA7 hB7
                    have hz7 := hB7.size
                    have hbi := hB7.wk (C := fun z => wc.heap.size ≤ z ∧ z < wk.heap.size ∧ z ≠ wo.heap.size) (fun z hz => by have := HAL.out z hz; omega)
                    have HF7 := Lib.hid (HFIN.out _ w7 _ (.slice a7 (DK.length + 1) c7) _ HBWO.out (Nat.le_refl _) (fun z hz => by (try simp only at hz); omega) hA7 hB7)
                    have HBX := Lib.hid (show ButP (fun z => z = cb ∨ (wc.heap.size ≤ z ∧ z ≠ wo.heap.size)) w9 w7 from (HBTK.out.trans ((ButP.of HBWO.out) : ButP (fun z => z = cb ∨ (wc.heap.size ≤ z ∧ z ≠ wo.heap.size)) _ _) (fun z hz => .inl hz)).trans (hbi.wk (C := fun z => z = cb ∨ (wc.heap.size ≤ z ∧ z ≠ wo.heap.size)) (fun z hz => .inr ⟨hz.1, hz.2.2⟩)) (fun z hz => .inl hz))
                    have hfr : w7.frozen? ⟨cb, P, none⟩ = false := free_at_block (show w7.heap[cb]? = some (.cells cur9 ty9 (0, 0)) by
                      rw [hB7.block cb (by have := HBWO.out.size; omega) (fun hA9 => by have := HAL.out _ hA9; omega), HBWO.out.block cb hcblt]
                      exact HC9.out)
                    have hs7 := St.start w7
                    clear hA7
                    clear HAC_165
                    clear HBN_166
                    have y0_167 := cellB hbi y0_161 (by intro hA9; (try simp only at hA9); omega)
                    clear y0_161
                    have y2_168 := cellB hbi y2_162 (by intro hA9; (try simp only at hA9); omega)
                    clear y2_162
                    have y3_169 := cellB hbi y3_163 (by intro hA9; (try simp only at hA9); omega)
                    clear y3_163
                    have y4_170 := cellB hbi y4_164 (by intro hA9; (try simp only at hA9); omega)
                    clear y4_164
                    refine hK _ _ ⟨⟨y0_167, y2_168, y3_169, y4_170⟩, ?_⟩
                    (repeat (first | (apply t4_skip rfl (by rfl); try simp only [Act.put, List.setIfInBounds_toArray, List.set_cons_zero, List.set_cons_succ]) | (apply t4_float rfl (by rfl); (· (intro w' hS; go_simp <;> with_reducible rfl)); (try simp only [Act.put, List.setIfInBounds_toArray, List.set_cons_zero, List.set_cons_succ]))))
                    refine t4_last rfl (by rfl) (fun K hK => ?_)
                    go_wp2_with fail
                    refine t4_nil (NoPanic.normal ?_)
                    have HRN9 := Lib.hid (show RunC wo.heap.size wc.heap.size w7.heap.size (w7.setCell ⟨cb, P, none⟩ (.slice a7 (DK.length + 1) c7)) cb n 161 184 (.slice a8 (j + 1) c8) (insTo (size, rs) (j + 1)) (dueL (looksK (size, rs) m j (k + 1))) by
                      rw [looksK_succ, ← due_push _ _ P (by simp only; rw [HLE.out]; exact HP.out)]
                      have h9 := HF7.out
                      rw [← HDK.out] at h9 ⊢
                      simp only
                      rw [HLE.out]
                      exact h9)
                    have HSZ := Lib.hid (show (w7.setCell ⟨cb, P, none⟩ (.slice a7 (DK.length + 1) c7)).heap.size = w7.heap.size by simp [World.setCell])
                    have HBX9 := Lib.hid (butp_set (b := cb) (o := P) HBX.out (.slice a7 (DK.length + 1) c7) (.inl rfl))
                    have hw7 : w9.heap.size ≤ w7.heap.size := HBX.out.size
                    go_wp2_with fail
                    go_roundw
                    case rel => exact ⟨k + 1, hlt, by go_num, by simp only [Hid]; rw [HSZ.out]; exact hw7, HBX9.out, by simp only [Hid]; rw [HSZ.out]; exact HRN9.out⟩
                    case measure => simp [intOf]; omega
              · obtain rfl : k = PW := by omega
                have hnl : ¬ ((k : Int) < k) := by omega
                have HRE := Lib.hid (show RunM wc.heap.size wk.heap.size wk cb n 161 184 (.slice a8 (j + 1) c8) (insTo (size, rs) (j + 1)) (dueL (looksTo (size, rs) m (j + 1))) by rw [← looksK_end (size, rs) m j k HJ1.out]; exact HRM.out.run)
                have HBPK := Lib.hid (show ButP (fun z => z = xb ∨ z = cb ∨ wc.heap.size ≤ z) wc wk from HBP9.out.trans (HBTK.out.wk (C := fun z => z = xb ∨ z = cb ∨ wc.heap.size ≤ z) (fun z hz => by omega)) (fun z hz => .inl hz))
                go_wp2_with fail
                go_roundw
                case rel => exact ⟨j + 1, _, hlj, by go_num, (show wc.heap.size ≤ wk.heap.size by omega), HBWK.out, HXK.out, HRE.out, HBPK.out⟩
                case measure => simp [intOf]; omega
      · obtain rfl : j = rs.length := by omega
        have hnj : ¬ ((rs.length : Int) < rs.length) := by omega
        have HFIN := Lib.hid (show ∀ H, wo.heap.size ≤ H → FindR wc.heap.size wo.heap.size H wo (size, rs) m xb cb n 161 184 182 2 [] 0 from fun H hH =>
          ⟨⟨_, _, _, _, _, HXB.out, HRM.out, (HB.out.told.butP HBP.out (fun k hk => by omega)).wk (fun k hk => ⟨by have := hk.1.2; omega, hk.2.1⟩), AccP.nil _ _ _⟩, by omega⟩)
        go_wp2_with fail
        go_ret
        exact ⟨xb, rfl, HBW.out, by omega, cb, _, HFIN.out⟩

end Go.Proofs.YtllenfkbfeanmaaGreat

