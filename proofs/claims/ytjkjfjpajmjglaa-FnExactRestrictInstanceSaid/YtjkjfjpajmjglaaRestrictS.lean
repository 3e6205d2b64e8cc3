/-
  CONTRACT: RestrictInstance, the reference's side.
-/
import Derived.Test.YtjkjfjpajmjglaaRestrict
import Derived.Test.YtjkjfjpajmjglaaOwnS
namespace Go.Proofs.Ytjkjfjpajmjglaa
open Go.RowKit Go.Shelf Go.IntWalk
open Rep (Rd Own sz)
set_option linter.unusedSimpArgs false
set_option linter.unusedVariables false

set_option maxRecDepth 100000 in
set_option maxHeartbeats 8000000 in
theorem sRestrictInstance_c (t : Tmpl) (t0 t1 : Value) (x : Inst) (x0 x1 : Value) (keep : List Int) (vk : Value) (w : World) (ht : Rd w [t0, t1] t) (hx : Rd w [x0, x1] x) (hk : Rd w [vk] keep) (hz : keep.length ≤ 1048576) :
    Calls Try.prog 31 #[.agg #[t0, t1], .agg #[x0, x1], vk] w fun e w' => ∃ u0 u1, e = .returned (.tuple #[.agg #[u0, u1], .int .i64 (restrictF t x keep).2]) ∧ Fresh w.heap.size w' [u0, u1] (restrictF t x keep).1 ∧ Below w.heap.size w w' := by
  obtain ⟨size, rs⟩ := t
  obtain ⟨vars, cs⟩ := x
  have HT := Lib.hid ht
  have HX := Lib.hid hx
  have HK := Lib.hid hk
  have zt := rd_cons rfl ht
  obtain ⟨rfl, _⟩ := rd_i1 zt.1
  obtain ⟨at0, ct0, rfl, _⟩ := rd_list zt.2
  have zx := rd_cons rfl hx
  obtain ⟨rfl, hIv⟩ := rd_i1 zx.1
  obtain ⟨ax, cx, rfl, hcr⟩ := rd_list zx.2
  obtain ⟨ak, ck, rfl, hkr⟩ := rd_list hk
  have HCS := Lib.hid hcr
  have HIV := Lib.hid hIv
  clear ht hx hk zt zx hkr hIv hcr
  have hs1 := (St.start w).alloc #[.int .i64 size, .slice at0 rs.length ct0] 34 (n := w.heap.size) (by simp)
  have k0_0 := hs1.cellAt 0 rfl 0 rfl
  have k0_1 := hs1.cellAt 0 rfl 1 rfl
  have hs2 := hs1.alloc #[.int .i64 vars, .slice ax cs.length cx] 61 (n := w.heap.size + 1) (by simp)
  clear k0_0 k0_1
  have k0_0 := hs2.cellAt 0 rfl 0 rfl
  have k0_1 := hs2.cellAt 0 rfl 1 rfl
  have k1_0 := hs2.cellAt 1 rfl 0 rfl
  have k1_1 := hs2.cellAt 1 rfl 1 rfl
  have hs3 := hs2.alloc #[.int .i64 0, .slice none 0 0] 61 (n := w.heap.size + 1 + 1) (by simp)
  clear k0_0 k0_1 k1_0 k1_1
  have k0_0 := hs3.cellAt 0 rfl 0 rfl
  have k0_1 := hs3.cellAt 0 rfl 1 rfl
  have k1_0 := hs3.cellAt 1 rfl 0 rfl
  have k1_1 := hs3.cellAt 1 rfl 1 rfl
  have k2_0 := hs3.cellAt 2 rfl 0 rfl
  have k2_1 := hs3.cellAt 2 rfl 1 rfl
  go_enter Try.func31, Try.ntmps31
  go_wp2_with fail
  refine (l05Ok_c (size, rs) (vars, cs) _ _ _ _ _ _ _ (Rd.mono HT.out hs3.bel) (Rd.mono HX.out hs3.bel) (hs3.cellAt 0 rfl 0 rfl) (hs3.cellAt 0 rfl 1 rfl) (hs3.cellAt 1 rfl 0 rfl) (hs3.cellAt 1 rfl 1 rfl)).mono ?_
  rintro e w4 ⟨rfl, hbw4⟩
  have hz_w4 : w.heap.size + 1 + 1 + 1 ≤ w4.heap.size := by have h9 := hbw4.size; (try simp at h9); omega
  have hs5 := hs3.step hbw4
  clear k0_0 k0_1 k1_0 k1_1 k2_0 k2_1
  have k0_0 := hs5.cellAt 0 rfl 0 rfl
  have k0_1 := hs5.cellAt 0 rfl 1 rfl
  have k1_0 := hs5.cellAt 1 rfl 0 rfl
  have k1_1 := hs5.cellAt 1 rfl 1 rfl
  have k2_0 := hs5.cellAt 2 rfl 0 rfl
  have k2_1 := hs5.cellAt 2 rfl 1 rfl
  cases h1 : instOk (size, rs) (vars, cs) with
  | false =>
    have H1 := Lib.hid (show restrictF (size, rs) (vars, cs) keep = ((0, []), 1) by unfold restrictF; rw [h1]; rfl)
    clear h1
    have g0 := (hs5.freeAt 2 rfl 0)
    have g1 := (hs5.freeAt 2 rfl 1)
    have hs9 := ((hs5.set (p := [_, _]) (by simp <;> omega) 0 (.int .i64 0)).set (p := [_, _]) (by simp <;> omega) 1 (.slice none 0 0))
    have HB9 := Lib.hid hs9.bel
    have y0 := hs9.cellAt 2 rfl 0 rfl
    have y1 := hs9.cellAt 2 rfl 1 rfl
    clear hs9
    go_wp2_with fail
    refine bodyPost_ret (v := .tuple #[.agg #[.int .i64 0, .slice none 0 0], .int .i64 1]) (by simp [results, Try.results31, go_sem, y0, y1]) rfl ⟨_, _, by rw [H1.out], ?_, HB9.out⟩
    rw [H1.out]; exact fresh_int_cons ⟨by decide, by decide⟩ fresh_nil_list
  | true =>
    have hcs := (instOk_get h1).2.2.1
    simp only at hcs
    have HCL := Lib.hid (show ∀ c, c ∈ cs → c.2.length ≤ 4 from fun c hc => conOk_len (instOk_get h1).1 ((instOk_get h1).2.2.2 c hc))
    have H0 := Lib.hid (show restrictF (size, rs) (vars, cs) keep = if risesB 0 ((cs.length : Int) - 1) keep then ((vars, selC cs keep), 0) else ((0, []), 2) by unfold restrictF; rw [h1]; rfl)
    clear h1
    go_wp2_with fail
    refine (l00Rises_c keep 0 ((cs.length : Int) - 1) _ _ (Rd.mono HK.out hs5.bel)).mono ?_
    rintro e wO ⟨rfl, hbO⟩
    have hz_wO : w4.heap.size ≤ wO.heap.size := by have h9 := hbO.size; (try simp at h9); omega
    have hs6 := hs5.step hbO
    clear k0_0 k0_1 k1_0 k1_1 k2_0 k2_1
    have k0_0 := hs6.cellAt 0 rfl 0 rfl
    have k0_1 := hs6.cellAt 0 rfl 1 rfl
    have k1_0 := hs6.cellAt 1 rfl 0 rfl
    have k1_1 := hs6.cellAt 1 rfl 1 rfl
    have k2_0 := hs6.cellAt 2 rfl 0 rfl
    have k2_1 := hs6.cellAt 2 rfl 1 rfl
    cases h2 : risesB 0 ((cs.length : Int) - 1) keep with
    | false =>
      have H1 := Lib.hid (show restrictF (size, rs) (vars, cs) keep = ((0, []), 2) by rw [H0.out, h2]; rfl)
      clear h2
      have g0 := (hs6.freeAt 2 rfl 0)
      have g1 := (hs6.freeAt 2 rfl 1)
      have hs9 := ((hs6.set (p := [_, _]) (by simp <;> omega) 0 (.int .i64 0)).set (p := [_, _]) (by simp <;> omega) 1 (.slice none 0 0))
      have HB9 := Lib.hid hs9.bel
      have y0 := hs9.cellAt 2 rfl 0 rfl
      have y1 := hs9.cellAt 2 rfl 1 rfl
      clear hs9
      go_wp2_with fail
      refine bodyPost_ret (v := .tuple #[.agg #[.int .i64 0, .slice none 0 0], .int .i64 2]) (by simp [results, Try.results31, go_sem, y0, y1]) rfl ⟨_, _, by rw [H1.out], ?_, HB9.out⟩
      rw [H1.out]; exact fresh_int_cons ⟨by decide, by decide⟩ fresh_nil_list
    | true =>
      have H1 := Lib.hid (show restrictF (size, rs) (vars, cs) keep = ((vars, selC cs keep), 0) by rw [H0.out, h2]; rfl)
      have HM := Lib.hid (show ∀ k, k ∈ keep → 0 ≤ k ∧ k < cs.length from fun k hk => by
        have := rises_mem h2 k hk
        omega)
      have hln := rises_len h2
      clear h2
      have xO0 := (hs6.cellAt 1 rfl 0 rfl)
      have hs7 := hs6.alloc #[.int .i64 vars, .slice none 0 0] 61 (n := wO.heap.size) (by simp)
      clear k0_0 k0_1 k1_0 k1_1 k2_0 k2_1
      have k0_0 := hs7.cellAt 0 rfl 0 rfl
      have k0_1 := hs7.cellAt 0 rfl 1 rfl
      have k1_0 := hs7.cellAt 1 rfl 0 rfl
      have k1_1 := hs7.cellAt 1 rfl 1 rfl
      have k2_0 := hs7.cellAt 2 rfl 0 rfl
      have k2_1 := hs7.cellAt 2 rfl 1 rfl
      have k3_0 := hs7.cellAt 3 rfl 0 rfl
      have k3_1 := hs7.cellAt 3 rfl 1 rfl
      have HS0 := Lib.hid hs7
      go_wp2_with fail
      clear xO0
      go_loopw [9] (fun i wl => ∃ (k : Nat) (ao : Option Addr) (co : Nat), k ≤ keep.length ∧ i = .int .i64 k ∧ Hid (St w (wO.heap.size + 1) wl [(w.heap.size, #[.int .i64 size, .slice at0 rs.length ct0], 34), (w.heap.size + 1, #[.int .i64 vars, .slice ax cs.length cx], 61), (w.heap.size + 1 + 1, #[.int .i64 0, .slice none 0 0], 61), (wO.heap.size, #[.int .i64 vars, .slice ao k co], 61)]) ∧
        Hid (AccP (fun z => wO.heap.size + 1 ≤ z ∧ z < wl.heap.size) 107 wl (.slice ao k co) (selC cs (keep.take k)))) (fun i _ => keep.length - (intOf i).toNat)
      case atStart => exact ⟨0, none, 0, Nat.zero_le _, rfl, HS0.out, AccP.nil _ _ _⟩
      case round =>
        clear HS0
        obtain ⟨k, ao, co, hk, rfl, hst, hac⟩ := hrel
        have hsr := hst.out
        have hszr := hsr.hi
        have HAC := hac
        have k0_0 := hsr.cellAt 0 rfl 0 rfl
        have k0_1 := hsr.cellAt 0 rfl 1 rfl
        have k1_0 := hsr.cellAt 1 rfl 0 rfl
        have k1_1 := hsr.cellAt 1 rfl 1 rfl
        have k2_0 := hsr.cellAt 2 rfl 0 rfl
        have k2_1 := hsr.cellAt 2 rfl 1 rfl
        have k3_0 := hsr.cellAt 3 rfl 0 rfl
        have k3_1 := hsr.cellAt 3 rfl 1 rfl
        by_cases hlt : k < keep.length
        · have hkl : (k : Int) < keep.length := by omega
          obtain ⟨bk, ok, rfl, qk0, _⟩ := rd_int_at HK.out k hlt
          have hbk := World.block_lt_of_cell? w _ qk0
          have hvk := HM.out _ (List.getElem_mem hlt)
          obtain ⟨n, hn2⟩ : ∃ n : Nat, keep[k] = (n : Int) := ⟨keep[k].toNat, by omega⟩
          have HTK := Lib.hid (show selC cs (keep.take k) ++ [cs.getD n (0, [])] = selC cs (keep.take (k + 1)) by
            rw [List.take_succ_eq_append_getElem hlt]; simp [selC, hn2])
          have HLK := Lib.hid (show (selC cs (keep.take k)).length = k by simp only [selC, List.length_map, List.length_take]; omega)
          rw [hn2] at qk0 hvk
          have qk := cellL hsr.bel qk0
          have hnl : n < cs.length := by omega
          have hnI : (n : Int) < cs.length := by omega
          clear hn2
          obtain ⟨b, o, u0, u1, rfl, p0, p1, hy⟩ := rdSl_two rfl HCS.out n hnl
          have hbq := World.block_lt_of_cell? w _ p0
          have hyz := rd_cons rfl hy
          obtain ⟨rfl, hIc⟩ := rd_i1 hyz.1
          obtain ⟨a1, c1, rfl, _⟩ := rd_list hyz.2
          have HSC := Lib.hid (Rd.mono hyz.2 hsr.bel)
          have HLS := Lib.hid (HCL.out _ (List.getElem_mem hnl))
          clear hy hyz
          rw [show cs.getD n (0, []) = cs[n] by simp [List.getD, hnl]] at HTK
          generalize hC : cs[n] = C at *
          obtain ⟨ci, sc⟩ := C
          clear hC
          simp only at p0 p1 HSC HLS hIc hbq hbk
          have q0 := cellL hsr.bel p0
          have q1 := cellL hsr.bel p1
          clear p0 p1 qk0
          go_upto_region 9 with fail
          refine wp_region_noPanic (wp_region_tree4 (fun w' => w'.cell? ⟨w.heap.size, 0, none⟩ = some (.int .i64 size) ∧ w'.cell? ⟨w.heap.size, 1, none⟩ = some (.slice at0 rs.length ct0) ∧ w'.cell? ⟨w.heap.size + 1, 0, none⟩ = some (.int .i64 vars) ∧ w'.cell? ⟨w.heap.size + 1, 1, none⟩ = some (.slice (some ⟨b, o, none⟩) cs.length cx) ∧ w'.cell? ⟨w.heap.size + 1 + 1, 0, none⟩ = some (.int .i64 0) ∧ w'.cell? ⟨w.heap.size + 1 + 1, 1, none⟩ = some (.slice none 0 0) ∧ w'.cell? ⟨wO.heap.size, 0, none⟩ = some (.int .i64 vars) ∧ w'.cell? ⟨wO.heap.size, 1, none⟩ = some (.slice ao k co) ∧ w'.cell? ⟨bk, ok + k, none⟩ = some (.int .i64 n) ∧ w'.cell? ⟨b, o + n * 2, none⟩ = some (.int .i64 ci) ∧ w'.cell? ⟨b, o + n * 2 + 1, none⟩ = some (.slice a1 sc.length c1)) (.float 0 (.float 1 (.float 2 (.float 3 (.float 4 (.float 5 (.float 6 (.float 7 .nil)))))))) (by kernel_rfl) (by kernel_rfl) (by kernel_rfl) rfl ?_ (fun _ _ _ _ _ h => h) ?_)
          · exact ⟨(hsr.drew).cellAt 0 rfl 0 rfl, (hsr.drew).cellAt 0 rfl 1 rfl, (hsr.drew).cellAt 1 rfl 0 rfl, (hsr.drew).cellAt 1 rfl 1 rfl, (hsr.drew).cellAt 2 rfl 0 rfl, (hsr.drew).cellAt 2 rfl 1 rfl, (hsr.drew).cellAt 3 rfl 0 rfl, (hsr.drew).cellAt 3 rfl 1 rfl, cellL (belowD _) qk, cellL (belowD _) q0, cellL (belowD _) q1⟩
          have hs8 := hsr.drew
          have qk_9 := cellL (belowD _) qk
          clear qk
          have q0_10 := cellL (belowD _) q0
          clear q0
          have q1_11 := cellL (belowD _) q1
          clear q1
          have HAC_12 := Lib.hid (AccP.mono HAC.out (belowD _))
          clear HAC
          have HSC_13 := Lib.hid (Rd.mono HSC.out (belowD _))
          clear HSC
          clear k0_0 k0_1 k1_0 k1_1 k2_0 k2_1 k3_0 k3_1
          have hz_wd14 : wr.heap.size ≤ (wr.drew).heap.size := by simp
          generalize hgen_wd14 : wr.drew = wd14 at *
          have HG_wd14 := Lib.hid hgen_wd14
          clear hgen_wd14
          (repeat (first | (apply t4_skip rfl (by rfl); try simp only [Act.put, List.setIfInBounds_toArray, List.set_cons_zero, List.set_cons_succ]) | (apply t4_float rfl (by rfl); (· (intro w' hS; go_simp <;> with_reducible rfl)); (try simp only [Act.put, List.setIfInBounds_toArray, List.set_cons_zero, List.set_cons_succ]))))
          have k0_0 := hs8.cellAt 0 rfl 0 rfl
          have k0_1 := hs8.cellAt 0 rfl 1 rfl
          have k1_0 := hs8.cellAt 1 rfl 0 rfl
          have k1_1 := hs8.cellAt 1 rfl 1 rfl
          have k2_0 := hs8.cellAt 2 rfl 0 rfl
          have k2_1 := hs8.cellAt 2 rfl 1 rfl
          have k3_0 := hs8.cellAt 3 rfl 0 rfl
          have k3_1 := hs8.cellAt 3 rfl 1 rfl
          refine t4_nil (NoPanic.normal ?_)
          go_upto_region 10 with fail
          refine wp_region_noPanic (wp_region_tree4 (fun w' => w'.cell? ⟨w.heap.size, 0, none⟩ = some (.int .i64 size) ∧ w'.cell? ⟨w.heap.size, 1, none⟩ = some (.slice at0 rs.length ct0) ∧ w'.cell? ⟨w.heap.size + 1, 0, none⟩ = some (.int .i64 vars) ∧ w'.cell? ⟨w.heap.size + 1, 1, none⟩ = some (.slice (some ⟨b, o, none⟩) cs.length cx) ∧ w'.cell? ⟨w.heap.size + 1 + 1, 0, none⟩ = some (.int .i64 0) ∧ w'.cell? ⟨w.heap.size + 1 + 1, 1, none⟩ = some (.slice none 0 0) ∧ w'.cell? ⟨wO.heap.size, 0, none⟩ = some (.int .i64 vars) ∧ w'.cell? ⟨wO.heap.size, 1, none⟩ = some (.slice ao k co) ∧ w'.cell? ⟨bk, ok + k, none⟩ = some (.int .i64 n) ∧ w'.cell? ⟨b, o + n * 2, none⟩ = some (.int .i64 ci) ∧ w'.cell? ⟨b, o + n * 2 + 1, none⟩ = some (.slice a1 sc.length c1)) (.float 0 (.float 1 (.float 2 (.float 3 (.float 4 (.float 5 (.float 6 (.float 7 (.float 8 (.float 9 (.hard 10 (.float 11 (.hard 12 (.hard 13 (.float 14 (.last 15 .nil)))))))))))))))) (by kernel_rfl) (by kernel_rfl) (by kernel_rfl) rfl ?_ (fun _ _ _ _ _ h => h) ?_)
          · exact ⟨(hs8.drew).cellAt 0 rfl 0 rfl, (hs8.drew).cellAt 0 rfl 1 rfl, (hs8.drew).cellAt 1 rfl 0 rfl, (hs8.drew).cellAt 1 rfl 1 rfl, (hs8.drew).cellAt 2 rfl 0 rfl, (hs8.drew).cellAt 2 rfl 1 rfl, (hs8.drew).cellAt 3 rfl 0 rfl, (hs8.drew).cellAt 3 rfl 1 rfl, cellL (belowD _) qk_9, cellL (belowD _) q0_10, cellL (belowD _) q1_11⟩
          have hs15 := hs8.drew
          have qk_16 := cellL (belowD _) qk_9
          clear qk_9
          have q0_17 := cellL (belowD _) q0_10
          clear q0_10
          have q1_18 := cellL (belowD _) q1_11
          clear q1_11
          have HAC_19 := Lib.hid (AccP.mono HAC_12.out (belowD _))
          clear HAC_12
          have HSC_20 := Lib.hid (Rd.mono HSC_13.out (belowD _))
          clear HSC_13
          clear k0_0 k0_1 k1_0 k1_1 k2_0 k2_1 k3_0 k3_1
          have hz_wd21 : wd14.heap.size ≤ (wd14.drew).heap.size := by simp
          generalize hgen_wd21 : wd14.drew = wd21 at *
          have HG_wd21 := Lib.hid hgen_wd21
          clear hgen_wd21
          (repeat (first | (apply t4_skip rfl (by rfl); try simp only [Act.put, List.setIfInBounds_toArray, List.set_cons_zero, List.set_cons_succ]) | (apply t4_float rfl (by rfl); (· (intro w' hS; go_simp <;> with_reducible rfl)); (try simp only [Act.put, List.setIfInBounds_toArray, List.set_cons_zero, List.set_cons_succ]))))
          refine t4_hard rfl (by rfl) (fun K hK => ?_)
          go_wp2_with (go_at_call 68; refine (l00Own_c sc _ _ HSC_20.out (by have := HLS.out; omega)).mono ?_; rintro e w22 ⟨v4, rfl, hA4, hbw22⟩)
          have hz_w22 : wd21.heap.size ≤ w22.heap.size := by have h9 := hbw22.size; (try simp at h9); omega
          have hs23 := hs15.step hbw22
          have qk_24 := cellL hbw22 qk_16
          clear qk_16
          have q0_25 := cellL hbw22 q0_17
          clear q0_17
          have q1_26 := cellL hbw22 q1_18
          clear q1_18
          have HAC_27 := Lib.hid (AccP.mono HAC_19.out hbw22)
          clear HAC_19
          have HSC_28 := Lib.hid (Rd.mono HSC_20.out hbw22)
          clear HSC_20
          obtain ⟨a4, c4, rfl, _⟩ := hA4.len
          have HA4 := Lib.hid hA4
          clear hA4
          refine ⟨⟨hs23.cellAt 0 rfl 0 rfl, hs23.cellAt 0 rfl 1 rfl, hs23.cellAt 1 rfl 0 rfl, hs23.cellAt 1 rfl 1 rfl, hs23.cellAt 2 rfl 0 rfl, hs23.cellAt 2 rfl 1 rfl, hs23.cellAt 3 rfl 0 rfl, hs23.cellAt 3 rfl 1 rfl, qk_24, q0_25, q1_26⟩, ?_⟩
          (repeat (first | (apply t4_skip rfl (by rfl); try simp only [Act.put, List.setIfInBounds_toArray, List.set_cons_zero, List.set_cons_succ]) | (apply t4_float rfl (by rfl); (· (intro w' hS; go_simp <;> with_reducible rfl)); (try simp only [Act.put, List.setIfInBounds_toArray, List.set_cons_zero, List.set_cons_succ]))))
          refine t4_hard rfl (by rfl) (fun K hK => ?_)
          go_wp2_with fail
          have hs29 := hs23.alloc #[.int .i64 ci, .slice a4 sc.length c4] 107 (n := w22.heap.size) (by simp)
          have qk_30 := cellL (belowA _ (.cells #[.int .i64 ci, .slice a4 sc.length c4] 107)) qk_24
          clear qk_24
          have q0_31 := cellL (belowA _ (.cells #[.int .i64 ci, .slice a4 sc.length c4] 107)) q0_25
          clear q0_25
          have q1_32 := cellL (belowA _ (.cells #[.int .i64 ci, .slice a4 sc.length c4] 107)) q1_26
          clear q1_26
          have HAC_33 := Lib.hid (AccP.mono HAC_27.out (belowA _ (.cells #[.int .i64 ci, .slice a4 sc.length c4] 107)))
          clear HAC_27
          have HSC_34 := Lib.hid (Rd.mono HSC_28.out (belowA _ (.cells #[.int .i64 ci, .slice a4 sc.length c4] 107)))
          clear HSC_28
          have HA4_35 := Lib.hid (Acc.mono HA4.out (belowA _ (.cells #[.int .i64 ci, .slice a4 sc.length c4] 107)))
          clear HA4
          refine ⟨⟨hs29.cellAt 0 rfl 0 rfl, hs29.cellAt 0 rfl 1 rfl, hs29.cellAt 1 rfl 0 rfl, hs29.cellAt 1 rfl 1 rfl, hs29.cellAt 2 rfl 0 rfl, hs29.cellAt 2 rfl 1 rfl, hs29.cellAt 3 rfl 0 rfl, hs29.cellAt 3 rfl 1 rfl, qk_30, q0_31, q1_32⟩, ?_⟩
          (repeat (first | (apply t4_skip rfl (by rfl); try simp only [Act.put, List.setIfInBounds_toArray, List.set_cons_zero, List.set_cons_succ]) | (apply t4_float rfl (by rfl); (· (intro w' hS; go_simp <;> with_reducible rfl)); (try simp only [Act.put, List.setIfInBounds_toArray, List.set_cons_zero, List.set_cons_succ]))))
          refine t4_hard rfl (by rfl) (fun K hK => ?_)
          have hsW := hs29.hi
          have IY := ip_cons (C := fun z => wr.heap.size ≤ z) (ip_int1 (C := fun _ => False) hIc) (HA4_35.out.fresh.ip) (fun z h _ => h) (fun z h => h.elim) (fun z h => by have h1 := h.1; (try simp at h1); omega)
          refine wp_append_accP _ _ _ _ rfl E_cons rfl HAC_33.out IY (fun z h1 h2 => by have h3 := h1.2; omega) ⟨w22.heap.size, 0, none⟩ 1 rfl (news2 (hs29.cellAt 4 rfl 0 rfl) (hs29.cellAt 4 rfl 1 rfl)) (by rw [HLK.out]; omega) ?_
          simp only [HLK.out, HTK.out]
          intro a8 c8 w8 hA8 hB8
          have hz8 := hB8.size
          have hs8 := hs29.butP hB8 (fun z hz => by have := hz.1; omega) (fun x hx hA => by have h1 := hA.1; have h2 := hA.2; simp at hx; rcases hx with rfl | rfl | rfl | rfl | rfl <;> (try simp only at h1 h2) <;> omega)
          have HA8 := Lib.hid (AccP.wk hA8.tight (C := fun z => wO.heap.size + 1 ≤ z ∧ z < w8.heap.size) (fun z hz => ⟨by
            rcases hz.1 with h | h | h
            · exact h.1
            · omega
            · rw [h]; (try simp); omega, hz.2⟩))
          clear hA8 IY
          clear HAC_33
          clear HA4_35
          clear HSC_34
          have qk_36 := cellB hB8 qk_30 (fun h => by have h1 := h.1; omega)
          clear qk_30
          have q0_37 := cellB hB8 q0_31 (fun h => by have h1 := h.1; omega)
          clear q0_31
          have q1_38 := cellB hB8 q1_32 (fun h => by have h1 := h.1; omega)
          clear q1_32
          refine hK _ _ ⟨⟨hs8.cellAt 0 rfl 0 rfl, hs8.cellAt 0 rfl 1 rfl, hs8.cellAt 1 rfl 0 rfl, hs8.cellAt 1 rfl 1 rfl, hs8.cellAt 2 rfl 0 rfl, hs8.cellAt 2 rfl 1 rfl, hs8.cellAt 3 rfl 0 rfl, hs8.cellAt 3 rfl 1 rfl, qk_36, q0_37, q1_38⟩, ?_⟩
          (repeat (first | (apply t4_skip rfl (by rfl); try simp only [Act.put, List.setIfInBounds_toArray, List.set_cons_zero, List.set_cons_succ]) | (apply t4_float rfl (by rfl); (· (intro w' hS; go_simp <;> with_reducible rfl)); (try simp only [Act.put, List.setIfInBounds_toArray, List.set_cons_zero, List.set_cons_succ]))))
          refine t4_last rfl (by rfl) (fun K hK => ?_)
          have k0_0 := hs8.cellAt 0 rfl 0 rfl
          have k0_1 := hs8.cellAt 0 rfl 1 rfl
          have k1_0 := hs8.cellAt 1 rfl 0 rfl
          have k1_1 := hs8.cellAt 1 rfl 1 rfl
          have k2_0 := hs8.cellAt 2 rfl 0 rfl
          have k2_1 := hs8.cellAt 2 rfl 1 rfl
          have k3_0 := hs8.cellAt 3 rfl 0 rfl
          have k3_1 := hs8.cellAt 3 rfl 1 rfl
          have k4_0 := hs8.cellAt 4 rfl 0 rfl
          have k4_1 := hs8.cellAt 4 rfl 1 rfl
          have hs39 := hs8.low (B' := wO.heap.size + 1) (bx' := [(w.heap.size, #[.int .i64 size, .slice at0 rs.length ct0], 34), (w.heap.size + 1, #[.int .i64 vars, .slice (some ⟨b, o, none⟩) cs.length cx], 61), (w.heap.size + 1 + 1, #[.int .i64 0, .slice none 0 0], 61), (wO.heap.size, #[.int .i64 vars, .slice ao k co], 61)]) (by omega) (by (try simp) <;> omega) (fun x hx => by simp only [List.mem_cons, List.not_mem_nil, or_false] at hx; rcases hx with rfl | rfl | rfl | rfl <;> (refine ⟨?_, ?_⟩ <;> (try simp) <;> (try omega)))
          have f2 := (hs39.freeAt 3 rfl 1)
          have hq := hs39.set (p := [_, _, _]) (by simp <;> omega) 1 (.slice a8 (k + 1) c8)
          have HQ := Lib.hid hq
          have HA9 := Lib.hid (AccP.wk (AccP.setCell HA8.out (b := wO.heap.size) (o := 1) (.slice a8 (k + 1) c8) (by simp <;> omega)) (C := fun z => wO.heap.size + 1 ≤ z ∧ z < (w8.setCell ⟨wO.heap.size, 1, none⟩ (.slice a8 (k + 1) c8)).heap.size) (fun z hz => by simpa [World.setCell] using hz))
          clear hq
          go_wp2_with fail
          refine t4_nil (NoPanic.normal ?_)
          go_wp2_with fail
          go_roundw
          case rel => exact ⟨k + 1, a8, c8, hlt, by go_num, HQ.out, HA9.out⟩
          case measure => simp [intOf]; omega
        · obtain rfl : k = keep.length := by omega
          have hnl : ¬ ((keep.length : Int) < keep.length) := by omega
          have g0 := (hsr.freeAt 2 rfl 0)
          have g1 := (hsr.freeAt 2 rfl 1)
          have hs9 := ((hsr.set (p := [_, _]) (by simp <;> omega) 0 (.int .i64 vars)).set (p := [_, _]) (by simp <;> omega) 1 (.slice ao keep.length co))
          have HF := Lib.hid (show Fresh w.heap.size ((wr.setCell ⟨w.heap.size + 1 + 1, 0, none⟩ (.int .i64 vars)).setCell ⟨w.heap.size + 1 + 1, 1, none⟩ (.slice ao keep.length co)) [.int .i64 vars, .slice ao keep.length co] (vars, selC cs keep) from by
            have h := AccP.setCell (AccP.setCell HAC.out (b := w.heap.size + 1 + 1) (o := 0) (.int .i64 vars) (by simp <;> omega)) (b := w.heap.size + 1 + 1) (o := 1) (.slice ao keep.length co) (by simp <;> omega)
            rw [List.take_length] at h
            exact fresh_int_cons HIV.out (h.ip.fresh (fun k hk => by have := hk.1; omega)))
          have HB9 := Lib.hid hs9.bel
          have y0 := hs9.cellAt 2 rfl 0 rfl
          have y1 := hs9.cellAt 2 rfl 1 rfl
          clear hs9
          go_wp2_with fail
          refine bodyPost_ret (v := .tuple #[.agg #[.int .i64 vars, .slice ao keep.length co], .int .i64 0]) (by simp [results, Try.results31, go_sem, y0, y1]) rfl ⟨_, _, by rw [H1.out], ?_, HB9.out⟩
          rw [H1.out]; exact HF.out

end Go.Proofs.Ytjkjfjpajmjglaa
