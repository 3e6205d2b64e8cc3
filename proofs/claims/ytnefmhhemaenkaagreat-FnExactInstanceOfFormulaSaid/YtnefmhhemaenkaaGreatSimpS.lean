/-
  CONTRACTS: the simpler form of a formula; the reference's side.
-/
import Derived.Test.YtnefmhhemaenkaaGreatSimp
import Derived.Test.YtnefmhhemaenkaaGreatRowsB
namespace Go.Proofs.YtnefmhhemaenkaaGreat
open Go.RowKit Go.Shelf Go.IntWalk
open Rep (Rd Own sz)
set_option linter.unusedSimpArgs false
set_option linter.unusedVariables false

/-- Entry of a table. -/
def atT (tt : List Int) (v : Int) : Int := tt.getD v.toNat 0
set_option maxRecDepth 100000 in
set_option maxHeartbeats 4000000 in
theorem l01Mapped_c (s tt : List Int) (v0 v1 : Value) (w : World) (r0 : Rd w [v0] s) (r1 : Rd w [v1] tt) (hs : s.length ≤ 1000000) (hr : ∀ x, x ∈ s → 0 ≤ x ∧ x < tt.length) :
    Calls Tryz.prog 80 #[v0, v1] w fun e w' => ∃ v', e = .returned v' ∧ Fresh w.heap.size w' [v'] (s.map (atT tt)) ∧ Below w.heap.size w w' := by
  obtain ⟨a, c, rfl, _⟩ := rd_list r0
  obtain ⟨a1, c1, rfl, _⟩ := rd_list r1
  have HR0 := Lib.hid r0
  have HR1 := Lib.hid r1
  have HRR := Lib.hid hr
  clear r0 r1 hr
  have HS0 := Lib.hid ((St.start w).step (belowA _ (.cells #[] 2)))
  have HA0 := Lib.hid ((accP_made (α := Int) w 2))
  go_enter Tryz.func80, Tryz.ntmps80
  go_wp2_with fail
  go_loopw [5, 6] (fun oo iv wl => ∃ (k : Nat) (ao : Option Addr) (co : Nat), k ≤ s.length ∧ oo = .slice ao k co ∧ iv = .int .i64 k ∧ Hid (St w w.heap.size wl []) ∧ Hid (AccP (fun z => w.heap.size ≤ z ∧ z < wl.heap.size) 2 wl (.slice ao k co) ((s.take k).map (atT tt)))) (fun _ i _ => s.length - (intOf i).toNat)
  case atStart =>
    refine ⟨0, _, _, Nat.zero_le _, rfl, rfl, HS0.out, ?_⟩
    exact AccP.wk HA0.out (fun k hk => by simp at hk ⊢; omega)
  case round =>
    clear HS0 HA0
    obtain ⟨k, ao, co, hk, rfl, rfl, hst, hac⟩ := hrel
    have hszr : w.heap.size ≤ wr.heap.size := hst.out.hi
    have HAC := hac
    clear hac
    by_cases hlt : k < s.length
    · have hkl : (k : Int) < s.length := by omega
      obtain ⟨b, o, rfl, q0, hI⟩ := rd_int_at (Rd.mono HR0.out hst.out.bel) k hlt
      have hx := HRR.out _ (List.getElem_mem hlt)
      have HTK := Lib.hid (map_take (atT tt) s hlt)
      have HLK := Lib.hid (show ((s.take k).map (atT tt)).length = k by rw [List.length_map, List.length_take]; omega)
      generalize s[k] = X at *
      obtain ⟨n, rfl⟩ : ∃ n : Nat, X = n := ⟨X.toNat, by omega⟩
      have hn : n < tt.length := by omega
      have hnI : (n : Int) < tt.length := by omega
      obtain ⟨b1, o1, rfl, q1, hI1⟩ := rd_int_at (Rd.mono HR1.out hst.out.bel) n hn
      rw [show atT tt (n : Int) = tt[n] by simp [atT, List.getD, hn]] at HTK
      generalize tt[n] = Y at *
      have HS8 := Lib.hid (hst.out.step (belowA wr (.cells #[.int .i64 Y] 2)))
      go_wp2_with (at_builtin; refine wpList_append_accP _ rfl _ _ _ rfl E_ints rfl (AccP.mono HAC.out (belowA _ _)) (ip_int1 (C := fun _ => False) hI1) (fun z _ h => h) ⟨wr.heap.size, 0, none⟩ 1 rfl (news1 (cell_at_block (heap_alloc_new _ _))) (by rw [HLK.out]; omega) ?_; simp only [HLK.out, HTK.out]; intro a7 c7 w7 hA7 hB7)
      have hz7 := hB7.size
      have HB7 := Lib.hid ((HS8.out.bel).trans ((hB7.below (B := w.heap.size) (fun z hz => hz.1) (by (try simp) <;> omega)).mono (Nat.le_refl _)))
      have HA7 := Lib.hid (AccP.wk hA7.tight (C := fun z => w.heap.size ≤ z ∧ z < w7.heap.size) (fun z hz => ⟨by
        rcases hz.1 with h | h | h
        · exact h.1
        · exact h.elim
        · simp at h; omega, hz.2⟩))
      clear hA7
      (try go_wp2_with fail)
      go_roundw
      case rel =>
        refine ⟨k + 1, a7, c7, hlt, rfl, by go_num, ?_, HA7.out⟩
        exact (St.start w).stepB HB7.out
      case measure => simp [intOf]; omega
    · obtain rfl : k = s.length := by omega
      have hnl : ¬ ((s.length : Int) < s.length) := by omega
      have HF := Lib.hid (show Fresh w.heap.size wr [.slice ao s.length co] (s.map (atT tt)) from by
        have h := HAC.out
        rw [List.take_length] at h
        exact h.ip.fresh (fun k hk => hk.1))
      have HB9 := Lib.hid hst.out.bel
      go_wp2_with fail
      go_ret
      exact ⟨_, rfl, HF.out, HB9.out⟩
set_option maxRecDepth 100000 in
set_option maxHeartbeats 8000000 in
theorem l03Moved_c (l : List OpT) (tt : List Int) (v0 v1 : Value) (w : World) (r0 : Rd w [v0] l) (r1 : Rd w [v1] tt) (hn : l.length ≤ 1000000) (hz : ∀ a, a ∈ l → a.2.length ≤ 1000000) (hr : ∀ a, a ∈ l → ∀ x, x ∈ a.2 → 0 ≤ x ∧ x < tt.length) :
    Calls Tryz.prog 43 #[v0, v1] w fun e w' => ∃ v', e = .returned v' ∧ Fresh w.heap.size w' [v'] (movL (atT tt) l) ∧ Below w.heap.size w w' := by
  obtain ⟨a, c, rfl, hl⟩ := rd_list r0
  obtain ⟨a0, c0, rfl, _⟩ := rd_list r1
  have HLR := Lib.hid hl
  have HTO := Lib.hid r1
  have HRR := Lib.hid hr
  have HZ := Lib.hid hz
  clear r0 r1 hr hz hl
  have HS0 := Lib.hid ((St.start w).step (belowA _ (.cells #[] 58)))
  have HA0 := Lib.hid ((accP_made (α := OpT) w 58))
  go_enter Tryz.func43, Tryz.ntmps43
  go_wp2_with fail
  go_loopw [5, 6] (fun oo iv wl => ∃ (k : Nat) (ao : Option Addr) (co : Nat), k ≤ l.length ∧ oo = .slice ao k co ∧ iv = .int .i64 k ∧ Hid (St w w.heap.size wl []) ∧ Hid (AccP (fun z => w.heap.size ≤ z ∧ z < wl.heap.size) 58 wl (.slice ao k co) (movL (atT tt) (l.take k)))) (fun _ i _ => l.length - (intOf i).toNat)
  case atStart =>
    refine ⟨0, _, _, Nat.zero_le _, rfl, rfl, HS0.out, ?_⟩
    exact AccP.wk HA0.out (fun k hk => by simp at hk ⊢; omega)
  case round =>
    clear HS0 HA0
    obtain ⟨k, ao, co, hk, rfl, rfl, hst, hac⟩ := hrel
    have hszr : w.heap.size ≤ wr.heap.size := hst.out.hi
    have HAC := hac
    clear hac
    by_cases hlt : k < l.length
    · have hkl : (k : Int) < l.length := by omega
      obtain ⟨b, o, u0, u1, rfl, q0, q1, hy⟩ := rdSl_two rfl HLR.out k hlt
      have hyz := rd_cons rfl hy
      obtain ⟨rfl, hIc⟩ := rd_i1 hyz.1
      obtain ⟨a1, c1, rfl, _⟩ := rd_list hyz.2
      have HSC := Lib.hid hyz.2
      have HLS := Lib.hid (HZ.out _ (List.getElem_mem hlt))
      have HRS := Lib.hid (HRR.out _ (List.getElem_mem hlt))
      have HTK := Lib.hid (movL_take (atT tt) l hlt)
      have HLK := Lib.hid (show (movL (atT tt) (l.take k)).length = k by rw [movL_len, List.length_take]; omega)
      clear hy hyz
      generalize hC : l[k] = C at *
      obtain ⟨ci, sc⟩ := C
      clear hC
      simp only at q0 q1 HSC HLS HRS HTK hIc
      have hls : sc.length ≤ 1000000 := HLS.out
      have q0_ := cellL hst.out.bel q0
      clear q0_
      have q0_ := cellL hst.out.bel q0
      have q1_ := cellL hst.out.bel q1
      clear q0_ q1_
      have q0_ := cellL hst.out.bel q0
      have q1_ := cellL hst.out.bel q1
      go_upto_region 5 with fail
      refine wp_region_noPanic (wp_region_tree4 (fun w' => w'.cell? ⟨b, o + k * 2, none⟩ = some (.int .i64 ci) ∧ w'.cell? ⟨b, o + k * 2 + 1, none⟩ = some (.slice a1 sc.length c1)) (.float 0 (.float 1 (.float 2 (.float 3 (.float 4 (.float 5 (.float 6 (.float 7 (.float 8 (.float 9 (.float 10 (.float 11 (.hard 12 (.float 13 (.hard 14 (.hard 15 (.float 16 .nil))))))))))))))))) (by kernel_rfl) (by kernel_rfl) (by kernel_rfl) rfl ?_ (fun _ _ _ _ _ h => h) ?_)
      · exact ⟨cellL (hst.out.drew).bel q0, cellL (hst.out.drew).bel q1⟩
      have hs1 := hst.out.drew
      have HAC_2 := Lib.hid (AccP.mono HAC.out (belowD _))
      clear HAC
      clear q0_ q1_
      have hz_wd3 : wr.heap.size ≤ (wr.drew).heap.size := by simp
      generalize hgen_wd3 : wr.drew = wd3 at *
      have HG_wd3 := Lib.hid hgen_wd3
      clear hgen_wd3
      (repeat (first | (apply t4_skip rfl (by rfl); try simp only [Act.put, List.setIfInBounds_toArray, List.set_cons_zero, List.set_cons_succ]) | (apply t4_float rfl (by rfl); (· (intro w' hS; go_simp <;> with_reducible rfl)); (try simp only [Act.put, List.setIfInBounds_toArray, List.set_cons_zero, List.set_cons_succ]))))
      refine t4_hard rfl (by rfl) (fun K hK => ?_)
      go_wp2_with (go_at_call 80; refine (l01Mapped_c sc tt _ _ _ (Rd.mono HSC.out hs1.bel) (Rd.mono HTO.out hs1.bel) hls HRS.out).mono ?_; rintro e w4 ⟨v4, rfl, hA4, hbw4⟩)
      have hz_w4 : wd3.heap.size ≤ w4.heap.size := by have h9 := hbw4.size; (try simp at h9); omega
      have hs5 := hs1.step hbw4
      have HAC_6 := Lib.hid (AccP.mono HAC_2.out hbw4)
      clear HAC_2
      obtain ⟨a4, c4, rfl, _⟩ := rd_list hA4.rd
      rw [List.length_map] at hA4
      rw [List.length_map]
      have HA4 := Lib.hid hA4
      clear hA4
      refine ⟨⟨cellL hs5.bel q0, cellL hs5.bel q1⟩, ?_⟩
      (repeat (first | (apply t4_skip rfl (by rfl); try simp only [Act.put, List.setIfInBounds_toArray, List.set_cons_zero, List.set_cons_succ]) | (apply t4_float rfl (by rfl); (· (intro w' hS; go_simp <;> with_reducible rfl)); (try simp only [Act.put, List.setIfInBounds_toArray, List.set_cons_zero, List.set_cons_succ]))))
      refine t4_hard rfl (by rfl) (fun K hK => ?_)
      go_wp2_with fail
      have hs7 := hs5.alloc #[.int .i64 ci, .slice a4 sc.length c4] 58 (n := w4.heap.size) (by simp)
      have HAC_8 := Lib.hid (AccP.mono HAC_6.out (belowA _ (.cells #[.int .i64 ci, .slice a4 sc.length c4] 58)))
      clear HAC_6
      have HA4_9 := Lib.hid (Fresh.mono HA4.out (belowA _ (.cells #[.int .i64 ci, .slice a4 sc.length c4] 58)))
      clear HA4
      refine ⟨⟨cellL hs7.bel q0, cellL hs7.bel q1⟩, ?_⟩
      (repeat (first | (apply t4_skip rfl (by rfl); try simp only [Act.put, List.setIfInBounds_toArray, List.set_cons_zero, List.set_cons_succ]) | (apply t4_float rfl (by rfl); (· (intro w' hS; go_simp <;> with_reducible rfl)); (try simp only [Act.put, List.setIfInBounds_toArray, List.set_cons_zero, List.set_cons_succ]))))
      refine t4_hard rfl (by rfl) (fun K hK => ?_)
      have hsW := hs7.hi
      have IY := ip_cons (C := fun z => wr.heap.size ≤ z) (ip_int1 (C := fun _ => False) hIc) (HA4_9.out.ip) (fun z h _ => h) (fun z h => h.elim) (fun z h => by (try simp at h ⊢); omega)
      refine wp_append_accP _ _ _ _ rfl E_atoms rfl HAC_8.out IY (fun z h1 h2 => by have h3 := h1.2; omega) ⟨w4.heap.size, 0, none⟩ 1 rfl (news2 (hs7.cellAt 0 rfl 0 rfl) (hs7.cellAt 0 rfl 1 rfl)) (by rw [HLK.out]; omega) ?_
      simp only [HLK.out, HTK.out]
      intro a8 c8 w8 hA8 hB8
      have hz8 := hB8.size
      have hs8 := hs7.butP hB8 (fun z hz => by have := hz.1; omega) (fun x hx hA => by have h1 := hA.2; simp at hx; subst hx; (try simp only at h1); omega)
      have HA8 := Lib.hid (AccP.wk hA8.tight (C := fun z => w.heap.size ≤ z ∧ z < w8.heap.size) (fun z hz => ⟨by
        rcases hz.1 with h | h | h
        · exact h.1
        · omega
        · rw [h]; (try simp); omega, hz.2⟩))
      clear hA8 IY
      clear HAC_8
      clear HA4_9
      refine hK _ _ ⟨⟨cellL hs8.bel q0, cellL hs8.bel q1⟩, ?_⟩
      (repeat (first | (apply t4_skip rfl (by rfl); try simp only [Act.put, List.setIfInBounds_toArray, List.set_cons_zero, List.set_cons_succ]) | (apply t4_float rfl (by rfl); (· (intro w' hS; go_simp <;> with_reducible rfl)); (try simp only [Act.put, List.setIfInBounds_toArray, List.set_cons_zero, List.set_cons_succ]))))
      have k0_0 := hs8.cellAt 0 rfl 0 rfl
      have k0_1 := hs8.cellAt 0 rfl 1 rfl
      have q0_ := cellL hs8.bel q0
      have q1_ := cellL hs8.bel q1
      have HQ := Lib.hid ((St.start w).stepB hs8.bel)
      go_wp2_with fail
      refine t4_nil (NoPanic.normal ?_)
      go_wp2_with fail
      go_roundw
      case rel => exact ⟨k + 1, a8, c8, hlt, rfl, by go_num, HQ.out, HA8.out⟩
      case measure => simp [intOf]; omega
    · obtain rfl : k = l.length := by omega
      have hnl : ¬ ((l.length : Int) < l.length) := by omega
      have HF := Lib.hid (show Fresh w.heap.size wr [.slice ao l.length co] (movL (atT tt) l) from by
        have h := HAC.out
        rw [List.take_length] at h
        exact h.ip.fresh (fun k hk => hk.1))
      have HB9 := Lib.hid hst.out.bel
      go_wp2_with fail
      go_ret
      exact ⟨_, rfl, HF.out, HB9.out⟩

set_option maxRecDepth 100000 in
set_option maxHeartbeats 8000000 in
theorem l03Equal_c (fr : Int) (A : List OpT) (xb : Nat) (v2 : Value) (w : World) (r : Rd w [v2] A) (c0 : w.cell? ⟨xb, 0, none⟩ = some (.int .i64 fr)) (c2 : w.cell? ⟨xb, 2, none⟩ = some v2) (hv : ∀ a, a ∈ A → a.1 = -1 → a.2.length = 2) :
    Calls Tryz.prog 39 #[.pointer (some ⟨xb, 0, none⟩)] w fun e w' => e = .returned (.int .i64 (firstI (isMrg fr) A)) ∧ Below w.heap.size w w' := by
  obtain ⟨a, c, rfl, hl⟩ := rd_list r
  have hb0 := (rdSl_len hl).2
  unfold maxLen at hb0
  have HLR := Lib.hid hl
  have HV := Lib.hid hv
  clear r hl hv
  have c0_ := cellL (St.start w).bel c0
  clear c0_
  have c0_ := cellL (St.start w).bel c0
  have c2_ := cellL (St.start w).bel c2
  clear c0_ c2_
  have c0_ := cellL (St.start w).bel c0
  have c2_ := cellL (St.start w).bel c2
  go_enter Tryz.func39, Tryz.ntmps39
  go_wp2_with fail
  go_loopw [3] (fun iv wl => ∃ k : Nat, k ≤ A.length ∧ iv = .int .i64 k ∧ Hid (Below w.heap.size w wl) ∧ Hid (∀ j (hj : j < A.length), j < k → isMrg fr A[j] = false)) (fun i _ => A.length - (intOf i).toNat)
  case atStart => exact ⟨0, Nat.zero_le _, rfl, Below.refl _ _, fun j _ hj => absurd hj (Nat.not_lt_zero _)⟩
  case round =>
    obtain ⟨k, hk, rfl, hbl, hr⟩ := hrel
    have hbl2 := hbl.out
    have hz_wr : w.heap.size ≤ wr.heap.size := by have h9 := hbl2.size; (try simp at h9); omega
    have hs10 := (St.start w).step hbl2
    clear c0_ c2_
    have c0_ := cellL hs10.bel c0
    have c2_ := cellL hs10.bel c2
    have HBL := Lib.hid hbl2
    clear hbl2 hbl
    by_cases hlt : k < A.length
    · have hkl : (k : Int) < A.length := by omega
      obtain ⟨b, o, u0, u1, rfl, q0, q1, hy⟩ := rdSl_two rfl HLR.out k hlt
      have hyz := rd_cons rfl hy
      obtain ⟨rfl, hIc⟩ := rd_i1 hyz.1
      obtain ⟨a1, c1, rfl, _⟩ := rd_list hyz.2
      have HSC := Lib.hid hyz.2
      have HVC := Lib.hid (HV.out _ (List.getElem_mem hlt))
      clear hy hyz
      have HIM := Lib.hid (show ∀ B, isMrg fr A[k] = B → isMrg fr A[k] = B from fun _ h => h)
      have HYES := Lib.hid (show isMrg fr A[k] = true → firstI (isMrg fr) A = k from fun h => firstI_at hlt (fun j hj h2 => hr.out j hj h2) h)
      have HNO := Lib.hid (show isMrg fr A[k] = false → ∀ j (hj : j < A.length), j < k + 1 → isMrg fr A[j] = false from fun h j hj hjk => by
        rcases Nat.lt_or_ge j k with h1 | h1
        · exact hr.out j hj h1
        · obtain rfl : j = k := by omega
          exact h)
      clear HIM
      generalize hC : A[k] = C at *
      obtain ⟨ci, sc⟩ := C
      clear hC
      simp only at q0 q1 HSC HVC HYES HNO hIc
      clear c0_ c2_
      have c0_ := cellL hs10.bel c0
      have c2_ := cellL hs10.bel c2
      have q0_ := cellL hs10.bel q0
      clear c0_ c2_ q0_
      have c0_ := cellL hs10.bel c0
      have c2_ := cellL hs10.bel c2
      have q0_ := cellL hs10.bel q0
      have q1_ := cellL hs10.bel q1
      clear c0_ c2_ q0_ q1_
      have c0_ := cellL hs10.bel c0
      have c2_ := cellL hs10.bel c2
      have q0_ := cellL hs10.bel q0
      have q1_ := cellL hs10.bel q1
      go_upto_region 5 with fail
      go_cut [59] from 20 to 58 (fun x59 wx => x59 = .bool (isMrg fr (ci, sc)) ∧ Hid (Below w.heap.size w wx))
      case first =>
        by_cases h : ci = -1
        · subst h
          obtain ⟨x, y, rfl⟩ := len_2 (HVC.out rfl)
          obtain ⟨b2, o2, rfl, s0, s1, _, _, _⟩ := rd_ints2 HSC.out
          have HQ := Lib.hid (show isMrg fr (-1, [x, y]) = (decide (x ≠ y) && decide (fr ≤ max x y)) from rfl)
          clear c0_ c2_ q0_ q1_
          have c0_ := cellL hs10.bel c0
          have c2_ := cellL hs10.bel c2
          have q0_ := cellL hs10.bel q0
          have q1_ := cellL hs10.bel q1
          have s0_ := cellL hs10.bel s0
          clear c0_ c2_ q0_ q1_ s0_
          have c0_ := cellL hs10.bel c0
          have c2_ := cellL hs10.bel c2
          have q0_ := cellL hs10.bel q0
          have q1_ := cellL hs10.bel q1
          have s0_ := cellL hs10.bel s0
          have s1_ := cellL hs10.bel s1
          clear c0_ c2_ q0_ q1_ s0_ s1_
          have c0_ := cellL hs10.bel c0
          have c2_ := cellL hs10.bel c2
          have q0_ := cellL hs10.bel q0
          have q1_ := cellL hs10.bel q1
          have s0_ := cellL hs10.bel s0
          have s1_ := cellL hs10.bel s1
          by_cases hxy : x = y
          · have h1 : (x != y) = false := by simp [hxy]
            have H1 := Lib.hid (show isMrg fr (-1, [x, y]) = false by rw [HQ.out, hxy]; simp)
            clear hxy
            refine wp_region_noPanic (wp_region_tree4 (fun w' => w'.cell? ⟨xb, 0, none⟩ = some (.int .i64 fr) ∧ w'.cell? ⟨xb, 2, none⟩ = some (.slice (some ⟨b, o, none⟩) A.length c) ∧ w'.cell? ⟨b, o + k * 2, none⟩ = some (.int .i64 (-1)) ∧ w'.cell? ⟨b, o + k * 2 + 1, none⟩ = some (.slice (some ⟨b2, o2, none⟩) 2 c1) ∧ w'.cell? ⟨b2, o2, none⟩ = some (.int .i64 x) ∧ w'.cell? ⟨b2, o2 + 1, none⟩ = some (.int .i64 y)) (.float 0 (.float 1 (.float 2 (.float 3 (.float 4 (.float 5 (.float 6 (.float 7 (.float 8 (.float 9 (.float 10 (.float 11 (.float 12 (.float 13 (.float 14 (.float 15 (.float 16 (.float 17 (.float 18 (.float 19 (.float 20 (.float 21 (.float 22 (.float 23 (.float 24 (.float 25 (.float 26 (.float 27 (.float 28 (.float 29 (.float 30 (.float 31 (.float 32 (.float 34 (.float 35 (.float 36 (.float 37 (.hard 33 (.float 38 (.float 39 .nil)))))))))))))))))))))))))))))))))))))))) (by kernel_rfl) (by kernel_rfl) (by kernel_rfl) rfl ?_ (fun _ _ _ _ _ h => h) ?_)
            · exact ⟨cellL (hs10.drew).bel c0, cellL (hs10.drew).bel c2, cellL (hs10.drew).bel q0, cellL (hs10.drew).bel q1, cellL (hs10.drew).bel s0, cellL (hs10.drew).bel s1⟩
            have hs11 := hs10.drew
            have HBL_12 := Lib.hid (HBL.out.trans (((belowD _)).mono HBL.out.size))
            clear HBL
            clear c0_ c2_ q0_ q1_ s0_ s1_
            have hz_wd13 : wr.heap.size ≤ (wr.drew).heap.size := by simp
            generalize hgen_wd13 : wr.drew = wd13 at *
            have HG_wd13 := Lib.hid hgen_wd13
            clear hgen_wd13
            (repeat (first | (apply t4_skip rfl (by rfl); try simp only [Act.put, List.setIfInBounds_toArray, List.set_cons_zero, List.set_cons_succ]) | (apply t4_float rfl (by rfl); (· (intro w' hS; go_simp <;> with_reducible rfl)); (try simp only [Act.put, List.setIfInBounds_toArray, List.set_cons_zero, List.set_cons_succ]))))
            refine t4_hskip rfl (by rfl) ?_ ?_
            · exact ⟨cellL hs11.bel c0, cellL hs11.bel c2, cellL hs11.bel q0, cellL hs11.bel q1, cellL hs11.bel s0, cellL hs11.bel s1⟩
            (try simp only [Act.put, List.setIfInBounds_toArray, List.set_cons_zero, List.set_cons_succ])
            (repeat (first | (apply t4_skip rfl (by rfl); try simp only [Act.put, List.setIfInBounds_toArray, List.set_cons_zero, List.set_cons_succ]) | (apply t4_float rfl (by rfl); (· (intro w' hS; go_simp <;> with_reducible rfl)); (try simp only [Act.put, List.setIfInBounds_toArray, List.set_cons_zero, List.set_cons_succ]))))
            have c0_ := cellL hs11.bel c0
            have c2_ := cellL hs11.bel c2
            have q0_ := cellL hs11.bel q0
            have q1_ := cellL hs11.bel q1
            have s0_ := cellL hs11.bel s0
            have s1_ := cellL hs11.bel s1
            refine t4_nil (NoPanic.normal ?_)
            go_wp2_with fail
            go_meet
            case rel => exact ⟨by rw [H1.out], hs11.bel⟩
          · have h1 : (x != y) = true := by simp [hxy]
            have H1 := Lib.hid (show isMrg fr (-1, [x, y]) = decide (fr ≤ max x y) by rw [HQ.out, decide_eq_true hxy]; rfl)
            clear hxy
            refine wp_region_noPanic (wp_region_tree4 (fun w' => w'.cell? ⟨xb, 0, none⟩ = some (.int .i64 fr) ∧ w'.cell? ⟨xb, 2, none⟩ = some (.slice (some ⟨b, o, none⟩) A.length c) ∧ w'.cell? ⟨b, o + k * 2, none⟩ = some (.int .i64 (-1)) ∧ w'.cell? ⟨b, o + k * 2 + 1, none⟩ = some (.slice (some ⟨b2, o2, none⟩) 2 c1) ∧ w'.cell? ⟨b2, o2, none⟩ = some (.int .i64 x) ∧ w'.cell? ⟨b2, o2 + 1, none⟩ = some (.int .i64 y)) (.float 0 (.float 1 (.float 2 (.float 3 (.float 4 (.float 5 (.float 6 (.float 7 (.float 8 (.float 9 (.float 10 (.float 11 (.float 12 (.float 13 (.float 14 (.float 15 (.float 16 (.float 17 (.float 18 (.float 19 (.float 20 (.float 21 (.float 22 (.float 23 (.float 24 (.float 25 (.float 26 (.float 27 (.float 28 (.float 29 (.float 30 (.float 31 (.float 32 (.float 34 (.float 35 (.float 36 (.float 37 (.hard 33 (.float 38 (.float 39 .nil)))))))))))))))))))))))))))))))))))))))) (by kernel_rfl) (by kernel_rfl) (by kernel_rfl) rfl ?_ (fun _ _ _ _ _ h => h) ?_)
            · exact ⟨cellL (hs10.drew).bel c0, cellL (hs10.drew).bel c2, cellL (hs10.drew).bel q0, cellL (hs10.drew).bel q1, cellL (hs10.drew).bel s0, cellL (hs10.drew).bel s1⟩
            have hs14 := hs10.drew
            have HBL_15 := Lib.hid (HBL.out.trans (((belowD _)).mono HBL.out.size))
            clear HBL
            clear c0_ c2_ q0_ q1_ s0_ s1_
            have hz_wd16 : wr.heap.size ≤ (wr.drew).heap.size := by simp
            generalize hgen_wd16 : wr.drew = wd16 at *
            have HG_wd16 := Lib.hid hgen_wd16
            clear hgen_wd16
            (repeat (first | (apply t4_skip rfl (by rfl); try simp only [Act.put, List.setIfInBounds_toArray, List.set_cons_zero, List.set_cons_succ]) | (apply t4_float rfl (by rfl); (· (intro w' hS; go_simp <;> with_reducible rfl)); (try simp only [Act.put, List.setIfInBounds_toArray, List.set_cons_zero, List.set_cons_succ]))))
            refine t4_hard rfl (by rfl) (fun K hK => ?_)
            go_wp2_with (go_at_call 42; refine (l00Max_c x y _).mono ?_; rintro e w17 ⟨rfl, rfl, rfl⟩)
            refine ⟨⟨cellL hs14.bel c0, cellL hs14.bel c2, cellL hs14.bel q0, cellL hs14.bel q1, cellL hs14.bel s0, cellL hs14.bel s1⟩, ?_⟩
            (repeat (first | (apply t4_skip rfl (by rfl); try simp only [Act.put, List.setIfInBounds_toArray, List.set_cons_zero, List.set_cons_succ]) | (apply t4_float rfl (by rfl); (· (intro w' hS; go_simp <;> with_reducible rfl)); (try simp only [Act.put, List.setIfInBounds_toArray, List.set_cons_zero, List.set_cons_succ]))))
            have c0_ := cellL hs14.bel c0
            have c2_ := cellL hs14.bel c2
            have q0_ := cellL hs14.bel q0
            have q1_ := cellL hs14.bel q1
            have s0_ := cellL hs14.bel s0
            have s1_ := cellL hs14.bel s1
            refine t4_nil (NoPanic.normal ?_)
            go_wp2_with fail
            go_meet
            case rel => exact ⟨by rw [H1.out], hs14.bel⟩
        · have h1 : (ci == -1) = false := by simp [h]
          have H1 := Lib.hid (show isMrg fr (ci, sc) = false by unfold isMrg; rw [decide_eq_false h]; rfl)
          clear h
          refine wp_region_noPanic (wp_region_tree4 (fun w' => w'.cell? ⟨xb, 0, none⟩ = some (.int .i64 fr) ∧ w'.cell? ⟨xb, 2, none⟩ = some (.slice (some ⟨b, o, none⟩) A.length c) ∧ w'.cell? ⟨b, o + k * 2, none⟩ = some (.int .i64 ci) ∧ w'.cell? ⟨b, o + k * 2 + 1, none⟩ = some (.slice a1 sc.length c1)) (.float 0 (.float 1 (.float 2 (.float 3 (.float 4 (.float 5 (.float 6 (.float 7 (.float 8 (.float 9 (.float 10 (.float 11 (.float 12 (.float 13 (.float 14 (.float 15 (.float 16 (.float 17 (.float 18 (.float 19 (.float 20 (.float 21 (.float 22 (.float 23 (.float 24 (.float 25 (.float 26 (.float 27 (.float 28 (.float 29 (.float 30 (.float 31 (.float 32 (.float 34 (.float 35 (.float 36 (.float 37 (.hard 33 (.float 38 (.float 39 .nil)))))))))))))))))))))))))))))))))))))))) (by kernel_rfl) (by kernel_rfl) (by kernel_rfl) rfl ?_ (fun _ _ _ _ _ h => h) ?_)
          · exact ⟨cellL (hs10.drew).bel c0, cellL (hs10.drew).bel c2, cellL (hs10.drew).bel q0, cellL (hs10.drew).bel q1⟩
          have hs18 := hs10.drew
          have HBL_19 := Lib.hid (HBL.out.trans (((belowD _)).mono HBL.out.size))
          clear HBL
          clear c0_ c2_ q0_ q1_
          have hz_wd20 : wr.heap.size ≤ (wr.drew).heap.size := by simp
          generalize hgen_wd20 : wr.drew = wd20 at *
          have HG_wd20 := Lib.hid hgen_wd20
          clear hgen_wd20
          (repeat (first | (apply t4_skip rfl (by rfl); try simp only [Act.put, List.setIfInBounds_toArray, List.set_cons_zero, List.set_cons_succ]) | (apply t4_float rfl (by rfl); (· (intro w' hS; go_simp <;> with_reducible rfl)); (try simp only [Act.put, List.setIfInBounds_toArray, List.set_cons_zero, List.set_cons_succ]))))
          refine t4_hskip rfl (by rfl) ?_ ?_
          · exact ⟨cellL hs18.bel c0, cellL hs18.bel c2, cellL hs18.bel q0, cellL hs18.bel q1⟩
          (try simp only [Act.put, List.setIfInBounds_toArray, List.set_cons_zero, List.set_cons_succ])
          (repeat (first | (apply t4_skip rfl (by rfl); try simp only [Act.put, List.setIfInBounds_toArray, List.set_cons_zero, List.set_cons_succ]) | (apply t4_float rfl (by rfl); (· (intro w' hS; go_simp <;> with_reducible rfl)); (try simp only [Act.put, List.setIfInBounds_toArray, List.set_cons_zero, List.set_cons_succ]))))
          have c0_ := cellL hs18.bel c0
          have c2_ := cellL hs18.bel c2
          have q0_ := cellL hs18.bel q0
          have q1_ := cellL hs18.bel q1
          refine t4_nil (NoPanic.normal ?_)
          go_wp2_with fail
          go_meet
          case rel => exact ⟨by rw [H1.out], hs18.bel⟩
      case rest =>
        obtain ⟨rfl, hbx⟩ := hcut
        cases hq : isMrg fr (ci, sc) with
        | true =>
          have HQ := Lib.hid (HYES.out hq)
          clear hq
          go_wp2_with fail
          go_ret
          exact ⟨ret_int HQ.out.symm, hbx.out⟩
        | false =>
          have HQ := Lib.hid (HNO.out hq)
          clear hq
          go_wp2_with fail
          go_roundw
          case rel => exact ⟨k + 1, by omega, by go_num, hbx.out, HQ.out⟩
          case measure => simp [intOf]; omega
    · obtain rfl : k = A.length := by omega
      have hnl : ¬ ((A.length : Int) < A.length) := by omega
      have HQ := Lib.hid (firstI_no (q := isMrg fr) (l := A) (fun j hj h => hr.out j hj h))
      go_wp2_with fail
      go_ret
      exact ⟨ret_int HQ.out.symm, HBL.out⟩

set_option maxRecDepth 100000 in
set_option maxHeartbeats 2000000 in
theorem l03Count_c (n : Nat) (w : World) (hn : n ≤ 1000000) :
    Calls Tryz.prog 40 #[.int .i64 n] w fun e w' => ∃ v', e = .returned v' ∧ AccP (fun z => w.heap.size ≤ z ∧ z < w'.heap.size) 2 w' v' (upL 0 n) ∧ Below w.heap.size w w' := by
  have HS0 := Lib.hid ((St.start w).step (belowA _ (.cells #[] 2)))
  have HA0 := Lib.hid ((accP_made (α := Int) w 2))
  go_enter Tryz.func40, Tryz.ntmps40
  go_wp2_with fail
  go_loopw [3, 4] (fun oo iv wl => ∃ (k : Nat) (ao : Option Addr) (co : Nat), k ≤ n ∧ oo = .slice ao k co ∧ iv = .int .i64 k ∧ Hid (St w w.heap.size wl []) ∧ Hid (AccP (fun z => w.heap.size ≤ z ∧ z < wl.heap.size) 2 wl (.slice ao k co) (upL 0 k))) (fun _ i _ => n - (intOf i).toNat)
  case atStart =>
    refine ⟨0, _, _, Nat.zero_le _, rfl, rfl, HS0.out, ?_⟩
    exact AccP.wk HA0.out (fun k hk => by simp at hk ⊢; omega)
  case round =>
    clear HS0 HA0
    obtain ⟨k, ao, co, hk, rfl, rfl, hst, hac⟩ := hrel
    have hszr : w.heap.size ≤ wr.heap.size := hst.out.hi
    have HAC := hac
    clear hac
    by_cases hlt : k < n
    · have hkl : (k : Int) < n := by omega
      have HTK := Lib.hid (show upL 0 k ++ [(k : Int)] = upL 0 (k + 1) by rw [upL_succ]; simp)
      have HLK := Lib.hid (show (upL 0 k).length = k from upL_len 0 k)
      have hI1 : I64 (k : Int) := ⟨by omega, by omega⟩
      have HS8 := Lib.hid (hst.out.step (belowA wr (.cells #[.int .i64 k] 2)))
      go_wp2_with (at_builtin; refine wpList_append_accP _ rfl _ _ _ rfl E_ints rfl (AccP.mono HAC.out (belowA _ _)) (ip_int1 (C := fun _ => False) hI1) (fun z _ h => h) ⟨wr.heap.size, 0, none⟩ 1 rfl (news1 (cell_at_block (heap_alloc_new _ _))) (by rw [HLK.out]; omega) ?_; simp only [HLK.out, HTK.out]; intro a7 c7 w7 hA7 hB7)
      have hz7 := hB7.size
      have HB7 := Lib.hid ((HS8.out.bel).trans ((hB7.below (B := w.heap.size) (fun z hz => hz.1) (by (try simp) <;> omega)).mono (Nat.le_refl _)))
      have HA7 := Lib.hid (AccP.wk hA7.tight (C := fun z => w.heap.size ≤ z ∧ z < w7.heap.size) (fun z hz => ⟨by
        rcases hz.1 with h | h | h
        · exact h.1
        · exact h.elim
        · simp at h; omega, hz.2⟩))
      clear hA7
      (try go_wp2_with fail)
      go_roundw
      case rel =>
        refine ⟨k + 1, a7, c7, hlt, rfl, by go_num, ?_, HA7.out⟩
        exact (St.start w).stepB HB7.out
      case measure => simp [intOf]; omega
    · obtain rfl : k = n := by omega
      have hnl : ¬ ((k : Int) < k) := by omega
      have HB9 := Lib.hid hst.out.bel
      go_wp2_with fail
      go_ret
      exact ⟨_, rfl, HAC.out, HB9.out⟩

end Go.Proofs.YtnefmhhemaenkaaGreat
