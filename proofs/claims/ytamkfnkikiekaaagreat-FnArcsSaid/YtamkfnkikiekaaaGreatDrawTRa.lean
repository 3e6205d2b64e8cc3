/-
  CONTRACTS of drawing (the reference's side): sizes, templates, relations that are bent.
-/
import Derived.Test.YtamkfnkikiekaaaGreatDrawIRa
import Derived.Test.YtamkfnkikiekaaaGreatAccSRa
namespace Go.Proofs.YtamkfnkikiekaaaGreat
open Go.RowKit Go.Shelf Go.IntWalk
open Rep (Rd Own sz)
set_option linter.unusedSimpArgs false
set_option linter.unusedVariables false

theorem lit_ints {w : World} : ∀ (l : List Int), (∀ a, a ∈ l → I64 a) → LitR w (l.map (fun a => Value.int .i64 a)) l []
  | [], _ => lit_nil
  | a :: l, h => lit_cons (lit_int (h a (List.mem_cons_self ..))) (lit_ints l (fun b hb => h b (List.mem_cons_of_mem _ hb)))
theorem fresh_ilits {w : World} {g lo : Nat} (l : List Int) {ty : TypeId} (h : w.heap[g]? = some (.cells (l.map (fun a => Value.int .i64 a)).toArray ty (0, 0))) (hlo : lo ≤ g) (hI : ∀ a, a ∈ l → I64 a) (hl : l.length ≤ 1000) : Fresh lo w [.slice (some ⟨g, 0, none⟩) l.length l.length] l :=
  ⟨_, lit_done (lit_ints l hI) h (by simp) hl, by simp, by simpa using hlo⟩
theorem small_i64 {l : List Int} (h : l.all (fun a => decide (-100 ≤ a ∧ a ≤ 100)) = true) : ∀ a, a ∈ l → I64 a := fun a ha => by
  have := of_decide_eq_true (List.all_eq_true.1 h a ha)
  exact ⟨by omega, by omega⟩
set_option maxRecDepth 100000 in
set_option maxHeartbeats 4000000 in
theorem l01SizeDrawn_c (L B b k : Nat) (w : World) (h : Src L B w b k) (hB : B ≤ w.heap.size) (hk : k ≤ 900000000) :
    Calls Tryz.prog 90 #[.pointer (some ⟨b, 0, none⟩)] w fun e w' => ∃ n : Int, e = .returned (.int .i64 n) ∧ (1 ≤ n ∧ n ≤ 4) ∧ Src L B w' b (k + 1) ∧ But [b] w w' := by
  have hbw := h.lt
  have HSR := Lib.hid h
  have HBT := Lib.hid (But.refl [b] w)
  clear h
  go_enter Tryz.func90, Tryz.ntmps90
  go_wp2_with fail
  have hs1 := (St.start w).alloc #[.int .i64 2, .int .i64 2, .int .i64 3, .int .i64 3, .int .i64 1, .int .i64 4, .int .i64 2] 2 (n := w.heap.size) (by simp)
  have HSR_2 := Lib.hid (Src.mono HSR.out (belowA _ (.cells #[.int .i64 2, .int .i64 2, .int .i64 3, .int .i64 3, .int .i64 1, .int .i64 4, .int .i64 2] 2)))
  clear HSR
  have k0_0 := hs1.cellAt 0 rfl 0 rfl
  have k0_1 := hs1.cellAt 0 rfl 1 rfl
  have k0_2 := hs1.cellAt 0 rfl 2 rfl
  have k0_3 := hs1.cellAt 0 rfl 3 rfl
  have k0_4 := hs1.cellAt 0 rfl 4 rfl
  have k0_5 := hs1.cellAt 0 rfl 5 rfl
  have k0_6 := hs1.cellAt 0 rfl 6 rfl
  have HLI := Lib.hid (fresh_ilits [2, 2, 3, 3, 1, 4, 2] (lo := w.heap.size) (hs1.box _ (by simp; rfl)).2.2 (by simp) (small_i64 (by decide)) (by simp))
  go_wp2_with fail
  refine (among_c [2, 2, 3, 3, 1, 4, 2] _ w.heap.size L B b k _ HSR_2.out (by omega) (Fresh.mono HLI.out (Below.refl _ _)) hbw (by simp) (by simp)).mono ?_
  rintro e w3 ⟨SZ, rfl, hsz, hrw3, hbw3⟩
  obtain ⟨wz4, hs5, hz_wz4, hy_wz4, hc_wz4⟩ := hs1.cut hbw3 (by intro k hk; simp only [List.mem_singleton] at hk; omega)
  have hz_w3 : w.heap.size + 1 ≤ w3.heap.size := by have h9 := hbw3.size; (try simp at h9); omega
  have HSR_6 := Lib.hid hrw3
  clear HSR_2
  have HBT_7 := Lib.hid (HBT.out.trans hc_wz4)
  clear HBT
  clear hrw3 hc_wz4
  clear k0_0 k0_1 k0_2 k0_3 k0_4 k0_5 k0_6
  have k0_0 := hs5.cellAt 0 rfl 0 rfl
  have k0_1 := hs5.cellAt 0 rfl 1 rfl
  have k0_2 := hs5.cellAt 0 rfl 2 rfl
  have k0_3 := hs5.cellAt 0 rfl 3 rfl
  have k0_4 := hs5.cellAt 0 rfl 4 rfl
  have k0_5 := hs5.cellAt 0 rfl 5 rfl
  have k0_6 := hs5.cellAt 0 rfl 6 rfl
  have hs4 : 1 ≤ SZ ∧ SZ ≤ 4 := by simp at hsz; omega
  clear hsz
  go_wp2_with fail
  go_ret
  exact ⟨SZ, rfl, hs4, HSR_6.out, HBT_7.out.trans (but_of hs5.bel)⟩
set_option maxRecDepth 100000 in
set_option maxHeartbeats 16000000 in
theorem l01TemplateDrawn_c (SZ : Int) (L B b k : Nat) (w : World) (h : Src L B w b k) (hB : B ≤ w.heap.size) (hk : k ≤ 700000000) (hs4 : 1 ≤ SZ ∧ SZ ≤ 4) :
    Calls Tryz.prog 67 #[.pointer (some ⟨b, 0, none⟩), .int .i64 SZ] w fun e w' => ∃ v : Value, e = .returned (.agg #[.int .i64 SZ, v]) ∧ ∃ l : List RelT, AccP (fun z => w.heap.size ≤ z) 57 w' v l ∧ tmplOk (SZ, l) = true ∧ l.length ≤ 3 ∧ Src L B w' b (k + 10000) ∧ But [b] w w' := by
  have hbw := h.lt
  have HSR := Lib.hid h
  have HBT := Lib.hid (But.refl [b] w)
  clear h
  have hs8 := (St.start w).alloc #[.int .i64 0, .slice none 0 0] 26 (n := w.heap.size) (by simp)
  have HSR_9 := Lib.hid (Src.mono HSR.out (belowA _ (.cells #[.int .i64 0, .slice none 0 0] 26)))
  clear HSR
  have k0_0 := hs8.cellAt 0 rfl 0 rfl
  have k0_1 := hs8.cellAt 0 rfl 1 rfl
  go_enter Tryz.func67, Tryz.ntmps67
  have hs10 := hs8.alloc #[.int .i64 SZ, .slice none 0 0] 26 (n := w.heap.size + 1) (by simp)
  have HSR_11 := Lib.hid (Src.mono HSR_9.out (belowA _ (.cells #[.int .i64 SZ, .slice none 0 0] 26)))
  clear HSR_9
  clear k0_0 k0_1
  have k0_0 := hs10.cellAt 0 rfl 0 rfl
  have k0_1 := hs10.cellAt 0 rfl 1 rfl
  have k1_0 := hs10.cellAt 1 rfl 0 rfl
  have k1_1 := hs10.cellAt 1 rfl 1 rfl
  go_wp2_with fail
  refine (pick_c 4 L B b k _ HSR_11.out (by omega) (by omega) (by omega)).mono ?_
  rintro e w12 ⟨r2, rfl, hr4, hr5, hrw12, hbw12⟩
  obtain ⟨wz13, hs14, hz_wz13, hy_wz13, hc_wz13⟩ := hs10.cut hbw12 (by intro k hk; simp only [List.mem_singleton] at hk; omega)
  have hz_w12 : w.heap.size + 1 + 1 ≤ w12.heap.size := by have h9 := hbw12.size; (try simp at h9); omega
  have HSR_15 := Lib.hid hrw12
  clear HSR_11
  have HBT_16 := Lib.hid (HBT.out.trans hc_wz13)
  clear HBT
  clear hrw12 hc_wz13
  clear k0_0 k0_1 k1_0 k1_1
  have k0_0 := hs14.cellAt 0 rfl 0 rfl
  have k0_1 := hs14.cellAt 0 rfl 1 rfl
  have k1_0 := hs14.cellAt 1 rfl 0 rfl
  have k1_1 := hs14.cellAt 1 rfl 1 rfl
  obtain ⟨K, rfl⟩ : ∃ K : Nat, r2 = (K : Int) := ⟨r2.toNat, by omega⟩
  have hK2 : K ≤ 3 := by omega
  go_wp2_with fail
  have HST := Lib.hid hs14
  have HSR9 := Lib.hid HSR_15.out
  have HBT9 := Lib.hid HBT_16.out
  obtain ⟨OA, hOA⟩ : ∃ z, z = w.heap.size + 1 := ⟨_, rfl⟩
  have hzz : w.heap.size + 1 ≤ OA := by omega
  rw [← hOA] at HST ⊢
  clear hOA
  go_loopw [6] (fun i wl => ∃ (m n : Nat) (wz : World) (a : Option Addr) (c : Nat) (l : List RelT), m + n = K ∧ i = .int .i64 n ∧ Hid (l.length = m ∧ ∀ r, r ∈ l → relOk SZ r = true) ∧ Hid (w.heap.size ≤ wz.heap.size ∧ But [b] w wz) ∧ Hid (St wz (OA + 1) wl [(w.heap.size, #[.int .i64 0, .slice none 0 0], 26), (OA, #[.int .i64 SZ, .slice a m c], 26)]) ∧ Hid (AccP (fun z => OA + 1 ≤ z ∧ z < wl.heap.size) 57 wl (.slice a m c) l) ∧ Hid (Src L B wl b (k + 2 + 2000 * m))) (fun i _ => (intOf i).toNat)
  case atStart => exact ⟨0, K, wz13, none, 0, [], by omega, rfl, ⟨rfl, fun e he => by cases he⟩, ⟨by omega, HBT9.out⟩, HST.out, AccP.nil _ _ _, HSR9.out.more (by omega)⟩
  case round =>
    clear HST HSR9 HBT9
    obtain ⟨m, n, wz, a, c, l, hmn, rfl, hl, hwz, hst, hac, hsr⟩ := hrel
    have HAC := hac
    have HSR := hsr
    have hwz1 := hwz.out.1
    have HBT := Lib.hid hwz.out.2
    have hs0 := hst.out
    have hszr := hst.out.hi
    have hlo0 := hst.out.lo
    have HLN := Lib.hid hl.out.1
    clear hac hsr
    have k0_0 := hs0.cellAt 0 rfl 0 rfl
    have k0_1 := hs0.cellAt 0 rfl 1 rfl
    have k1_0 := hs0.cellAt 1 rfl 0 rfl
    have k1_1 := hs0.cellAt 1 rfl 1 rfl
    by_cases hlt : 0 < n
    · have hltI : (0 : Int) < n := by omega
      have hdn : IntKind.i64.wrap ((n : Int) - 1) = ((n - 1 : Nat) : Int) := by rw [i64_in _ (by omega)]; omega
      go_upto_region 5 with fail
      refine wp_region_noPanic (wp_region_tree4 (fun w' => w'.cell? ⟨w.heap.size, 0, none⟩ = some (.int .i64 0) ∧ w'.cell? ⟨w.heap.size, 1, none⟩ = some (.slice none 0 0) ∧ w'.cell? ⟨OA, 0, none⟩ = some (.int .i64 SZ) ∧ w'.cell? ⟨OA, 1, none⟩ = some (.slice a m c)) (.float 0 (.float 1 (.float 2 (.float 3 (.float 4 (.hard 5 (.hard 6 (.hard 7 (.hard 8 (.hard 9 (.float 10 (.last 11 .nil)))))))))))) (by kernel_rfl) (by kernel_rfl) (by kernel_rfl) rfl ?_ (fun _ _ _ _ _ h => h) ?_)
      · exact ⟨(hs0.drew).cellAt 0 rfl 0 rfl, (hs0.drew).cellAt 0 rfl 1 rfl, (hs0.drew).cellAt 1 rfl 0 rfl, (hs0.drew).cellAt 1 rfl 1 rfl⟩
      have hs17 := hs0.drew
      have HAC_18 := Lib.hid (AccP.mono HAC.out (belowD _))
      clear HAC
      have HSR_19 := Lib.hid (Src.mono HSR.out (belowD _))
      clear HSR
      clear k0_0 k0_1 k1_0 k1_1
      have hz_wd20 : wr.heap.size ≤ (wr.drew).heap.size := by simp
      generalize hgen_wd20 : wr.drew = wd20 at *
      have HG_wd20 := Lib.hid hgen_wd20
      clear hgen_wd20
      (repeat (first | (apply t4_skip rfl (by rfl); try simp only [Act.put, List.setIfInBounds_toArray, List.set_cons_zero, List.set_cons_succ]) | (apply t4_float rfl (by rfl); (· (intro w' hS; go_simp <;> with_reducible rfl)); (try simp only [Act.put, List.setIfInBounds_toArray, List.set_cons_zero, List.set_cons_succ]))))
      refine t4_hard rfl (by rfl) (fun K hK => ?_)
      go_wp2_with fail
      have hs21 := hs17.alloc #[.int .i64 1, .int .i64 2, .int .i64 2, .int .i64 2, .int .i64 3] 2 (n := wd20.heap.size) (by simp)
      have HAC_22 := Lib.hid (AccP.mono HAC_18.out (belowA _ (.cells #[.int .i64 1, .int .i64 2, .int .i64 2, .int .i64 2, .int .i64 3] 2)))
      clear HAC_18
      have HSR_23 := Lib.hid (Src.mono HSR_19.out (belowA _ (.cells #[.int .i64 1, .int .i64 2, .int .i64 2, .int .i64 2, .int .i64 3] 2)))
      clear HSR_19
      have HLI := Lib.hid (fresh_ilits [1, 2, 2, 2, 3] (lo := w.heap.size + 1) (hs21.box (wd20.heap.size, #[.int .i64 1, .int .i64 2, .int .i64 2, .int .i64 2, .int .i64 3], 2) (by simp)).2.2 (by (try simp); omega) (small_i64 (by decide)) (by simp))
      refine ⟨⟨hs21.cellAt 0 rfl 0 rfl, hs21.cellAt 0 rfl 1 rfl, hs21.cellAt 1 rfl 0 rfl, hs21.cellAt 1 rfl 1 rfl⟩, ?_⟩
      (repeat (first | (apply t4_skip rfl (by rfl); try simp only [Act.put, List.setIfInBounds_toArray, List.set_cons_zero, List.set_cons_succ]) | (apply t4_float rfl (by rfl); (· (intro w' hS; go_simp <;> with_reducible rfl)); (try simp only [Act.put, List.setIfInBounds_toArray, List.set_cons_zero, List.set_cons_succ]))))
      refine t4_hard rfl (by rfl) (fun K hK => ?_)
      go_wp2_with (go_at_call 68; refine (among_c [1, 2, 2, 2, 3] _ (w.heap.size + 1) L B b (k + 2 + 2000 * m) _ HSR_23.out (by omega) HLI.out (by omega) (by simp) (by simp)).mono ?_; rintro e w24 ⟨M0, rfl, hM0, hrw24, hbw24⟩)
      obtain ⟨wz25, hs26, hz_wz25, hy_wz25, hc_wz25⟩ := hs21.cut hbw24 (by intro k hk; simp only [List.mem_singleton] at hk; omega)
      have hz_w24 : wd20.heap.size + 1 ≤ w24.heap.size := by have h9 := hbw24.size; (try simp at h9); omega
      have HAC_27 := Lib.hid (AccP.butL HAC_22.out hbw24 (by intro k hk; simp only [List.mem_singleton] at hk; omega))
      clear HAC_22
      have HSR_28 := Lib.hid hrw24
      clear HSR_23
      have HBT_29 := Lib.hid (HBT.out.trans hc_wz25)
      clear HBT
      clear hrw24 hc_wz25
      obtain ⟨M, rfl⟩ : ∃ M : Nat, M0 = (M : Int) := ⟨M0.toNat, by simp at hM0; omega⟩
      have hM2 : 1 ≤ M ∧ M ≤ 4 := by simp at hM0; omega
      clear hM0 HLI
      refine ⟨⟨hs26.cellAt 0 rfl 0 rfl, hs26.cellAt 0 rfl 1 rfl, hs26.cellAt 1 rfl 0 rfl, hs26.cellAt 1 rfl 1 rfl⟩, ?_⟩
      (repeat (first | (apply t4_skip rfl (by rfl); try simp only [Act.put, List.setIfInBounds_toArray, List.set_cons_zero, List.set_cons_succ]) | (apply t4_float rfl (by rfl); (· (intro w' hS; go_simp <;> with_reducible rfl)); (try simp only [Act.put, List.setIfInBounds_toArray, List.set_cons_zero, List.set_cons_succ]))))
      refine t4_hard rfl (by rfl) (fun K hK => ?_)
      go_wp2_with (go_at_call 41; refine (l01Drawn_c SZ M L B b (k + 2 + 2000 * m + 1) _ HSR_28.out (by (try simp); omega) (by omega) hs4 hM2).mono ?_; rintro e w30 ⟨v9, rfl, l9, fr9, ok9, hrw30, hbw30⟩)
      obtain ⟨wz31, hs32, hz_wz31, hy_wz31, hc_wz31⟩ := hs26.cut hbw30 (by intro k hk; simp only [List.mem_singleton] at hk; omega)
      have hz_w30 : w24.heap.size ≤ w30.heap.size := by have h9 := hbw30.size; (try simp at h9); omega
      have HAC_33 := Lib.hid (AccP.butL HAC_27.out hbw30 (by intro k hk; simp only [List.mem_singleton] at hk; omega))
      clear HAC_27
      have HSR_34 := Lib.hid hrw30
      clear HSR_28
      have HBT_35 := Lib.hid (HBT_29.out.trans hc_wz31)
      clear HBT_29
      clear hrw30 hc_wz31
      have hf9 : Fresh _ _ [v9] l9 := fresh_snd rfl fr9
      obtain ⟨a9, c9, rfl, hsl9⟩ := rd_list hf9.rd
      have HIP9 := Lib.hid hf9.ip
      have HOK9 := Lib.hid ok9
      clear fr9 hsl9 ok9 hf9
      refine ⟨⟨hs32.cellAt 0 rfl 0 rfl, hs32.cellAt 0 rfl 1 rfl, hs32.cellAt 1 rfl 0 rfl, hs32.cellAt 1 rfl 1 rfl⟩, ?_⟩
      (repeat (first | (apply t4_skip rfl (by rfl); try simp only [Act.put, List.setIfInBounds_toArray, List.set_cons_zero, List.set_cons_succ]) | (apply t4_float rfl (by rfl); (· (intro w' hS; go_simp <;> with_reducible rfl)); (try simp only [Act.put, List.setIfInBounds_toArray, List.set_cons_zero, List.set_cons_succ]))))
      refine t4_hard rfl (by rfl) (fun K hK => ?_)
      go_wp2_with fail
      have hs36 := hs32.alloc #[.int .i64 M, .slice a9 l9.length c9] 57 (n := w30.heap.size) (by simp)
      have HAC_37 := Lib.hid (AccP.mono HAC_33.out (belowA _ (.cells #[.int .i64 M, .slice a9 l9.length c9] 57)))
      clear HAC_33
      have HSR_38 := Lib.hid (Src.mono HSR_34.out (belowA _ (.cells #[.int .i64 M, .slice a9 l9.length c9] 57)))
      clear HSR_34
      have HIP9_39 := Lib.hid (Ip.mono HIP9.out (belowA _ (.cells #[.int .i64 M, .slice a9 l9.length c9] 57)))
      clear HIP9
      refine ⟨⟨hs36.cellAt 0 rfl 0 rfl, hs36.cellAt 0 rfl 1 rfl, hs36.cellAt 1 rfl 0 rfl, hs36.cellAt 1 rfl 1 rfl⟩, ?_⟩
      (repeat (first | (apply t4_skip rfl (by rfl); try simp only [Act.put, List.setIfInBounds_toArray, List.set_cons_zero, List.set_cons_succ]) | (apply t4_float rfl (by rfl); (· (intro w' hS; go_simp <;> with_reducible rfl)); (try simp only [Act.put, List.setIfInBounds_toArray, List.set_cons_zero, List.set_cons_succ]))))
      refine t4_hard rfl (by rfl) (fun K hK => ?_)
      have HIR := Lib.hid (ip_relD (k := (M : Int)) ⟨by omega, by omega⟩ HIP9_39.out)
      have hlnw := HLN.out
      refine wp_append_accP _ _ _ _ rfl E_rels rfl HAC_37.out HIR.out (fun z h1 h2 => by (try simp only at h1 h2); omega) ⟨w30.heap.size, 0, none⟩ 1 rfl (news2 (hs36.cellAt 3 rfl 0 rfl) (hs36.cellAt 3 rfl 1 rfl)) (by omega) ?_
      simp only [HLN.out]
      intro a8 c8 w8 hA8 hB8
      have hz8 := hB8.size
      have hs8 := hs36.butP hB8 (fun z hz => by have := hz.1; omega) (fun x hx hA => by have h1 := hA.1; have h2 := hA.2; simp at hx; rcases hx with rfl | rfl | rfl | rfl <;> (try simp only at h1 h2) <;> omega)
      have HA8 := Lib.hid (AccP.wk hA8.tight (C := fun z => OA + 1 ≤ z ∧ z < w8.heap.size) (fun z hz => ⟨by
        rcases hz.1 with h | h | h
        · exact h.1
        · (try simp only at h); omega
        · rw [h]; (try simp); omega, hz.2⟩))
      have HR8 := Lib.hid (Src.below (B := B) HSR_38.out (hB8.below (fun z hz => by have := hz.1; omega) (by (try simp); omega)))
      have HBT8 := Lib.hid HBT_35.out
      clear hA8
      clear HAC_37
      clear HIP9_39
      clear HSR_38
      clear HBT_35
      refine hK _ _ ⟨⟨hs8.cellAt 0 rfl 0 rfl, hs8.cellAt 0 rfl 1 rfl, hs8.cellAt 1 rfl 0 rfl, hs8.cellAt 1 rfl 1 rfl⟩, ?_⟩
      (repeat (first | (apply t4_skip rfl (by rfl); try simp only [Act.put, List.setIfInBounds_toArray, List.set_cons_zero, List.set_cons_succ]) | (apply t4_float rfl (by rfl); (· (intro w' hS; go_simp <;> with_reducible rfl)); (try simp only [Act.put, List.setIfInBounds_toArray, List.set_cons_zero, List.set_cons_succ]))))
      refine t4_last rfl (by rfl) (fun K hK => ?_)
      have k0_0 := hs8.cellAt 0 rfl 0 rfl
      have k0_1 := hs8.cellAt 0 rfl 1 rfl
      have k1_0 := hs8.cellAt 1 rfl 0 rfl
      have k1_1 := hs8.cellAt 1 rfl 1 rfl
      have k2_0 := hs8.cellAt 2 rfl 0 rfl
      have k2_1 := hs8.cellAt 2 rfl 1 rfl
      have k2_2 := hs8.cellAt 2 rfl 2 rfl
      have k2_3 := hs8.cellAt 2 rfl 3 rfl
      have k2_4 := hs8.cellAt 2 rfl 4 rfl
      have k3_0 := hs8.cellAt 3 rfl 0 rfl
      have k3_1 := hs8.cellAt 3 rfl 1 rfl
      have hs40 := hs8.low (B' := OA + 1) (bx' := [(w.heap.size, #[.int .i64 0, .slice none 0 0], 26), (OA, #[.int .i64 SZ, .slice a m c], 26)]) (by omega) (by (try simp) <;> omega) (fun x hx => by simp only [List.mem_cons, List.not_mem_nil, or_false] at hx; rcases hx with rfl | rfl <;> (refine ⟨?_, ?_⟩ <;> (try simp) <;> (try omega)))
      have f2 := (hs40.freeAt 1 rfl 1)
      have hq := hs40.set (p := [_]) (by simp <;> omega) 1 (.slice a8 (m + 1) c8)
      have HQ := Lib.hid hq
      have HA9 := Lib.hid (AccP.wk (AccP.setCell HA8.out (b := OA) (o := 1) (.slice a8 (m + 1) c8) (by simp <;> omega)) (C := fun z => OA + 1 ≤ z ∧ z < (w8.setCell ⟨OA, 1, none⟩ (.slice a8 (m + 1) c8)).heap.size) (fun z hz => by simpa [World.setCell] using hz))
      have HR9 := Lib.hid (Src.below HR8.out ((Below.refl B w8).setCell (p := ⟨OA, 1, none⟩) (by (try simp); omega) (.slice a8 (m + 1) c8)))
      clear hq
      go_wp2_with fail
      refine t4_nil (NoPanic.normal ?_)
      go_wp2_with fail
      go_roundw
      case measure => simp [intOf]; omega
      refine ⟨m + 1, n - 1, wz31, a8, c8, l ++ [((M : Int), l9)], by omega, by go_num, ⟨by simp [hlnw], fun e he => ?_⟩, ⟨by omega, HBT8.out⟩, HQ.out, HA9.out, HR9.out.more (by omega)⟩
      rcases List.mem_append.1 he with he | he
      · exact hl.out.2 e he
      · simp only [List.mem_singleton] at he; subst he; exact HOK9.out
    · obtain rfl : n = 0 := by omega
      obtain rfl : m = K := by omega
      have hltI : ¬ (0 : Int) < (0 : Int) := by omega
      have f0_0 := hs0.freeAt 0 rfl 0
      have f0_1 := hs0.freeAt 0 rfl 1
      go_wp2_with fail
      have hs9 := (hs0.set (p := []) (by simp <;> omega) 0 (.int .i64 SZ)).set (p := []) (by simp <;> omega) 1 (.slice a m c)
      have x0 := hs9.cellAt 0 rfl 0 rfl
      have x1 := hs9.cellAt 0 rfl 1 rfl
      have HSF := Lib.hid ((HSR.out.below ((Below.refl B _).setCell (p := ⟨w.heap.size, 0, none⟩) (by simp; omega) (.int .i64 SZ))).below ((Below.refl B _).setCell (p := ⟨w.heap.size, 1, none⟩) (by simp; omega) (.slice a m c)))
      have HAS := AccP.setCell (AccP.setCell HAC.out (b := w.heap.size) (o := 0) (.int .i64 SZ) (by simp; omega)) (b := w.heap.size) (o := 1) (.slice a m c) (by simp; omega)
      refine bodyPost_ret (v := .agg #[.int .i64 SZ, .slice a m c]) (by simp [results, Tryz.results67, go_sem, x0, x1]) rfl ⟨.slice a m c, rfl, l, HAS.wk (fun k hk => by have := hk.1; omega), tmplOk_of hs4 (by rw [HLN.out]; omega) hl.out.2, by rw [HLN.out]; omega, HSF.out.more (by omega), HBT.out.trans (but_of hs9.bel)⟩
set_option maxRecDepth 100000 in
set_option maxHeartbeats 4000000 in
theorem l01Any_c (SZ : Int) (L B b k : Nat) (w : World) (h : Src L B w b k) (hB : B ≤ w.heap.size) (hk : k ≤ 700000000) (hs4 : 1 ≤ SZ ∧ SZ ≤ 4) :
    Calls Tryz.prog 112 #[.pointer (some ⟨b, 0, none⟩), .int .i64 SZ] w fun e w' => ∃ (M : Nat) (v : Value), e = .returned (.agg #[.int .i64 M, v]) ∧ ∃ l : List (List Int), AccP (fun z => w.heap.size ≤ z) 47 w' v l ∧ relOk SZ ((M : Int), l) = true ∧ Src L B w' b (k + 1001) ∧ But [b] w w' := by
  have hbw := h.lt
  have HSR := Lib.hid h
  have HBT := Lib.hid (But.refl [b] w)
  clear h
  have hs41 := (St.start w).alloc #[.int .i64 0, .slice none 0 0] 57 (n := w.heap.size) (by simp)
  have HSR_42 := Lib.hid (Src.mono HSR.out (belowA _ (.cells #[.int .i64 0, .slice none 0 0] 57)))
  clear HSR
  have k0_0 := hs41.cellAt 0 rfl 0 rfl
  have k0_1 := hs41.cellAt 0 rfl 1 rfl
  go_enter Tryz.func112, Tryz.ntmps112
  go_wp2_with fail
  refine (pick_c 3 L B b k _ HSR_42.out (by omega) (by omega) (by omega)).mono ?_
  rintro e w43 ⟨r2, rfl, hr4, hr5, hrw43, hbw43⟩
  obtain ⟨wz44, hs45, hz_wz44, hy_wz44, hc_wz44⟩ := hs41.cut hbw43 (by intro k hk; simp only [List.mem_singleton] at hk; omega)
  have hz_w43 : w.heap.size + 1 ≤ w43.heap.size := by have h9 := hbw43.size; (try simp at h9); omega
  have HSR_46 := Lib.hid hrw43
  clear HSR_42
  have HBT_47 := Lib.hid (HBT.out.trans hc_wz44)
  clear HBT
  clear hrw43 hc_wz44
  clear k0_0 k0_1
  have k0_0 := hs45.cellAt 0 rfl 0 rfl
  have k0_1 := hs45.cellAt 0 rfl 1 rfl
  obtain ⟨M, hM⟩ : ∃ M : Nat, 1 + r2 = (M : Int) := ⟨(1 + r2).toNat, by omega⟩
  have hw9 : IntKind.i64.wrap (1 + r2) = (M : Int) := by rw [hM]; exact i64_in _ (by omega)
  have hM2 : 1 ≤ M ∧ M ≤ 4 := by omega
  go_wp2_with fail
  refine (l01DrawnA_c SZ M L B b (k + 1) _ HSR_46.out (by (try simp); omega) (by omega) hs4 hM2).mono ?_
  rintro e w48 ⟨v9, rfl, l9, fr9, ok9, hrw48, hbw48⟩
  obtain ⟨wz49, hs50, hz_wz49, hy_wz49, hc_wz49⟩ := hs45.cut hbw48 (by intro k hk; simp only [List.mem_singleton] at hk; omega)
  have hz_w48 : w43.heap.size ≤ w48.heap.size := by have h9 := hbw48.size; (try simp at h9); omega
  have HSR_51 := Lib.hid hrw48
  clear HSR_46
  have HBT_52 := Lib.hid (HBT_47.out.trans hc_wz49)
  clear HBT_47
  clear hrw48 hc_wz49
  clear k0_0 k0_1
  have k0_0 := hs50.cellAt 0 rfl 0 rfl
  have k0_1 := hs50.cellAt 0 rfl 1 rfl
  obtain ⟨a9, c9, rfl, _⟩ := fr9.len
  have HAC := Lib.hid (fr9.wk (C := fun z => w.heap.size + 1 ≤ z) (fun z hz => by omega))
  have HOK9 := Lib.hid ok9
  clear fr9 ok9
  have f0_0 := hs50.freeAt 0 rfl 0
  have f0_1 := hs50.freeAt 0 rfl 1
  go_wp2_with fail
  have hs9 := (hs50.set (p := []) (by simp <;> omega) 0 (.int .i64 M)).set (p := []) (by simp <;> omega) 1 (.slice a9 l9.length c9)
  have x0 := hs9.cellAt 0 rfl 0 rfl
  have x1 := hs9.cellAt 0 rfl 1 rfl
  have HSF := Lib.hid ((HSR_51.out.below ((Below.refl B _).setCell (p := ⟨w.heap.size, 0, none⟩) (by simp; omega) (.int .i64 M))).below ((Below.refl B _).setCell (p := ⟨w.heap.size, 1, none⟩) (by simp; omega) (.slice a9 l9.length c9)))
  have HAS := AccP.setCell (AccP.setCell HAC.out (b := w.heap.size) (o := 0) (.int .i64 M) (by simp <;> omega)) (b := w.heap.size) (o := 1) (.slice a9 l9.length c9) (by simp <;> omega)
  refine bodyPost_ret (v := .agg #[.int .i64 M, .slice a9 l9.length c9]) (by simp [results, Tryz.results112, go_sem, x0, x1]) rfl ⟨M, .slice a9 l9.length c9, rfl, l9, HAS.wk (fun k hk => by omega), HOK9.out, HSF.out.more (by omega), HBT_52.out.trans (but_of hs9.bel)⟩

end Go.Proofs.YtamkfnkikiekaaaGreat

