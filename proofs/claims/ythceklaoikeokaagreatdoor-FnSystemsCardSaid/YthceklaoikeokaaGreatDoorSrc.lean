/-
  CONTRACTS: the reference's source of choices; drawn equations and systems.
-/
import Derived.Test.YthceklaoikeokaaGreatDoorSrcP
import Derived.Test.YthceklaoikeokaaGreatDoorSysB
namespace Go.Proofs.YthceklaoikeokaaGreatDoor
open Go.RowKit Go.Shelf Go.IntWalk
open Rep (Rd Own sz)
set_option linter.unusedSimpArgs false
set_option linter.unusedVariables false

theorem u8_i64 {v : Int} (h0 : 0 ≤ v) (h1 : v ≤ 255) : IntKind.i64.wrap v = v := i64_in _ (by omega)
theorem and255 (x : Int) : 0 ≤ bits .and .u64 x 255 ∧ bits .and .u64 x 255 ≤ 255 := by
  have h : (BitVec.ofInt 64 x &&& BitVec.ofInt 64 255).toNat ≤ 255 := by
    rw [BitVec.toNat_and]; exact Nat.le_trans Nat.and_le_right (by decide)
  have e : bits .and .u64 x 255 = IntKind.u64.wrap (((BitVec.ofInt 64 x &&& BitVec.ofInt 64 255).toNat : Nat) : Int) := rfl
  rw [e]
  generalize (BitVec.ofInt 64 x &&& BitVec.ofInt 64 255).toNat = m at *
  have e2 : IntKind.u64.wrap (m : Int) = m := by
    simp [IntKind.wrap, IntKind.signed, IntKind.bits]
    omega
  rw [e2]; omega
theorem wrap64_id {n : Int} (h0 : 0 ≤ n) (h1 : n ≤ 255) : wrap64 n = n := by unfold wrap64; omega
set_option maxRecDepth 100000 in
set_option maxHeartbeats 4000000 in
theorem l00From_c (a : Option Addr) (n c : Nat) (l : List Byte) (w : World) (h : Rd w [.slice a n c] l) :
    Calls Tryz.prog 24 #[.slice a n c] w fun e w' => e = .returned (.pointer (some ⟨w.heap.size, 0, none⟩)) ∧ Src w.heap.size (w.heap.size + 1) w' w.heap.size 0 ∧ Below w.heap.size w w' := by
  have hB := byt_of h
  have hn : n = l.length := hB.2.1
  clear h
  generalize l.length = m at *
  subst hn
  go_enter Tryz.func24, Tryz.ntmps24
  go_wp2_with fail
  go_ret
  have hb : Below w.heap.size w (w.alloc (.cells #[.slice a n c, .int .i64 0, .int .u64 0] 99)) := belowA w _
  exact ⟨rfl, ⟨Nat.le_refl _, Nat.lt_succ_self _, a, n, c, 0, 0, _, heap_alloc_at _ _ rfl, Nat.le_refl _, hB.2.2, hB.1.below hb⟩, hb⟩
set_option maxRecDepth 100000 in
set_option maxHeartbeats 4000000 in
theorem next_c (L B b k : Nat) (w : World) (h : Src L B w b k) (hk : k ≤ 1000000000) :
    Calls Tryz.prog 83 #[.pointer (some ⟨b, 0, none⟩)] w fun e w' => ∃ v : Int, e = .returned (.int .i64 v) ∧ 0 ≤ v ∧ v ≤ 255 ∧ Src L B w' b (k + 1) ∧ But [b] w w' := by
  obtain ⟨h1, h2, a, n, c, q, s, t, h3, h4, h5, h6⟩ := h
  have HB := Lib.hid h6
  have H3 := Lib.hid h3
  have c0 : w.cell? ⟨b, 0, none⟩ = some (.slice a n c) := by rw [cell_at_block h3]; rfl
  have c1 : w.cell? ⟨b, 1, none⟩ = some (.int .i64 q) := by rw [cell_at_block h3]; rfl
  have f1 : w.frozen? ⟨b, 1, none⟩ = false := free_at_block h3
  clear h3 h6
  unfold maxLen at h5
  go_enter Tryz.func83, Tryz.ntmps83
  have hq1 : IntKind.i64.wrap ((q : Int) + 1) = ((q + 1 : Nat) : Int) := by rw [i64_in _ (by omega)]; omega
  -- the rest, from the fourth region on
  by_cases hlt : q < n
  · obtain ⟨g, o, v, rfl, hg, hc, hv0, hv1⟩ := HB.out q hlt
    have hwv := u8_i64 hv0 hv1
    have hl2 : (q : Int) < n := by omega
    go_wp2_with fail
    refine wp_region_noPanic (wp_region_el (fun w' => w'.cell? ⟨b, 0, none⟩ = some (.slice (some ⟨g, o, none⟩) n c) ∧ w'.cell? ⟨b, 1, none⟩ = some (.int .i64 q)) [(0, 0), (1, 0), (2, 0), (3, 0), (4, 0), (5, 0), (6, 0), (7, 0), (8, 0), (9, 0)] (by kernel_rfl) (by kernel_rfl) (by kernel_rfl) rfl ?_ (fun _ _ _ _ _ h => h) ?_)
    · exact ⟨cellL (belowD _) c0, cellL (belowD _) c1⟩
    (repeat (first | (apply el_skip rfl (by rfl); try simp only [Act.put, List.setIfInBounds_toArray, List.set_cons_zero, List.set_cons_succ]) | (apply el_float rfl (by rfl); (· (intro w' hS; go_simp <;> with_reducible rfl)); (try simp only [Act.put, List.setIfInBounds_toArray, List.set_cons_zero, List.set_cons_succ]))))
    refine el_nil (NoPanic.normal ?_)
    go_wp2_with fail
    refine wp_region_noPanic (wp_region_el (fun w' => w'.cell? ⟨b, 0, none⟩ = some (.slice (some ⟨g, o, none⟩) n c) ∧ w'.cell? ⟨b, 1, none⟩ = some (.int .i64 q) ∧ w'.cell? ⟨g, o + q, none⟩ = some (.int .u8 v)) [(0, 0), (1, 0), (2, 0), (3, 0), (4, 0), (5, 0), (6, 0), (7, 0), (8, 0), (9, 0), (10, 0), (11, 0)] (by kernel_rfl) (by kernel_rfl) (by kernel_rfl) rfl ?_ (fun _ _ _ _ _ h => h) ?_)
    · exact ⟨cellL (belowD _) (cellL (belowD _) c0), cellL (belowD _) (cellL (belowD _) c1), cellL (belowD _) (cellL (belowD _) hc)⟩
    (repeat (first | (apply el_skip rfl (by rfl); try simp only [Act.put, List.setIfInBounds_toArray, List.set_cons_zero, List.set_cons_succ]) | (apply el_float rfl (by rfl); (· (intro w' hS; go_simp <;> with_reducible rfl)); (try simp only [Act.put, List.setIfInBounds_toArray, List.set_cons_zero, List.set_cons_succ]))))
    refine el_nil (NoPanic.normal ?_)
    have H4 := Lib.hid (show w.drew.drew.heap[b]? = _ from H3.out)
    generalize hgw : w.drew.drew = w1 at *
    clear c0 c1 f1 hc
    have c1 : w1.cell? ⟨b, 1, none⟩ = some (.int .i64 q) := by rw [cell_at_block H4.out]; rfl
    have c2 : w1.cell? ⟨b, 2, none⟩ = some (.int .u64 s) := by rw [cell_at_block H4.out]; rfl
    have f1 : w1.frozen? ⟨b, 1, none⟩ = false := free_at_block H4.out
    have f2 : w1.frozen? ⟨b, 2, none⟩ = false := free_at_block H4.out
    go_wp2_with fail
    generalize hs2 : IntKind.u64.wrap (IntKind.u64.wrap (IntKind.u64.wrap (s * 6364136223846793005) + v) + 1442695040888963407) = s2
    have hbut : But [b] w ((w1.setCell ⟨b, 1, none⟩ (.int .i64 ((q : Int) + 1))).setCell ⟨b, 2, none⟩ (.int .u64 s2)) := by
      rw [← hgw]
      exact ((but_of (belowD w)).trans (but_of (belowD _))).trans (((OnlyAt.refl [b] w.drew.drew).setCell (p := ⟨b, 1, none⟩) (by simp) _).setCell (p := ⟨b, 2, none⟩) (by simp) _).but
    have H5 := Lib.hid (heap_setCell_at _ b 2 (.int .u64 s2) _ _ _ (heap_setCell_at w1 b 1 (.int .i64 ((q : Int) + 1)) _ _ _ H4.out))
    have HBUT := Lib.hid hbut
    clear c1 c2 f1 f2 hbut hgw H4
    generalize hgw2 : (w1.setCell ⟨b, 1, none⟩ (.int .i64 ((q : Int) + 1))).setCell ⟨b, 2, none⟩ (.int .u64 s2) = w2 at *
    clear hgw2
    have c0 : w2.cell? ⟨b, 0, none⟩ = some (.slice (some ⟨g, o, none⟩) n c) := by rw [cell_at_block H5.out]; rfl
    have c1 : w2.cell? ⟨b, 1, none⟩ = some (.int .i64 ((q : Int) + 1)) := by rw [cell_at_block H5.out]; rfl
    have c2 : w2.cell? ⟨b, 2, none⟩ = some (.int .u64 s2) := by rw [cell_at_block H5.out]; rfl
    have hle : (q : Int) + 1 ≤ n := by omega
    refine wp_region_noPanic (wp_region_el (fun w' => w'.cell? ⟨b, 0, none⟩ = some (.slice (some ⟨g, o, none⟩) n c) ∧ w'.cell? ⟨b, 1, none⟩ = some (.int .i64 ((q : Int) + 1))) [(0, 0), (1, 0), (2, 0), (3, 0), (4, 0), (5, 0), (6, 0), (7, 0), (8, 0), (9, 0)] (by kernel_rfl) (by kernel_rfl) (by kernel_rfl) rfl ?_ (fun _ _ _ _ _ h => h) ?_)
    · exact ⟨cellL (belowD _) c0, cellL (belowD _) c1⟩
    (repeat (first | (apply el_skip rfl (by rfl); try simp only [Act.put, List.setIfInBounds_toArray, List.set_cons_zero, List.set_cons_succ]) | (apply el_float rfl (by rfl); (· (intro w' hS; go_simp <;> with_reducible rfl)); (try simp only [Act.put, List.setIfInBounds_toArray, List.set_cons_zero, List.set_cons_succ]))))
    refine el_nil (NoPanic.normal ?_)
    clear c0 c1
    have c2 := cellL (belowD _) c2
    go_wp2_with fail
    go_ret
    refine ⟨v, rfl, hv0, hv1, ⟨h1, h2, some ⟨g, o, none⟩, n, c, q + 1, s2, t, H5.out, by omega, ?_, ?_⟩, HBUT.out.trans (but_of (belowD _))⟩
    · unfold maxLen; omega
    · exact fun i hi => by
        obtain ⟨g', o', v', ha, hg', hc', hv'⟩ := HB.out i hi
        exact ⟨g', o', v', ha, hg', cellK (cellK hc' (HBUT.out.block _ (World.block_lt_of_cell? w _ hc') (by simp; omega))) rfl, hv'⟩
  · have hl2 : ¬ (q : Int) < n := by omega
    go_wp2_with fail
    refine wp_region_noPanic (wp_region_el (fun w' => w'.cell? ⟨b, 0, none⟩ = some (.slice a n c) ∧ w'.cell? ⟨b, 1, none⟩ = some (.int .i64 q)) [(0, 0), (1, 0), (2, 0), (3, 0), (4, 0), (5, 0), (6, 0), (7, 0), (8, 0), (9, 0)] (by kernel_rfl) (by kernel_rfl) (by kernel_rfl) rfl ?_ (fun _ _ _ _ _ h => h) ?_)
    · exact ⟨cellL (belowD _) c0, cellL (belowD _) c1⟩
    (repeat (first | (apply el_skip rfl (by rfl); try simp only [Act.put, List.setIfInBounds_toArray, List.set_cons_zero, List.set_cons_succ]) | (apply el_float rfl (by rfl); (· (intro w' hS; go_simp <;> with_reducible rfl)); (try simp only [Act.put, List.setIfInBounds_toArray, List.set_cons_zero, List.set_cons_succ]))))
    refine el_nil (NoPanic.normal ?_)
    have H4 := Lib.hid (show w.drew.heap[b]? = _ from H3.out)
    generalize hgw : w.drew = w1 at *
    clear c0 c1 f1
    have c1 : w1.cell? ⟨b, 1, none⟩ = some (.int .i64 q) := by rw [cell_at_block H4.out]; rfl
    have c2 : w1.cell? ⟨b, 2, none⟩ = some (.int .u64 s) := by rw [cell_at_block H4.out]; rfl
    have f1 : w1.frozen? ⟨b, 1, none⟩ = false := free_at_block H4.out
    have f2 : w1.frozen? ⟨b, 2, none⟩ = false := free_at_block H4.out
    go_wp2_with fail
    generalize hs2 : IntKind.u64.wrap (IntKind.u64.wrap (IntKind.u64.wrap (s * 6364136223846793005)) + 1442695040888963407) = s2
    have hbut : But [b] w ((w1.setCell ⟨b, 1, none⟩ (.int .i64 ((q : Int) + 1))).setCell ⟨b, 2, none⟩ (.int .u64 s2)) := by
      rw [← hgw]
      exact (but_of (belowD w)).trans (((OnlyAt.refl [b] w.drew).setCell (p := ⟨b, 1, none⟩) (by simp) _).setCell (p := ⟨b, 2, none⟩) (by simp) _).but
    have H5 := Lib.hid (heap_setCell_at _ b 2 (.int .u64 s2) _ _ _ (heap_setCell_at w1 b 1 (.int .i64 ((q : Int) + 1)) _ _ _ H4.out))
    have HBUT := Lib.hid hbut
    clear c1 c2 f1 f2 hbut hgw H4
    generalize hgw2 : (w1.setCell ⟨b, 1, none⟩ (.int .i64 ((q : Int) + 1))).setCell ⟨b, 2, none⟩ (.int .u64 s2) = w2 at *
    clear hgw2
    have c0 : w2.cell? ⟨b, 0, none⟩ = some (.slice a n c) := by rw [cell_at_block H5.out]; rfl
    have c1 : w2.cell? ⟨b, 1, none⟩ = some (.int .i64 ((q : Int) + 1)) := by rw [cell_at_block H5.out]; rfl
    have c2 : w2.cell? ⟨b, 2, none⟩ = some (.int .u64 s2) := by rw [cell_at_block H5.out]; rfl
    have hle : (q : Int) + 1 > n := by omega
    refine wp_region_noPanic (wp_region_el (fun w' => w'.cell? ⟨b, 0, none⟩ = some (.slice a n c) ∧ w'.cell? ⟨b, 1, none⟩ = some (.int .i64 ((q : Int) + 1))) [(0, 0), (1, 0), (2, 0), (3, 0), (4, 0), (5, 0), (6, 0), (7, 0), (8, 0), (9, 0)] (by kernel_rfl) (by kernel_rfl) (by kernel_rfl) rfl ?_ (fun _ _ _ _ _ h => h) ?_)
    · exact ⟨cellL (belowD _) c0, cellL (belowD _) c1⟩
    (repeat (first | (apply el_skip rfl (by rfl); try simp only [Act.put, List.setIfInBounds_toArray, List.set_cons_zero, List.set_cons_succ]) | (apply el_float rfl (by rfl); (· (intro w' hS; go_simp <;> with_reducible rfl)); (try simp only [Act.put, List.setIfInBounds_toArray, List.set_cons_zero, List.set_cons_succ]))))
    refine el_nil (NoPanic.normal ?_)
    clear c0 c1
    have c2 := cellL (belowD _) c2
    go_wp2_with fail
    go_ret
    refine ⟨_, rfl, ?_, ?_, ⟨h1, h2, a, n, c, q + 1, s2, t, H5.out, by omega, ?_, ?_⟩, HBUT.out.trans (but_of (belowD _))⟩
    · have h9 := and255 (s2 / 1099511627776)
      rw [wrap64_id h9.1 h9.2]; exact h9.1
    · have h9 := and255 (s2 / 1099511627776)
      rw [wrap64_id h9.1 h9.2]; exact h9.2
    · unfold maxLen; omega
    · exact fun i hi => by
        obtain ⟨g', o', v', ha, hg', hc', hv'⟩ := HB.out i hi
        exact ⟨g', o', v', ha, hg', cellK (cellK hc' (HBUT.out.block _ (World.block_lt_of_cell? w _ hc') (by simp; omega))) rfl, hv'⟩
set_option maxRecDepth 100000 in
set_option maxHeartbeats 4000000 in
theorem pick_c (n : Int) (L B b k : Nat) (w : World) (h : Src L B w b k) (hk : k ≤ 1000000000) (h0 : 2 ≤ n) (h1 : n ≤ 200) :
    Calls Tryz.prog 60 #[.pointer (some ⟨b, 0, none⟩), .int .i64 n] w fun e w' => ∃ v : Int, e = .returned (.int .i64 v) ∧ 0 ≤ v ∧ v < n ∧ Src L B w' b (k + 1) ∧ But [b] w w' := by
  have H := Lib.hid h
  clear h
  go_enter Tryz.func60, Tryz.ntmps60
  have hn1 : ¬ n ≤ 1 := by omega
  have hn2 : ¬ 200 < n := by omega
  have hn3 : n ≠ 0 := by omega
  go_wp2_with fail
  refine (next_c L B b k _ H.out hk).mono ?_
  rintro e w1 ⟨v, rfl, hv0, hv1, hs, hb⟩
  have hT : v.tmod n = v % n := Int.tmod_eq_emod_of_nonneg hv0
  have hE0 := Int.emod_nonneg v hn3
  have hE1 := Int.emod_lt_of_pos v (show 0 < n by omega)
  have hw2 : IntKind.i64.wrap (v % n) = v % n := i64_in _ (by omega)
  have HS := Lib.hid hs
  have HB := Lib.hid hb
  clear hs hb
  go_wp2_with fail
  go_ret
  exact ⟨v % n, rfl, hE0, hE1, HS.out, HB.out⟩
set_option maxRecDepth 100000 in
set_option maxHeartbeats 4000000 in
theorem one_c (n : Int) (L B b k : Nat) (w : World) (h : Src L B w b k) (hk : k ≤ 1000000000) (h0 : 2 ≤ n) (h1 : n ≤ 200) :
    Calls Tryz.prog 84 #[.pointer (some ⟨b, 0, none⟩), .int .i64 n] w fun e w' => ∃ v : Bool, e = .returned (.bool v) ∧ Src L B w' b (k + 1) ∧ But [b] w w' := by
  have H := Lib.hid h
  clear h
  go_enter Tryz.func84, Tryz.ntmps84
  go_wp2_with fail
  refine (pick_c n L B b k _ H.out hk h0 h1).mono ?_
  rintro e w1 ⟨v, rfl, hv0, hv1, hs, hb⟩
  have HS := Lib.hid hs
  have HB := Lib.hid hb
  clear hs hb
  go_wp2_with fail
  go_ret
  exact ⟨_, rfl, HS.out, HB.out⟩
theorem res_snoc1 {p : Int} {l : List Int} {x : Int} (h : Res p l) (h0 : 0 ≤ x) (h1 : x < p) : Res p (l ++ [x]) := fun a ha => by
  rcases List.mem_append.1 ha with ha | ha
  · exact h a ha
  · simp only [List.mem_singleton] at ha; subst ha; exact ⟨h0, h1⟩
theorem fresh_pair1 {lo : Nat} {w : World} {v : Value} {l : List Int} {y : Int} (hI : I64 y) (h : Fresh lo w [v] l) : Fresh lo w [v, .int .i64 y] ((l, y) : Eqn) := by
  obtain ⟨ps, h1, h2, h3⟩ := h
  exact ⟨ps ++ [], mk_own h1 ⟨rfl, rfl, hI⟩, by simpa using h2, fun k hk => h3 k (by simpa using hk)⟩
theorem eqnOk_of {p : Int} {U : Nat} {l : List Int} {b : Int} (h1 : l.length = U) (h2 : Res p l) (h3 : 0 ≤ b) (h4 : b < p) : eqnOk p (U : Int) (l, b) = true := by
  simp only [eqnOk, valsOk, Bool.and_eq_true, decide_eq_true_eq, List.all_eq_true]
  exact ⟨⟨by omega, fun a ha => by have := h2 a ha; simp only [inB, Bool.and_eq_true, decide_eq_true_eq]; omega⟩, by simp only [inB, Bool.and_eq_true, decide_eq_true_eq]; omega⟩
set_option maxRecDepth 100000 in
set_option maxHeartbeats 4000000 in
theorem l07EquationDrawn_c (p : Int) (U L B b k : Nat) (w : World) (h : Src L B w b k) (hB : B ≤ w.heap.size) (hk : k ≤ 900000000) (hp : p = 2 ∨ p = 3) (hU : U ≤ 12) :
    Calls Tryz.prog 61 #[.pointer (some ⟨b, 0, none⟩), .int .i64 p, .int .i64 U] w fun e w' => ∃ (v0 : Value) (x : Eqn), e = .returned (.agg #[v0, .int .i64 x.2]) ∧ Fresh w.heap.size w' [v0, .int .i64 x.2] x ∧ eqnOk p U x = true ∧ Src L B w' b (k + 100) ∧ But [b] w w' := by
  have hbw := h.lt
  have HSR := Lib.hid h
  have HBT := Lib.hid (But.refl [b] w)
  clear h
  have hs1 := (St.start w).alloc #[.slice none 0 0, .int .i64 0] 73 (n := w.heap.size) (by simp)
  have HSR_2 := Lib.hid (Src.mono HSR.out (belowA _ (.cells #[.slice none 0 0, .int .i64 0] 73)))
  clear HSR
  have k0_0 := hs1.cellAt 0 rfl 0 rfl
  have k0_1 := hs1.cellAt 0 rfl 1 rfl
  go_enter Tryz.func61, Tryz.ntmps61
  go_wp2_with fail
  refine (pick_c p L B b k _ HSR_2.out (by omega) (by omega) (by omega)).mono ?_
  rintro e w3 ⟨r, rfl, hr0, hr1, hrw3, hbw3⟩
  obtain ⟨wz4, hs5, hz_wz4, hy_wz4, hc_wz4⟩ := hs1.cut hbw3 (by intro k hk; simp only [List.mem_singleton] at hk; omega)
  have hz_w3 : w.heap.size + 1 ≤ w3.heap.size := by have h9 := hbw3.size; (try simp at h9); omega
  have HSR_6 := Lib.hid hrw3
  clear HSR_2
  have HBT_7 := Lib.hid (HBT.out.trans hc_wz4)
  clear HBT
  clear hrw3 hc_wz4
  clear k0_0 k0_1
  have k0_0 := hs5.cellAt 0 rfl 0 rfl
  have k0_1 := hs5.cellAt 0 rfl 1 rfl
  have hs8 := hs5.alloc #[.slice none 0 0, .int .i64 r] 73 (n := w3.heap.size) (by simp)
  have HSR_9 := Lib.hid (Src.mono HSR_6.out (belowA _ (.cells #[.slice none 0 0, .int .i64 r] 73)))
  clear HSR_6
  clear k0_0 k0_1
  have k0_0 := hs8.cellAt 0 rfl 0 rfl
  have k0_1 := hs8.cellAt 0 rfl 1 rfl
  have k1_0 := hs8.cellAt 1 rfl 0 rfl
  have k1_1 := hs8.cellAt 1 rfl 1 rfl
  have hEA : w3.heap.size + 1 ≤ (w3.alloc (.cells #[.slice none 0 0, .int .i64 r] 73)).heap.size := by simp
  go_wp2_with fail
  have hz_wE : w3.heap.size + 1 ≤ ((w3.alloc (.cells #[.slice none 0 0, .int .i64 r] 73))).heap.size := by simp
  generalize hgen_wE : (w3.alloc (.cells #[.slice none 0 0, .int .i64 r] 73)) = wE at *
  clear hgen_wE
  have HST := Lib.hid hs8
  have HSR9 := Lib.hid HSR_9.out
  have HBT9 := Lib.hid HBT_7.out
  have hlo := hs8.lo
  have hzz : w.heap.size + 1 ≤ w3.heap.size := by omega
  go_loopw [8] (fun i wl => ∃ (j : Nat) (wz : World) (a : Option Addr) (c : Nat) (l : List Int), j ≤ U ∧ i = .int .i64 j ∧ Hid (l.length = j ∧ Res p l) ∧ Hid (w.heap.size ≤ wz.heap.size ∧ But [b] w wz) ∧ Hid (St wz (w3.heap.size + 1) wl [(w.heap.size, #[.slice none 0 0, .int .i64 0], 73), (w3.heap.size, #[.slice a j c, .int .i64 r], 73)]) ∧ Hid (Acc (w3.heap.size + 1) wl.heap.size 2 wl (.slice a j c) l) ∧ Hid (Src L B wl b (k + 1 + 2 * j))) (fun i _ => U - (intOf i).toNat)
  case atStart => exact ⟨0, wz4, none, 0, [], Nat.zero_le _, rfl, ⟨rfl, fun a ha => by cases ha⟩, ⟨by omega, HBT9.out⟩, HST.out, Acc.nil _ _ _ _, HSR9.out⟩
  case round =>
    clear HST HSR9 HBT9
    obtain ⟨j, wz, a, c, l, hj, rfl, hl, hwz, hst, hac, hsr⟩ := hrel
    have HAC := hac
    have HSR := hsr
    have hwz1 := hwz.out.1
    have HBT := Lib.hid hwz.out.2
    have hs0 := hst.out
    have hszr := hst.out.hi
    clear hac hsr
    have k0_0 := hs0.cellAt 0 rfl 0 rfl
    have k0_1 := hs0.cellAt 0 rfl 1 rfl
    have k1_0 := hs0.cellAt 1 rfl 0 rfl
    have k1_1 := hs0.cellAt 1 rfl 1 rfl
    by_cases hlt : j < U
    · have hltI : (j : Int) < U := by omega
      go_wp2_with fail
      refine (one_c 2 L B b (k + 1 + 2 * j) _ HSR.out (by omega) (by omega) (by omega)).mono ?_
      rintro e w10 ⟨yes, rfl, hrw10, hbw10⟩
      obtain ⟨wz11, hs12, hz_wz11, hy_wz11, hc_wz11⟩ := hs0.cut hbw10 (by intro k hk; simp only [List.mem_singleton] at hk; omega)
      have hz_w10 : wr.heap.size ≤ w10.heap.size := by have h9 := hbw10.size; (try simp at h9); omega
      have HAC_13 := Lib.hid (Acc.but HAC.out hbw10 (by (try simp) <;> omega) (by intro k hk; simp only [List.mem_singleton] at hk; omega))
      clear HAC
      have HSR_14 := Lib.hid hrw10
      clear HSR
      have HBT_15 := Lib.hid (HBT.out.trans hc_wz11)
      clear HBT
      clear hrw10 hc_wz11
      clear k0_0 k0_1 k1_0 k1_1
      have k0_0 := hs12.cellAt 0 rfl 0 rfl
      have k0_1 := hs12.cellAt 0 rfl 1 rfl
      have k1_0 := hs12.cellAt 1 rfl 0 rfl
      have k1_1 := hs12.cellAt 1 rfl 1 rfl
      cases yes with
      | true =>
        go_wp2_with fail
        refine (pick_c p L B b (k + 1 + 2 * j + 1) _ HSR_14.out (by omega) (by omega) (by omega)).mono ?_
        rintro e w16 ⟨X, rfl, hX0, hX1, hrw16, hbw16⟩
        obtain ⟨wz17, hs18, hz_wz17, hy_wz17, hc_wz17⟩ := hs12.cut hbw16 (by intro k hk; simp only [List.mem_singleton] at hk; omega)
        have hz_w16 : w10.heap.size ≤ w16.heap.size := by have h9 := hbw16.size; (try simp at h9); omega
        have HAC_19 := Lib.hid (Acc.but HAC_13.out hbw16 (by (try simp) <;> omega) (by intro k hk; simp only [List.mem_singleton] at hk; omega))
        clear HAC_13
        have HSR_20 := Lib.hid hrw16
        clear HSR_14
        have HBT_21 := Lib.hid (HBT_15.out.trans hc_wz17)
        clear HBT_15
        clear hrw16 hc_wz17
        clear k0_0 k0_1 k1_0 k1_1
        have k0_0 := hs18.cellAt 0 rfl 0 rfl
        have k0_1 := hs18.cellAt 0 rfl 1 rfl
        have k1_0 := hs18.cellAt 1 rfl 0 rfl
        have k1_1 := hs18.cellAt 1 rfl 1 rfl
        have hX : 0 ≤ X ∧ X < p := ⟨hX0, hX1⟩
        have HLN := Lib.hid hl.out.1
        go_wp2_with (at_builtin; go_loud (refine wpList_append_ints _ rfl _ _ _ rfl E_ints rfl (Acc.mono HAC_19.out (belowA _ (.cells #[.int .i64 X] 2))) (by omega) (by simp; omega) ⟨w16.heap.size, 0, none⟩ 1 rfl (ns := [X]) (news1 (cell_at_block (heap_alloc_new _ _))) (fun b hb => by simp at hb; subst hb; exact i64_of _ (by omega) (by omega)) (by rw [HLN.out]; simp; omega) ?_); simp only [HLN.out]; intro a9 c9 w9 hA9 hB9 hK9; have hs9 := (hs18.step (belowA _ (.cells #[.int .i64 X] 2))).stepB (hB9.mono (by omega)); have q9 := hs9.cellAt 1 rfl 0 rfl; have f9 := hs9.freeAt 1 rfl 0)
        have HR9 := Lib.hid (Src.below (B := B) HSR_20.out ((belowA w16 (.cells #[.int .i64 X] 2)).mono (by omega) |>.trans (hB9.mono (by omega))))
        have hsQ := hs9.set (p := [_]) (by simp <;> omega) 0 (.slice a9 (j + 1) c9)
        go_roundw
        case rel =>
          refine ⟨j + 1, wz17, a9, c9, l ++ [X], hlt, by go_num, ⟨by simp [HLN.out], res_snoc1 hl.out.2 hX.1 hX.2⟩, ⟨by omega, HBT_21.out⟩, hsQ, ?_, ?_⟩
          · exact (hA9.setCell (by simp) _).up (by simp [World.setCell])
          · exact (HR9.out.below ((Below.refl B w9).setCell (by simp; omega) _)).more (by omega)
        case measure => simp [intOf]; omega
      | false =>
        obtain ⟨X, hX, hXe⟩ : ∃ X : Int, (0 ≤ X ∧ X < p) ∧ X = 0 := ⟨0, ⟨by omega, by omega⟩, rfl⟩
        have HLN := Lib.hid hl.out.1
        go_wp2_with (at_builtin; go_loud (refine wpList_append_ints _ rfl _ _ _ rfl E_ints rfl (Acc.mono HAC_13.out (belowA _ (.cells #[.int .i64 0] 2))) (by omega) (by simp; omega) ⟨w10.heap.size, 0, none⟩ 1 rfl (ns := [0]) (news1 (cell_at_block (heap_alloc_new _ _))) (fun b hb => by simp at hb; subst hb; exact i64_of _ (by omega) (by omega)) (by rw [HLN.out]; simp; omega) ?_); simp only [HLN.out]; intro a9 c9 w9 hA9 hB9 hK9; have hs9 := (hs12.step (belowA _ (.cells #[.int .i64 0] 2))).stepB (hB9.mono (by omega)); have q9 := hs9.cellAt 1 rfl 0 rfl; have f9 := hs9.freeAt 1 rfl 0)
        have HR9 := Lib.hid (Src.below (B := B) HSR_14.out ((belowA w10 (.cells #[.int .i64 0] 2)).mono (by omega) |>.trans (hB9.mono (by omega))))
        have hsQ := hs9.set (p := [_]) (by simp <;> omega) 0 (.slice a9 (j + 1) c9)
        go_roundw
        case rel =>
          refine ⟨j + 1, wz11, a9, c9, l ++ [0], hlt, by go_num, ⟨by simp [HLN.out], res_snoc1 hl.out.2 (by omega) (by omega)⟩, ⟨by omega, HBT_15.out⟩, hsQ, ?_, ?_⟩
          · exact (hA9.setCell (by simp) _).up (by simp [World.setCell])
          · exact (HR9.out.below ((Below.refl B w9).setCell (by simp; omega) _)).more (by omega)
        case measure => simp [intOf]; omega
    · obtain rfl : j = U := by omega
      have hnl : ¬ ((j : Int) < j) := by omega
      have f0_0 := hs0.freeAt 0 rfl 0
      have f0_1 := hs0.freeAt 0 rfl 1
      go_wp2_with fail
      have HFR := Lib.hid (Acc.fresh HAC.out)
      have hs9 := (hs0.set (p := []) (by simp <;> omega) 0 (.slice a j c)).set (p := []) (by simp <;> omega) 1 (.int .i64 r)
      have x0 := hs9.cellAt 0 rfl 0 rfl
      have x1 := hs9.cellAt 0 rfl 1 rfl
      have HSF := Lib.hid ((HSR.out.below ((Below.refl B _).setCell (p := ⟨w.heap.size, 0, none⟩) (by simp; omega) (.slice a j c))).below ((Below.refl B _).setCell (p := ⟨w.heap.size, 1, none⟩) (by simp; omega) (.int .i64 r)))
      refine bodyPost_ret (v := .agg #[.slice a j c, .int .i64 r]) (by simp [results, Tryz.results61, go_sem, x0, x1]) rfl ⟨.slice a j c, l, r, rfl, ?_, eqnOk_of hl.out.1 hl.out.2 hr0 hr1, HSF.out.more (by omega), HBT.out.trans (but_of hs9.bel)⟩
      have h1 := fresh_pair1 (y := r) ⟨by omega, by omega⟩ HFR.out
      exact ((h1.setCell (a := ⟨w.heap.size, 0, none⟩) (by simp; omega) _).setCell (a := ⟨w.heap.size, 1, none⟩) (by simp; omega) _).lower (by omega)
theorem validS_of {p : Int} {U : Nat} {l : List Eqn} (hp : p = 2 ∨ p = 3) (h0 : 1 ≤ U) (h1 : U ≤ 12) (hl : l.length ≤ 24) (he : ∀ e, e ∈ l → eqnOk p (U : Int) e = true) : validS (p, (U : Int), l) = true := by
  simp only [validS, Bool.and_eq_true, decide_eq_true_eq, List.all_eq_true]
  refine ⟨⟨⟨?_, inB_mk (by omega)⟩, hl⟩, he⟩
  rcases hp with rfl | rfl <;> decide
theorem fresh_sys {lo : Nat} {w : World} {p u : Int} {v : Value} {l : List Eqn} (hp : I64 p) (hu : I64 u) (h : Fresh lo w [v] l) : Fresh lo w [.int .i64 p, .int .i64 u, v] ((p, u, l) : Sys) := by
  obtain ⟨ps, h1, h2, h3⟩ := h
  exact ⟨ps, mk_own (p := []) ⟨rfl, rfl, hp⟩ (mk_own (p := []) ⟨rfl, rfl, hu⟩ h1), by simpa using h2, fun k hk => h3 k (by simpa using hk)⟩
set_option maxRecDepth 100000 in
set_option maxHeartbeats 4000000 in
theorem l07Drawn_c (L B b k : Nat) (w : World) (h : Src L B w b k) (hB : B ≤ w.heap.size) (hk : k ≤ 900000) :
    Calls Tryz.prog 23 #[.pointer (some ⟨b, 0, none⟩)] w fun e w' => ∃ (p : Int) (U : Nat) (v : Value) (l : List Eqn), e = .returned (.agg #[.int .i64 p, .int .i64 U, v]) ∧ Fresh w.heap.size w' [.int .i64 p, .int .i64 U, v] ((p, (U : Int), l) : Sys) ∧ (validS (p, (U : Int), l) = true ∧ U ≤ 5 ∧ l.length ≤ 6) ∧ Src L B w' b (k + 1000) ∧ But [b] w w' := by
  have hbw := h.lt
  have HSR := Lib.hid h
  have HBT := Lib.hid (But.refl [b] w)
  clear h
  have hs22 := (St.start w).alloc #[.int .i64 0, .int .i64 0, .slice none 0 0] 26 (n := w.heap.size) (by simp)
  have HSR_23 := Lib.hid (Src.mono HSR.out (belowA _ (.cells #[.int .i64 0, .int .i64 0, .slice none 0 0] 26)))
  clear HSR
  have k0_0 := hs22.cellAt 0 rfl 0 rfl
  have k0_1 := hs22.cellAt 0 rfl 1 rfl
  have k0_2 := hs22.cellAt 0 rfl 2 rfl
  go_enter Tryz.func23, Tryz.ntmps23
  go_wp2_with fail
  refine (pick_c 2 L B b k _ HSR_23.out (by omega) (by omega) (by omega)).mono ?_
  rintro e w24 ⟨r0, rfl, hr0, hr1, hrw24, hbw24⟩
  obtain ⟨wz25, hs26, hz_wz25, hy_wz25, hc_wz25⟩ := hs22.cut hbw24 (by intro k hk; simp only [List.mem_singleton] at hk; omega)
  have hz_w24 : w.heap.size + 1 ≤ w24.heap.size := by have h9 := hbw24.size; (try simp at h9); omega
  have HSR_27 := Lib.hid hrw24
  clear HSR_23
  have HBT_28 := Lib.hid (HBT.out.trans hc_wz25)
  clear HBT
  clear hrw24 hc_wz25
  clear k0_0 k0_1 k0_2
  have k0_0 := hs26.cellAt 0 rfl 0 rfl
  have k0_1 := hs26.cellAt 0 rfl 1 rfl
  have k0_2 := hs26.cellAt 0 rfl 2 rfl
  have hw0 : IntKind.i64.wrap (2 + r0) = 2 + r0 := i64_in _ (by omega)
  go_wp2_with fail
  refine (pick_c 5 L B b (k + 1) _ HSR_27.out (by omega) (by omega) (by omega)).mono ?_
  rintro e w29 ⟨r1, rfl, hr2, hr3, hrw29, hbw29⟩
  obtain ⟨wz30, hs31, hz_wz30, hy_wz30, hc_wz30⟩ := hs26.cut hbw29 (by intro k hk; simp only [List.mem_singleton] at hk; omega)
  have hz_w29 : w24.heap.size ≤ w29.heap.size := by have h9 := hbw29.size; (try simp at h9); omega
  have HSR_32 := Lib.hid hrw29
  clear HSR_27
  have HBT_33 := Lib.hid (HBT_28.out.trans hc_wz30)
  clear HBT_28
  clear hrw29 hc_wz30
  clear k0_0 k0_1 k0_2
  have k0_0 := hs31.cellAt 0 rfl 0 rfl
  have k0_1 := hs31.cellAt 0 rfl 1 rfl
  have k0_2 := hs31.cellAt 0 rfl 2 rfl
  have hw1 : IntKind.i64.wrap (1 + r1) = 1 + r1 := i64_in _ (by omega)
  have hs34 := hs31.alloc #[.int .i64 (2 + r0), .int .i64 (1 + r1), .slice none 0 0] 26 (n := w29.heap.size) (by simp)
  have HSR_35 := Lib.hid (Src.mono HSR_32.out (belowA _ (.cells #[.int .i64 (2 + r0), .int .i64 (1 + r1), .slice none 0 0] 26)))
  clear HSR_32
  clear k0_0 k0_1 k0_2
  have k0_0 := hs34.cellAt 0 rfl 0 rfl
  have k0_1 := hs34.cellAt 0 rfl 1 rfl
  have k0_2 := hs34.cellAt 0 rfl 2 rfl
  have k1_0 := hs34.cellAt 1 rfl 0 rfl
  have k1_1 := hs34.cellAt 1 rfl 1 rfl
  have k1_2 := hs34.cellAt 1 rfl 2 rfl
  go_wp2_with fail
  refine (pick_c 7 L B b (k + 1 + 1) _ HSR_35.out (by omega) (by omega) (by omega)).mono ?_
  rintro e w36 ⟨r2, rfl, hr4, hr5, hrw36, hbw36⟩
  obtain ⟨wz37, hs38, hz_wz37, hy_wz37, hc_wz37⟩ := hs34.cut hbw36 (by intro k hk; simp only [List.mem_singleton] at hk; omega)
  have hz_w36 : w29.heap.size + 1 ≤ w36.heap.size := by have h9 := hbw36.size; (try simp at h9); omega
  have HSR_39 := Lib.hid hrw36
  clear HSR_35
  have HBT_40 := Lib.hid (HBT_33.out.trans hc_wz37)
  clear HBT_33
  clear hrw36 hc_wz37
  clear k0_0 k0_1 k0_2 k1_0 k1_1 k1_2
  have k0_0 := hs38.cellAt 0 rfl 0 rfl
  have k0_1 := hs38.cellAt 0 rfl 1 rfl
  have k0_2 := hs38.cellAt 0 rfl 2 rfl
  have k1_0 := hs38.cellAt 1 rfl 0 rfl
  have k1_1 := hs38.cellAt 1 rfl 1 rfl
  have k1_2 := hs38.cellAt 1 rfl 2 rfl
  obtain ⟨K, rfl⟩ : ∃ K : Nat, r2 = K := ⟨r2.toNat, by omega⟩
  have hp : 2 + r0 = 2 ∨ 2 + r0 = 3 := by omega
  have hu0 : 1 ≤ 1 + r1 ∧ 1 + r1 ≤ 5 := by omega
  go_wp2_with fail
  clear hw0 hw1
  generalize 2 + r0 = p at *
  generalize 1 + r1 = u at *
  obtain ⟨U, rfl⟩ : ∃ U : Nat, u = U := ⟨u.toNat, by omega⟩
  have HST := Lib.hid hs38
  have HSR9 := Lib.hid HSR_39.out
  have HBT9 := Lib.hid HBT_40.out
  have hzz : w.heap.size + 1 ≤ w29.heap.size := by omega
  go_loopw [4] (fun i wl => ∃ (m n : Nat) (wz : World) (a : Option Addr) (c : Nat) (l : List Eqn), m + n = K ∧ i = .int .i64 n ∧ Hid (l.length = m ∧ ∀ e, e ∈ l → eqnOk p U e = true) ∧ Hid (w.heap.size ≤ wz.heap.size ∧ But [b] w wz) ∧ Hid (St wz (w29.heap.size + 1) wl [(w.heap.size, #[.int .i64 0, .int .i64 0, .slice none 0 0], 26), (w29.heap.size, #[.int .i64 p, .int .i64 U, .slice a m c], 26)]) ∧ Hid (AccP (fun z => w29.heap.size + 1 ≤ z ∧ z < wl.heap.size) 73 wl (.slice a m c) l) ∧ Hid (Src L B wl b (k + 3 + 100 * m))) (fun i _ => (intOf i).toNat)
  case atStart => exact ⟨0, K, wz37, none, 0, [], by omega, rfl, ⟨rfl, fun e he => by cases he⟩, ⟨by omega, HBT9.out⟩, HST.out, AccP.nil _ _ _, HSR9.out⟩
  case round =>
    clear HST HSR9 HBT9
    obtain ⟨m, n, wz, a, c, l, hmn, rfl, hl, hwz, hst, hac, hsr⟩ := hrel
    have HAC := hac
    have HSR := hsr
    have hwz1 := hwz.out.1
    have HBT := Lib.hid hwz.out.2
    have hs0 := hst.out
    have hszr := hst.out.hi
    have hlo0 := hst.out.lo
    have HLN := Lib.hid hl.out.1
    clear hac hsr
    have k0_0 := hs0.cellAt 0 rfl 0 rfl
    have k0_1 := hs0.cellAt 0 rfl 1 rfl
    have k0_2 := hs0.cellAt 0 rfl 2 rfl
    have k1_0 := hs0.cellAt 1 rfl 0 rfl
    have k1_1 := hs0.cellAt 1 rfl 1 rfl
    have k1_2 := hs0.cellAt 1 rfl 2 rfl
    by_cases hlt : 0 < n
    · have hltI : (0 : Int) < n := by omega
      have hdn : IntKind.i64.wrap ((n : Int) - 1) = ((n - 1 : Nat) : Int) := by rw [i64_in _ (by omega)]; omega
      go_upto_region 5 with fail
      refine wp_region_noPanic (wp_region_tree4 (fun w' => w'.cell? ⟨w.heap.size, 0, none⟩ = some (.int .i64 0) ∧ w'.cell? ⟨w.heap.size, 1, none⟩ = some (.int .i64 0) ∧ w'.cell? ⟨w.heap.size, 2, none⟩ = some (.slice none 0 0) ∧ w'.cell? ⟨w29.heap.size, 0, none⟩ = some (.int .i64 p) ∧ w'.cell? ⟨w29.heap.size, 1, none⟩ = some (.int .i64 U) ∧ w'.cell? ⟨w29.heap.size, 2, none⟩ = some (.slice a m c)) (.float 0 (.float 1 (.float 2 (.float 3 (.float 4 (.float 5 (.float 6 (.hard 7 (.hard 8 (.hard 9 (.float 10 (.last 11 .nil)))))))))))) (by kernel_rfl) (by kernel_rfl) (by kernel_rfl) rfl ?_ (fun _ _ _ _ _ h => h) ?_)
      · exact ⟨(hs0.drew).cellAt 0 rfl 0 rfl, (hs0.drew).cellAt 0 rfl 1 rfl, (hs0.drew).cellAt 0 rfl 2 rfl, (hs0.drew).cellAt 1 rfl 0 rfl, (hs0.drew).cellAt 1 rfl 1 rfl, (hs0.drew).cellAt 1 rfl 2 rfl⟩
      have hs41 := hs0.drew
      have HAC_42 := Lib.hid (AccP.mono HAC.out (belowD _))
      clear HAC
      have HSR_43 := Lib.hid (Src.mono HSR.out (belowD _))
      clear HSR
      clear k0_0 k0_1 k0_2 k1_0 k1_1 k1_2
      have hz_wd44 : wr.heap.size ≤ (wr.drew).heap.size := by simp
      generalize hgen_wd44 : wr.drew = wd44 at *
      have HG_wd44 := Lib.hid hgen_wd44
      clear hgen_wd44
      (repeat (first | (apply t4_skip rfl (by rfl); try simp only [Act.put, List.setIfInBounds_toArray, List.set_cons_zero, List.set_cons_succ]) | (apply t4_float rfl (by rfl); (· (intro w' hS; go_simp <;> with_reducible rfl)); (try simp only [Act.put, List.setIfInBounds_toArray, List.set_cons_zero, List.set_cons_succ]))))
      refine t4_hard rfl (by rfl) (fun K hK => ?_)
      go_wp2_with (go_at_call 61; refine (l07EquationDrawn_c p U L B b (k + 3 + 100 * m) _ HSR_43.out (by omega) (by omega) (by omega) (by omega)).mono ?_; rintro e w45 ⟨v0, ⟨el, er⟩, rfl, hfr, hok, hrw45, hbw45⟩)
      obtain ⟨wz46, hs47, hz_wz46, hy_wz46, hc_wz46⟩ := hs41.cut hbw45 (by intro k hk; simp only [List.mem_singleton] at hk; omega)
      have hz_w45 : wd44.heap.size ≤ w45.heap.size := by have h9 := hbw45.size; (try simp at h9); omega
      have HAC_48 := Lib.hid (AccP.butL HAC_42.out hbw45 (by intro k hk; simp only [List.mem_singleton] at hk; omega))
      clear HAC_42
      have HSR_49 := Lib.hid hrw45
      clear HSR_43
      have HBT_50 := Lib.hid (HBT.out.trans hc_wz46)
      clear HBT
      clear hrw45 hc_wz46
      have HFR := Lib.hid hfr
      have HOK := Lib.hid hok
      clear hfr hok
      refine ⟨⟨hs47.cellAt 0 rfl 0 rfl, hs47.cellAt 0 rfl 1 rfl, hs47.cellAt 0 rfl 2 rfl, hs47.cellAt 1 rfl 0 rfl, hs47.cellAt 1 rfl 1 rfl, hs47.cellAt 1 rfl 2 rfl⟩, ?_⟩
      (repeat (first | (apply t4_skip rfl (by rfl); try simp only [Act.put, List.setIfInBounds_toArray, List.set_cons_zero, List.set_cons_succ]) | (apply t4_float rfl (by rfl); (· (intro w' hS; go_simp <;> with_reducible rfl)); (try simp only [Act.put, List.setIfInBounds_toArray, List.set_cons_zero, List.set_cons_succ]))))
      refine t4_hard rfl (by rfl) (fun K hK => ?_)
      go_wp2_with fail
      have hs51 := hs47.alloc #[v0, .int .i64 er] 73 (n := w45.heap.size) (by simp)
      have HAC_52 := Lib.hid (AccP.mono HAC_48.out (belowA _ (.cells #[v0, .int .i64 er] 73)))
      clear HAC_48
      have HSR_53 := Lib.hid (Src.mono HSR_49.out (belowA _ (.cells #[v0, .int .i64 er] 73)))
      clear HSR_49
      have HFR_54 := Lib.hid (Fresh.mono HFR.out (belowA _ (.cells #[v0, .int .i64 er] 73)))
      clear HFR
      refine ⟨⟨hs51.cellAt 0 rfl 0 rfl, hs51.cellAt 0 rfl 1 rfl, hs51.cellAt 0 rfl 2 rfl, hs51.cellAt 1 rfl 0 rfl, hs51.cellAt 1 rfl 1 rfl, hs51.cellAt 1 rfl 2 rfl⟩, ?_⟩
      (repeat (first | (apply t4_skip rfl (by rfl); try simp only [Act.put, List.setIfInBounds_toArray, List.set_cons_zero, List.set_cons_succ]) | (apply t4_float rfl (by rfl); (· (intro w' hS; go_simp <;> with_reducible rfl)); (try simp only [Act.put, List.setIfInBounds_toArray, List.set_cons_zero, List.set_cons_succ]))))
      refine t4_hard rfl (by rfl) (fun K hK => ?_)
      have hsW := hs51.hi
      refine wp_append_accP _ _ _ _ rfl E_eqns rfl HAC_52.out (HFR_54.out.ip) (fun z h1 h2 => by have h3 := h1.2; have h4 := h2.1; omega) ⟨w45.heap.size, 0, none⟩ 1 rfl (news2 (hs51.cellAt 2 rfl 0 rfl) (hs51.cellAt 2 rfl 1 rfl)) (by rw [HLN.out]; omega) ?_
      simp only [HLN.out]
      intro a8 c8 w8 hA8 hB8
      have hz8 := hB8.size
      have hs8 := hs51.butP hB8 (fun z hz => by have := hz.1; omega) (fun x hx hA => by have h1 := hA.1; have h2 := hA.2; simp at hx; rcases hx with rfl | rfl | rfl <;> (try simp only at h1 h2) <;> omega)
      have HA8 := Lib.hid (AccP.wk hA8.tight (C := fun z => w29.heap.size + 1 ≤ z ∧ z < w8.heap.size) (fun z hz => ⟨by
        rcases hz.1 with h | h | h
        · exact h.1
        · have h4 := h.1; omega
        · rw [h]; (try simp); omega, hz.2⟩))
      have HR8 := Lib.hid (Src.below (B := B) HSR_53.out (hB8.below (fun z hz => by have := hz.1; omega) (by (try simp); omega)))
      have HBT8 := Lib.hid HBT_50.out
      clear hA8
      clear HAC_52
      clear HFR_54
      clear HSR_53
      clear HBT_50
      refine hK _ _ ⟨⟨hs8.cellAt 0 rfl 0 rfl, hs8.cellAt 0 rfl 1 rfl, hs8.cellAt 0 rfl 2 rfl, hs8.cellAt 1 rfl 0 rfl, hs8.cellAt 1 rfl 1 rfl, hs8.cellAt 1 rfl 2 rfl⟩, ?_⟩
      (repeat (first | (apply t4_skip rfl (by rfl); try simp only [Act.put, List.setIfInBounds_toArray, List.set_cons_zero, List.set_cons_succ]) | (apply t4_float rfl (by rfl); (· (intro w' hS; go_simp <;> with_reducible rfl)); (try simp only [Act.put, List.setIfInBounds_toArray, List.set_cons_zero, List.set_cons_succ]))))
      refine t4_last rfl (by rfl) (fun K hK => ?_)
      have k0_0 := hs8.cellAt 0 rfl 0 rfl
      have k0_1 := hs8.cellAt 0 rfl 1 rfl
      have k0_2 := hs8.cellAt 0 rfl 2 rfl
      have k1_0 := hs8.cellAt 1 rfl 0 rfl
      have k1_1 := hs8.cellAt 1 rfl 1 rfl
      have k1_2 := hs8.cellAt 1 rfl 2 rfl
      have k2_0 := hs8.cellAt 2 rfl 0 rfl
      have k2_1 := hs8.cellAt 2 rfl 1 rfl
      have hs55 := hs8.low (B' := w29.heap.size + 1) (bx' := [(w.heap.size, #[.int .i64 0, .int .i64 0, .slice none 0 0], 26), (w29.heap.size, #[.int .i64 p, .int .i64 U, .slice a m c], 26)]) (by omega) (by (try simp) <;> omega) (fun x hx => by simp only [List.mem_cons, List.not_mem_nil, or_false] at hx; rcases hx with rfl | rfl <;> (refine ⟨?_, ?_⟩ <;> (try simp) <;> (try omega)))
      have f2 := (hs55.freeAt 1 rfl 2)
      have hq := hs55.set (p := [_]) (by simp <;> omega) 2 (.slice a8 (m + 1) c8)
      have HQ := Lib.hid hq
      have HA9 := Lib.hid (AccP.wk (AccP.setCell HA8.out (b := w29.heap.size) (o := 2) (.slice a8 (m + 1) c8) (by simp <;> omega)) (C := fun z => w29.heap.size + 1 ≤ z ∧ z < (w8.setCell ⟨w29.heap.size, 2, none⟩ (.slice a8 (m + 1) c8)).heap.size) (fun z hz => by simpa [World.setCell] using hz))
      have HR9 := Lib.hid (Src.below HR8.out ((Below.refl B w8).setCell (p := ⟨w29.heap.size, 2, none⟩) (by (try simp); omega) (.slice a8 (m + 1) c8)))
      clear hq
      go_wp2_with fail
      refine t4_nil (NoPanic.normal ?_)
      go_wp2_with fail
      go_roundw
      case rel =>
        refine ⟨m + 1, n - 1, wz46, a8, c8, l ++ [(el, er)], by omega, rfl, ⟨by simp [HLN.out], fun e he => ?_⟩, ⟨by omega, HBT8.out⟩, HQ.out, HA9.out, HR9.out.more (by omega)⟩
        rcases List.mem_append.1 he with he | he
        · exact hl.out.2 e he
        · simp only [List.mem_singleton] at he; subst he; exact HOK.out
      case measure => simp [intOf]; omega
    · obtain rfl : n = 0 := by omega
      obtain rfl : m = K := by omega
      have f0_0 := hs0.freeAt 0 rfl 0
      have f0_1 := hs0.freeAt 0 rfl 1
      have f0_2 := hs0.freeAt 0 rfl 2
      go_wp2_with fail
      have HFR := Lib.hid (HAC.out.ip.fresh (lo := w.heap.size) (fun k hk => by have := hk.1; omega))
      have hs9 := ((hs0.set (p := []) (by simp <;> omega) 0 (.int .i64 p)).set (p := []) (by simp <;> omega) 1 (.int .i64 U)).set (p := []) (by simp <;> omega) 2 (.slice a m c)
      have x0 := hs9.cellAt 0 rfl 0 rfl
      have x1 := hs9.cellAt 0 rfl 1 rfl
      have x2 := hs9.cellAt 0 rfl 2 rfl
      have HSF := Lib.hid (((HSR.out.below ((Below.refl B _).setCell (p := ⟨w.heap.size, 0, none⟩) (by simp; omega) (.int .i64 p))).below ((Below.refl B _).setCell (p := ⟨w.heap.size, 1, none⟩) (by simp; omega) (.int .i64 U))).below ((Below.refl B _).setCell (p := ⟨w.heap.size, 2, none⟩) (by simp; omega) (.slice a m c)))
      have HAS := AccP.setCell (AccP.setCell (AccP.setCell HAC.out (b := w.heap.size) (o := 0) (.int .i64 p) (by simp; omega)) (b := w.heap.size) (o := 1) (.int .i64 U) (by simp; omega)) (b := w.heap.size) (o := 2) (.slice a m c) (by simp; omega)
      refine bodyPost_ret (v := .agg #[.int .i64 p, .int .i64 U, .slice a m c]) (by simp [results, Tryz.results23, go_sem, x0, x1, x2]) rfl ⟨p, U, .slice a m c, l, rfl, ?_, ⟨validS_of hp (by omega) (by omega) (by rw [HLN.out]; omega) hl.out.2, by omega, by rw [HLN.out]; omega⟩, HSF.out.more (by omega), HBT.out.trans (but_of hs9.bel)⟩
      exact fresh_sys ⟨by omega, by omega⟩ ⟨by omega, by omega⟩ (HAS.ip.fresh (fun k hk => by have := hk.1; omega))
set_option maxRecDepth 100000 in
set_option maxHeartbeats 4000000 in
theorem A2System_c (a : Option Addr) (n c : Nat) (l : List Byte) (w : World) (h : Rd w [.slice a n c] l) :
    Calls Tryz.prog 5 #[.slice a n c] w fun e w' => ∃ (p : Int) (U : Nat) (v : Value) (l : List Eqn), e = .returned (.agg #[.int .i64 p, .int .i64 U, v]) ∧ Fresh w.heap.size w' [.int .i64 p, .int .i64 U, v] ((p, (U : Int), l) : Sys) ∧ (validS (p, (U : Int), l) = true ∧ U ≤ 5 ∧ l.length ≤ 6) ∧ Below w.heap.size w w' := by
  have H := Lib.hid h
  clear h
  have hs56 := (St.start w).alloc #[.int .i64 0, .int .i64 0, .slice none 0 0] 26 (n := w.heap.size) (by simp)
  have k0_0 := hs56.cellAt 0 rfl 0 rfl
  have k0_1 := hs56.cellAt 0 rfl 1 rfl
  have k0_2 := hs56.cellAt 0 rfl 2 rfl
  go_enter Tryz.func5, Tryz.ntmps5
  have hsz9 : (w.alloc (.cells #[.int .i64 0, .int .i64 0, .slice none 0 0] 26)).heap.size = w.heap.size + 1 := by simp
  go_wp2_with fail
  refine (l00From_c a n c l _ (Rd.mono H.out hs56.bel)).mono ?_
  rintro e w1 ⟨rfl, hsr, hb1⟩
  rw [hsz9] at hsr ⊢
  clear hsz9
  have HSR := Lib.hid hsr
  clear hsr
  have hz_w1 : w.heap.size + 1 ≤ w1.heap.size := by have h9 := hb1.size; (try simp at h9); omega
  have hs57 := hs56.step hb1
  clear k0_0 k0_1 k0_2
  have k0_0 := hs57.cellAt 0 rfl 0 rfl
  have k0_1 := hs57.cellAt 0 rfl 1 rfl
  have k0_2 := hs57.cellAt 0 rfl 2 rfl
  have hlt1 := HSR.out.lt
  go_wp2_with fail
  refine (l07Drawn_c _ _ _ 0 _ HSR.out (by omega) (by omega)).mono ?_
  rintro e w2 ⟨p, U, v, l2, rfl, hfr, hv, hsr2, hbut⟩
  have hs9 := hs57.butIv hbut (fun k hk => by simp only [List.mem_singleton] at hk; omega) (fun x hx => by simp at hx; rcases hx with rfl; simp)
  have f0 := hs9.freeAt 0 rfl 0
  have f1 := hs9.freeAt 0 rfl 1
  have f2 := hs9.freeAt 0 rfl 2
  have k0 := hs9.cellAt 0 rfl 0 rfl
  have k1 := hs9.cellAt 0 rfl 1 rfl
  have k2 := hs9.cellAt 0 rfl 2 rfl
  have HFR := Lib.hid (((hfr.setCell (a := ⟨w.heap.size, 0, none⟩) (by (try simp); omega) (.int .i64 p)).setCell (a := ⟨w.heap.size, 1, none⟩) (by (try simp); omega) (.int .i64 U)).setCell (a := ⟨w.heap.size, 2, none⟩) (by (try simp); omega) v |>.lower (lo' := w.heap.size) (by omega))
  obtain ⟨av, cv, rfl, _⟩ := rd_list (rd_cons rfl (rd_cons rfl hfr.rd).2).2
  clear hfr
  have hsQ := ((hs9.set (p := []) (by simp <;> omega) 0 (.int .i64 p)).set (p := []) (by simp <;> omega) 1 (.int .i64 U)).set (p := []) (by simp <;> omega) 2 (.slice av l2.length cv)
  have x0 := hsQ.cellAt 0 rfl 0 rfl
  have x1 := hsQ.cellAt 0 rfl 1 rfl
  have x2 := hsQ.cellAt 0 rfl 2 rfl
  go_wp2_with fail
  exact bodyPost_ret (v := .agg #[.int .i64 p, .int .i64 U, .slice av l2.length cv]) (by simp [results, Tryz.results5, go_sem, x0, x1, x2]) rfl ⟨p, U, _, l2, rfl, HFR.out, hv, hsQ.bel⟩
theorem a2Long_c (a a' : Option Addr) (n c n' c' : Nat) (w : World) (h : n ≤ maxLen) (h' : n' ≤ maxLen) :
    Calls Tryz.prog 4 #[.slice a n c, .slice a' n' c'] w fun e w' => e = .returned (.bool (decide (3000 < n) || decide (3000 < n'))) ∧ w = w' := by
  unfold maxLen at h h'
  go_enter Tryz.func4, Tryz.ntmps4
  by_cases h1 : 3000 < n
  · have h2 : (3000 : Int) < n := by omega
    go_wp2_with fail
    go_ret
    exact ⟨ret_bool (by simp [h1]), rfl⟩
  · have h2 : ¬ (3000 : Int) < n := by omega
    by_cases h3 : 3000 < n'
    · have h4 : (3000 : Int) < n' := by omega
      go_wp2_with fail
      go_ret
      exact ⟨ret_bool (by simp [h3]), rfl⟩
    · have h4 : ¬ (3000 : Int) < n' := by omega
      go_wp2_with fail
      go_ret
      exact ⟨ret_bool (by simp [h1, h3]), rfl⟩

end Go.Proofs.YthceklaoikeokaaGreatDoor
