/-
  CONTRACTS: the reference's source of choices; drawn equations and systems.
-/
import Derived.Test.YtamkfnkikiekaaaGreatSrcPRa
import Derived.Test.YtamkfnkikiekaaaGreatSysBRa
namespace Go.Proofs.YtamkfnkikiekaaaGreat
open Go.RowKit Go.Shelf Go.IntWalk
open Rep (Rd Own sz)
set_option linter.unusedSimpArgs false
set_option linter.unusedVariables false

theorem u8_i64 {v : Int} (h0 : 0 ≤ v) (h1 : v ≤ 255) : IntKind.i64.wrap v = v := i64_in _ (by omega)
theorem and255 (x : Int) : 0 ≤ bits .and .u64 x 255 ∧ bits .and .u64 x 255 ≤ 255 := by
  have h : (BitVec.ofInt 64 x &&& BitVec.ofInt 64 255).toNat ≤ 255 := by
    rw [BitVec.toNat_and]; exact Nat.le_trans Nat.and_le_right (by decide)
  have e : bits .and .u64 x 255 = IntKind.u64.wrap (((BitVec.ofInt 64 x &&& BitVec.ofInt 64 255).toNat : Nat) : Int) := rfl
  rw [e]
  generalize (BitVec.ofInt 64 x &&& BitVec.ofInt 64 255).toNat = m at *
  have e2 : IntKind.u64.wrap (m : Int) = m := by
    simp [IntKind.wrap, IntKind.signed, IntKind.bits]
    omega
  rw [e2]; omega
theorem wrap64_id {n : Int} (h0 : 0 ≤ n) (h1 : n ≤ 255) : wrap64 n = n := by unfold wrap64; omega
set_option maxRecDepth 100000 in
set_option maxHeartbeats 4000000 in
theorem l00From_c (a : Option Addr) (n c : Nat) (l : List Byte) (w : World) (h : Rd w [.slice a n c] l) :
    Calls Tryz.prog 17 #[.slice a n c] w fun e w' => e = .returned (.pointer (some ⟨w.heap.size, 0, none⟩)) ∧ Src w.heap.size (w.heap.size + 1) w' w.heap.size 0 ∧ Below w.heap.size w w' := by
  have hB := byt_of h
  have hn : n = l.length := hB.2.1
  clear h
  generalize l.length = m at *
  subst hn
  go_enter Tryz.func17, Tryz.ntmps17
  go_wp2_with fail
  go_ret
  have hb : Below w.heap.size w (w.alloc (.cells #[.slice a n c, .int .i64 0, .int .u64 0] 81)) := belowA w _
  exact ⟨rfl, ⟨Nat.le_refl _, Nat.lt_succ_self _, a, n, c, 0, 0, _, heap_alloc_at _ _ rfl, Nat.le_refl _, hB.2.2, hB.1.below hb⟩, hb⟩
set_option maxRecDepth 100000 in
set_option maxHeartbeats 4000000 in
theorem next_c (L B b k : Nat) (w : World) (h : Src L B w b k) (hk : k ≤ 1000000000) :
    Calls Tryz.prog 66 #[.pointer (some ⟨b, 0, none⟩)] w fun e w' => ∃ v : Int, e = .returned (.int .i64 v) ∧ 0 ≤ v ∧ v ≤ 255 ∧ Src L B w' b (k + 1) ∧ But [b] w w' := by
  obtain ⟨h1, h2, a, n, c, q, s, t, h3, h4, h5, h6⟩ := h
  have HB := Lib.hid h6
  have H3 := Lib.hid h3
  have c0 : w.cell? ⟨b, 0, none⟩ = some (.slice a n c) := by rw [cell_at_block h3]; rfl
  have c1 : w.cell? ⟨b, 1, none⟩ = some (.int .i64 q) := by rw [cell_at_block h3]; rfl
  have f1 : w.frozen? ⟨b, 1, none⟩ = false := free_at_block h3
  clear h3 h6
  unfold maxLen at h5
  go_enter Tryz.func66, Tryz.ntmps66
  have hq1 : IntKind.i64.wrap ((q : Int) + 1) = ((q + 1 : Nat) : Int) := by rw [i64_in _ (by omega)]; omega
  -- the rest, from the fourth region on
  by_cases hlt : q < n
  · obtain ⟨g, o, v, rfl, hg, hc, hv0, hv1⟩ := HB.out q hlt
    have hwv := u8_i64 hv0 hv1
    have hl2 : (q : Int) < n := by omega
    go_wp2_with fail
    refine wp_region_noPanic (wp_region_el (fun w' => w'.cell? ⟨b, 0, none⟩ = some (.slice (some ⟨g, o, none⟩) n c) ∧ w'.cell? ⟨b, 1, none⟩ = some (.int .i64 q)) [(0, 0), (1, 0), (2, 0), (3, 0), (4, 0), (5, 0), (6, 0), (7, 0), (8, 0), (9, 0)] (by kernel_rfl) (by kernel_rfl) (by kernel_rfl) rfl ?_ (fun _ _ _ _ _ h => h) ?_)
    · exact ⟨cellL (belowD _) c0, cellL (belowD _) c1⟩
    (repeat (first | (apply el_skip rfl (by rfl); try simp only [Act.put, List.setIfInBounds_toArray, List.set_cons_zero, List.set_cons_succ]) | (apply el_float rfl (by rfl); (· (intro w' hS; go_simp <;> with_reducible rfl)); (try simp only [Act.put, List.setIfInBounds_toArray, List.set_cons_zero, List.set_cons_succ]))))
    refine el_nil (NoPanic.normal ?_)
    go_wp2_with fail
    refine wp_region_noPanic (wp_region_el (fun w' => w'.cell? ⟨b, 0, none⟩ = some (.slice (some ⟨g, o, none⟩) n c) ∧ w'.cell? ⟨b, 1, none⟩ = some (.int .i64 q) ∧ w'.cell? ⟨g, o + q, none⟩ = some (.int .u8 v)) [(0, 0), (1, 0), (2, 0), (3, 0), (4, 0), (5, 0), (6, 0), (7, 0), (8, 0), (9, 0), (10, 0), (11, 0)] (by kernel_rfl) (by kernel_rfl) (by kernel_rfl) rfl ?_ (fun _ _ _ _ _ h => h) ?_)
    · exact ⟨cellL (belowD _) (cellL (belowD _) c0), cellL (belowD _) (cellL (belowD _) c1), cellL (belowD _) (cellL (belowD _) hc)⟩
    (repeat (first | (apply el_skip rfl (by rfl); try simp only [Act.put, List.setIfInBounds_toArray, List.set_cons_zero, List.set_cons_succ]) | (apply el_float rfl (by rfl); (· (intro w' hS; go_simp <;> with_reducible rfl)); (try simp only [Act.put, List.setIfInBounds_toArray, List.set_cons_zero, List.set_cons_succ]))))
    refine el_nil (NoPanic.normal ?_)
    have H4 := Lib.hid (show w.drew.drew.heap[b]? = _ from H3.out)
    generalize hgw : w.drew.drew = w1 at *
    clear c0 c1 f1 hc
    have c1 : w1.cell? ⟨b, 1, none⟩ = some (.int .i64 q) := by rw [cell_at_block H4.out]; rfl
    have c2 : w1.cell? ⟨b, 2, none⟩ = some (.int .u64 s) := by rw [cell_at_block H4.out]; rfl
    have f1 : w1.frozen? ⟨b, 1, none⟩ = false := free_at_block H4.out
    have f2 : w1.frozen? ⟨b, 2, none⟩ = false := free_at_block H4.out
    go_wp2_with fail
    generalize hs2 : IntKind.u64.wrap (IntKind.u64.wrap (IntKind.u64.wrap (s * 6364136223846793005) + v) + 1442695040888963407) = s2
    have hbut : But [b] w ((w1.setCell ⟨b, 1, none⟩ (.int .i64 ((q : Int) + 1))).setCell ⟨b, 2, none⟩ (.int .u64 s2)) := by
      rw [← hgw]
      exact ((but_of (belowD w)).trans (but_of (belowD _))).trans (((OnlyAt.refl [b] w.drew.drew).setCell (p := ⟨b, 1, none⟩) (by simp) _).setCell (p := ⟨b, 2, none⟩) (by simp) _).but
    have H5 := Lib.hid (heap_setCell_at _ b 2 (.int .u64 s2) _ _ _ (heap_setCell_at w1 b 1 (.int .i64 ((q : Int) + 1)) _ _ _ H4.out))
    have HBUT := Lib.hid hbut
    clear c1 c2 f1 f2 hbut hgw H4
    generalize hgw2 : (w1.setCell ⟨b, 1, none⟩ (.int .i64 ((q : Int) + 1))).setCell ⟨b, 2, none⟩ (.int .u64 s2) = w2 at *
    clear hgw2
    have c0 : w2.cell? ⟨b, 0, none⟩ = some (.slice (some ⟨g, o, none⟩) n c) := by rw [cell_at_block H5.out]; rfl
    have c1 : w2.cell? ⟨b, 1, none⟩ = some (.int .i64 ((q : Int) + 1)) := by rw [cell_at_block H5.out]; rfl
    have c2 : w2.cell? ⟨b, 2, none⟩ = some (.int .u64 s2) := by rw [cell_at_block H5.out]; rfl
    have hle : (q : Int) + 1 ≤ n := by omega
    refine wp_region_noPanic (wp_region_el (fun w' => w'.cell? ⟨b, 0, none⟩ = some (.slice (some ⟨g, o, none⟩) n c) ∧ w'.cell? ⟨b, 1, none⟩ = some (.int .i64 ((q : Int) + 1))) [(0, 0), (1, 0), (2, 0), (3, 0), (4, 0), (5, 0), (6, 0), (7, 0), (8, 0), (9, 0)] (by kernel_rfl) (by kernel_rfl) (by kernel_rfl) rfl ?_ (fun _ _ _ _ _ h => h) ?_)
    · exact ⟨cellL (belowD _) c0, cellL (belowD _) c1⟩
    (repeat (first | (apply el_skip rfl (by rfl); try simp only [Act.put, List.setIfInBounds_toArray, List.set_cons_zero, List.set_cons_succ]) | (apply el_float rfl (by rfl); (· (intro w' hS; go_simp <;> with_reducible rfl)); (try simp only [Act.put, List.setIfInBounds_toArray, List.set_cons_zero, List.set_cons_succ]))))
    refine el_nil (NoPanic.normal ?_)
    clear c0 c1
    have c2 := cellL (belowD _) c2
    go_wp2_with fail
    go_ret
    refine ⟨v, rfl, hv0, hv1, ⟨h1, h2, some ⟨g, o, none⟩, n, c, q + 1, s2, t, H5.out, by omega, ?_, ?_⟩, HBUT.out.trans (but_of (belowD _))⟩
    · unfold maxLen; omega
    · exact fun i hi => by
        obtain ⟨g', o', v', ha, hg', hc', hv'⟩ := HB.out i hi
        exact ⟨g', o', v', ha, hg', cellK (cellK hc' (HBUT.out.block _ (World.block_lt_of_cell? w _ hc') (by simp; omega))) rfl, hv'⟩
  · have hl2 : ¬ (q : Int) < n := by omega
    go_wp2_with fail
    refine wp_region_noPanic (wp_region_el (fun w' => w'.cell? ⟨b, 0, none⟩ = some (.slice a n c) ∧ w'.cell? ⟨b, 1, none⟩ = some (.int .i64 q)) [(0, 0), (1, 0), (2, 0), (3, 0), (4, 0), (5, 0), (6, 0), (7, 0), (8, 0), (9, 0)] (by kernel_rfl) (by kernel_rfl) (by kernel_rfl) rfl ?_ (fun _ _ _ _ _ h => h) ?_)
    · exact ⟨cellL (belowD _) c0, cellL (belowD _) c1⟩
    (repeat (first | (apply el_skip rfl (by rfl); try simp only [Act.put, List.setIfInBounds_toArray, List.set_cons_zero, List.set_cons_succ]) | (apply el_float rfl (by rfl); (· (intro w' hS; go_simp <;> with_reducible rfl)); (try simp only [Act.put, List.setIfInBounds_toArray, List.set_cons_zero, List.set_cons_succ]))))
    refine el_nil (NoPanic.normal ?_)
    have H4 := Lib.hid (show w.drew.heap[b]? = _ from H3.out)
    generalize hgw : w.drew = w1 at *
    clear c0 c1 f1
    have c1 : w1.cell? ⟨b, 1, none⟩ = some (.int .i64 q) := by rw [cell_at_block H4.out]; rfl
    have c2 : w1.cell? ⟨b, 2, none⟩ = some (.int .u64 s) := by rw [cell_at_block H4.out]; rfl
    have f1 : w1.frozen? ⟨b, 1, none⟩ = false := free_at_block H4.out
    have f2 : w1.frozen? ⟨b, 2, none⟩ = false := free_at_block H4.out
    go_wp2_with fail
    generalize hs2 : IntKind.u64.wrap (IntKind.u64.wrap (IntKind.u64.wrap (s * 6364136223846793005)) + 1442695040888963407) = s2
    have hbut : But [b] w ((w1.setCell ⟨b, 1, none⟩ (.int .i64 ((q : Int) + 1))).setCell ⟨b, 2, none⟩ (.int .u64 s2)) := by
      rw [← hgw]
      exact (but_of (belowD w)).trans (((OnlyAt.refl [b] w.drew).setCell (p := ⟨b, 1, none⟩) (by simp) _).setCell (p := ⟨b, 2, none⟩) (by simp) _).but
    have H5 := Lib.hid (heap_setCell_at _ b 2 (.int .u64 s2) _ _ _ (heap_setCell_at w1 b 1 (.int .i64 ((q : Int) + 1)) _ _ _ H4.out))
    have HBUT := Lib.hid hbut
    clear c1 c2 f1 f2 hbut hgw H4
    generalize hgw2 : (w1.setCell ⟨b, 1, none⟩ (.int .i64 ((q : Int) + 1))).setCell ⟨b, 2, none⟩ (.int .u64 s2) = w2 at *
    clear hgw2
    have c0 : w2.cell? ⟨b, 0, none⟩ = some (.slice a n c) := by rw [cell_at_block H5.out]; rfl
    have c1 : w2.cell? ⟨b, 1, none⟩ = some (.int .i64 ((q : Int) + 1)) := by rw [cell_at_block H5.out]; rfl
    have c2 : w2.cell? ⟨b, 2, none⟩ = some (.int .u64 s2) := by rw [cell_at_block H5.out]; rfl
    have hle : (q : Int) + 1 > n := by omega
    refine wp_region_noPanic (wp_region_el (fun w' => w'.cell? ⟨b, 0, none⟩ = some (.slice a n c) ∧ w'.cell? ⟨b, 1, none⟩ = some (.int .i64 ((q : Int) + 1))) [(0, 0), (1, 0), (2, 0), (3, 0), (4, 0), (5, 0), (6, 0), (7, 0), (8, 0), (9, 0)] (by kernel_rfl) (by kernel_rfl) (by kernel_rfl) rfl ?_ (fun _ _ _ _ _ h => h) ?_)
    · exact ⟨cellL (belowD _) c0, cellL (belowD _) c1⟩
    (repeat (first | (apply el_skip rfl (by rfl); try simp only [Act.put, List.setIfInBounds_toArray, List.set_cons_zero, List.set_cons_succ]) | (apply el_float rfl (by rfl); (· (intro w' hS; go_simp <;> with_reducible rfl)); (try simp only [Act.put, List.setIfInBounds_toArray, List.set_cons_zero, List.set_cons_succ]))))
    refine el_nil (NoPanic.normal ?_)
    clear c0 c1
    have c2 := cellL (belowD _) c2
    go_wp2_with fail
    go_ret
    refine ⟨_, rfl, ?_, ?_, ⟨h1, h2, a, n, c, q + 1, s2, t, H5.out, by omega, ?_, ?_⟩, HBUT.out.trans (but_of (belowD _))⟩
    · have h9 := and255 (s2 / 1099511627776)
      rw [wrap64_id h9.1 h9.2]; exact h9.1
    · have h9 := and255 (s2 / 1099511627776)
      rw [wrap64_id h9.1 h9.2]; exact h9.2
    · unfold maxLen; omega
    · exact fun i hi => by
        obtain ⟨g', o', v', ha, hg', hc', hv'⟩ := HB.out i hi
        exact ⟨g', o', v', ha, hg', cellK (cellK hc' (HBUT.out.block _ (World.block_lt_of_cell? w _ hc') (by simp; omega))) rfl, hv'⟩
set_option maxRecDepth 100000 in
set_option maxHeartbeats 4000000 in
theorem pick_c (n : Int) (L B b k : Nat) (w : World) (h : Src L B w b k) (hk : k ≤ 1000000000) (h0 : 2 ≤ n) (h1 : n ≤ 200) :
    Calls Tryz.prog 38 #[.pointer (some ⟨b, 0, none⟩), .int .i64 n] w fun e w' => ∃ v : Int, e = .returned (.int .i64 v) ∧ 0 ≤ v ∧ v < n ∧ Src L B w' b (k + 1) ∧ But [b] w w' := by
  have H := Lib.hid h
  clear h
  go_enter Tryz.func38, Tryz.ntmps38
  have hn1 : ¬ n ≤ 1 := by omega
  have hn2 : ¬ 200 < n := by omega
  have hn3 : n ≠ 0 := by omega
  go_wp2_with fail
  refine (next_c L B b k _ H.out hk).mono ?_
  rintro e w1 ⟨v, rfl, hv0, hv1, hs, hb⟩
  have hT : v.tmod n = v % n := Int.tmod_eq_emod_of_nonneg hv0
  have hE0 := Int.emod_nonneg v hn3
  have hE1 := Int.emod_lt_of_pos v (show 0 < n by omega)
  have hw2 : IntKind.i64.wrap (v % n) = v % n := i64_in _ (by omega)
  have HS := Lib.hid hs
  have HB := Lib.hid hb
  clear hs hb
  go_wp2_with fail
  go_ret
  exact ⟨v % n, rfl, hE0, hE1, HS.out, HB.out⟩
set_option maxRecDepth 100000 in
set_option maxHeartbeats 4000000 in
theorem one_c (n : Int) (L B b k : Nat) (w : World) (h : Src L B w b k) (hk : k ≤ 1000000000) (h0 : 2 ≤ n) (h1 : n ≤ 200) :
    Calls Tryz.prog 39 #[.pointer (some ⟨b, 0, none⟩), .int .i64 n] w fun e w' => ∃ v : Bool, e = .returned (.bool v) ∧ Src L B w' b (k + 1) ∧ But [b] w w' := by
  have H := Lib.hid h
  clear h
  go_enter Tryz.func39, Tryz.ntmps39
  go_wp2_with fail
  refine (pick_c n L B b k _ H.out hk h0 h1).mono ?_
  rintro e w1 ⟨v, rfl, hv0, hv1, hs, hb⟩
  have HS := Lib.hid hs
  have HB := Lib.hid hb
  clear hs hb
  go_wp2_with fail
  go_ret
  exact ⟨_, rfl, HS.out, HB.out⟩

end Go.Proofs.YtamkfnkikiekaaaGreat

