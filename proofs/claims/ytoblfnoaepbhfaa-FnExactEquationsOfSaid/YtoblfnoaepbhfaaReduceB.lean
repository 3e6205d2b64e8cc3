/-
  CONTRACTS: ReduceSystem, the reference's side; both.
-/
import Derived.Test.YtoblfnoaepbhfaaAccP
import Derived.Test.YtoblfnoaepbhfaaReduce
import Derived.Test.YtoblfnoaepbhfaaRaw
import Derived.Test.YtoblfnoaepbhfaaBase
namespace Go.Proofs.Ytoblfnoaepbhfaa
open Go.RowKit Go.Shelf Go.IntWalk
open Rep (Rd Own sz)
set_option linter.unusedSimpArgs false
set_option linter.unusedVariables false

/-- The rows as they are owned, one by one. -/
theorem fresh_rows {lo : Nat} {w : World} {g n c : Nat} {R : List SRow} (h : Fresh lo w [.slice (some ⟨g, 0, none⟩) n c] R) :
    ∃ rss : List (List Nat), rss.length = R.length ∧ (List.flatten rss).Nodup ∧ (∀ k, k ∈ List.flatten rss → lo ≤ k ∧ k < w.heap.size) ∧
      ∀ i (hi : i < R.length), ∃ p p1 v0 v2, rss[i]? = some p ∧ (∀ k, k ∈ p1 → k ∈ p) ∧ p1.Nodup ∧ Own p1 w [v0] R[i].1 ∧ I64 R[i].2.1 ∧ w.cell? ⟨g, i * 3, none⟩ = some v0 ∧ w.cell? ⟨g, i * 3 + 1, none⟩ = some (.int .i64 R[i].2.1) ∧ w.cell? ⟨g, i * 3 + 2, none⟩ = some v2 := by
  obtain ⟨ps, ⟨v, e, ho⟩, hnd, hlo⟩ := h
  obtain rfl : .slice (some ⟨g, 0, none⟩) n c = v := by simpa using e
  have hlt := Rep.own_lt (α := List SRow) (ps := ps) (w := w) (vs := [.slice (some ⟨g, 0, none⟩) n c]) (x := R) ⟨_, rfl, ho⟩
  rcases ho with ⟨rfl, rfl, _⟩ | ⟨g', o', c', cur, e', pss, hv, _, _, hh, rfl, h5, h6⟩
  · exact ⟨[], rfl, by simp, by simp, fun i hi => absurd hi (Nat.not_lt_zero _)⟩
  · simp only [Value.slice.injEq, Option.some.injEq, Addr.mk.injEq, and_true] at hv
    obtain ⟨⟨rfl, rfl⟩, rfl, rfl⟩ := hv
    refine ⟨pss, h5, (List.nodup_cons.1 hnd).2, fun k hk => ⟨hlo k (List.mem_cons_of_mem _ hk), hlt k (List.mem_cons_of_mem _ hk)⟩, fun i hi => ?_⟩
    obtain ⟨p, vs, hp, hO, hc⟩ := h6 i hi
    have hl := Rep.rd_len (Rep.own_rd hO)
    match vs, hl with
    | [v0, v1, v2], _ =>
      obtain ⟨p1, q1, rfl, ho1, ho2⟩ := own_cons rfl hO
      obtain ⟨p2, q2, rfl, ho3, _⟩ := own_cons rfl ho2
      obtain ⟨_, e1, hI⟩ := ho3
      obtain rfl : v1 = .int .i64 R[i].2.1 := by simpa using e1
      have hpn : (p1 ++ (p2 ++ q2)).Nodup := by
        have h7 := (List.nodup_cons.1 hnd).2
        exact (List.pairwise_flatten.1 h7).1 _ (List.mem_of_getElem? hp)
      refine ⟨_, p1, v0, v2, hp, fun k hk => by simp [hk], (List.nodup_append.1 hpn).1, ho1, hI, ?_, ?_, ?_⟩
      · rw [cell_at_block hh]; have := hc 0 (by simp); simpa using this
      · rw [cell_at_block hh]; have := hc 1 (by simp); simpa using this
      · rw [cell_at_block hh]; have := hc 2 (by simp); simpa using this
theorem flat_nodup {rss pss : List (List Nat)} (h : (List.flatten rss).Nodup) (hs : ∀ (i : Nat) p, pss[i]? = some p → p.Nodup ∧ ∃ q, rss[i]? = some q ∧ ∀ k, k ∈ p → k ∈ q) : (List.flatten pss).Nodup := by
  refine nodup_of_disj (fun k p hp => (hs k p hp).1) (fun a b p q hab hp hq k hk hkq => ?_)
  obtain ⟨_, p', hp', hs1⟩ := hs a p hp
  obtain ⟨_, q', hq', hs2⟩ := hs b q hq
  have h2 := (List.pairwise_flatten.1 h).2
  rw [List.pairwise_iff_getElem] at h2
  obtain ⟨ha, ea⟩ := List.getElem?_eq_some_iff.1 hp'
  obtain ⟨hb, eb⟩ := List.getElem?_eq_some_iff.1 hq'
  rcases Nat.lt_or_gt_of_ne hab with h3 | h3
  · exact h2 a b ha hb h3 k (by rw [ea]; exact hs1 k hk) k (by rw [eb]; exact hs2 k hkq) rfl
  · exact h2 b a hb ha h3 k (by rw [eb]; exact hs2 k hkq) k (by rw [ea]; exact hs1 k hk) rfl
theorem accP_of_row {α : Type} [Rep α] {A : Nat → Prop} {e : TypeId} {w : World} {v : Value} {l : List α} {xs : List Value} {pss : List (List Nat)} (h : w.ownsRow 0 e (sz α) v l.length xs) (hp : pss.length = l.length)
    (hel : ∀ i (hi : i < l.length), ∃ p vs, pss[i]? = some p ∧ Own p w vs l[i] ∧ ∀ k, k < vs.length → xs[i * sz α + k]? = vs[k]?) (hn : (v.ownBlock.toList ++ List.flatten pss).Nodup) (hA : ∀ k, k ∈ v.ownBlock.toList ++ List.flatten pss → A k) : AccP A e w v l := by
  have ho : Own (v.ownBlock.toList ++ List.flatten pss) w [v] l := ⟨_, rfl, ownSl_of_row h hp hel⟩
  exact ⟨xs, pss, h, hp, hn, fun k hk => ⟨hA k hk, Rep.own_lt ho k hk⟩, hel⟩
set_option maxRecDepth 100000 in
set_option maxHeartbeats 8000000 in
theorem l07ReducedA_c (x : Sys) (sb : Nat) (v0 v1 v2 : Value) (w : World) (hx : Rd w [v0, v1, v2] x) (c0 : w.cell? ⟨sb, 0, none⟩ = some v0) (c1 : w.cell? ⟨sb, 1, none⟩ = some v1) (c2 : w.cell? ⟨sb, 2, none⟩ = some v2) (hok : validS x = true) :
    Calls Try.prog 58 #[.pointer (some ⟨sb, 0, none⟩)] w fun e w' => ∃ a n c, e = .returned (.agg #[.int .i64 x.1, .int .i64 x.2.1, .slice a n c]) ∧ AccP (fun z => w.heap.size ≤ z) 114 w' (.slice a n c) (reducedF x).2.2 ∧ n = (reducedF x).2.2.length ∧ Below w.heap.size w w' := by
  obtain ⟨p, u, l⟩ := x
  have HX := Lib.hid hx
  have z := rd_cons rfl hx
  obtain ⟨rfl, hIp⟩ := rd_i1 z.1
  have z2 := rd_cons rfl z.2
  obtain ⟨rfl, hIu⟩ := rd_i1 z2.1
  obtain ⟨a, c, rfl, _⟩ := rd_list z2.2
  have HK := Lib.hid hok
  have KO := Lib.hid (elim_ok hok)
  clear hx z z2 hok
  have hu2 := KO.out.hu
  simp only at hu2
  obtain ⟨U, hU⟩ : ∃ U : Nat, u = U := ⟨u.toNat, by omega⟩
  subst hU
  have c0_ := cellL (St.start w).bel c0
  clear c0_
  have c0_ := cellL (St.start w).bel c0
  have c1_ := cellL (St.start w).bel c1
  clear c0_ c1_
  have c0_ := cellL (St.start w).bel c0
  have c1_ := cellL (St.start w).bel c1
  have c2_ := cellL (St.start w).bel c2
  have hs1 := (St.start w).alloc #[.int .i64 0, .int .i64 0, .slice none 0 0] 28 (n := w.heap.size) (by simp)
  clear c0_ c1_ c2_
  have k0_0 := hs1.cellAt 0 rfl 0 rfl
  have k0_1 := hs1.cellAt 0 rfl 1 rfl
  have k0_2 := hs1.cellAt 0 rfl 2 rfl
  have c0_ := cellL hs1.bel c0
  have c1_ := cellL hs1.bel c1
  have c2_ := cellL hs1.bel c2
  go_enter Try.func58, Try.ntmps58
  go_wp2_with fail
  refine (l07Reduce_c (p, (U : Int), l) _ _ _ _ _ (Rd.mono HX.out hs1.bel) c0_ c1_ c2_ HK.out).mono ?_
  rintro e w2 ⟨g4, c4, rfl, fr, hbw2⟩
  have hz_w2 : w.heap.size + 1 ≤ w2.heap.size := by have h9 := hbw2.size; (try simp at h9); omega
  have hs3 := hs1.step hbw2
  clear k0_0 k0_1 k0_2 c0_ c1_ c2_
  have k0_0 := hs3.cellAt 0 rfl 0 rfl
  have k0_1 := hs3.cellAt 0 rfl 1 rfl
  have k0_2 := hs3.cellAt 0 rfl 2 rfl
  have c0_ := cellL hs3.bel c0
  have c1_ := cellL hs3.bel c1
  have c2_ := cellL hs3.bel c2
  have FR := Lib.hid (show Fresh (w.heap.size + 1) w2 [.slice (some ⟨g4, 0, none⟩) l.length c4] (elimS (p, (U : Int), l)).1 by simpa using fr)
  clear fr
  obtain ⟨wB, hwB⟩ : ∃ x, x = w2 := ⟨_, rfl⟩
  subst hwB
  have HS1 := Lib.hid hs3
  have HBL := Lib.hid (Below.refl wB.heap.size wB)
  go_upto_region 2 with fail
  go_cut [5] from 12 to 60 (fun x5 wx => ∃ g gL, x5 = .pointer (some ⟨g, 0, none⟩) ∧ Hid (St w wx.heap.size wx [(w.heap.size, #[.int .i64 0, .int .i64 0, .slice none 0 0], 28), (g, #[.int .i64 p, .int .i64 U, .slice (some ⟨gL, 0, none⟩) 0 0], 28)]) ∧ Hid (wx.ownsRow 0 114 2 (.slice (some ⟨gL, 0, none⟩) 0 0) 0 []) ∧ Hid (Below wB.heap.size wB wx ∧ g ≠ gL ∧ wB.heap.size ≤ g ∧ wB.heap.size ≤ gL ∧ g < wx.heap.size ∧ gL < wx.heap.size))
  case first =>
    refine wp_region_noPanic (wp_region_tree4 (fun w' => w'.cell? ⟨w.heap.size, 0, none⟩ = some (.int .i64 0) ∧ w'.cell? ⟨w.heap.size, 1, none⟩ = some (.int .i64 0) ∧ w'.cell? ⟨w.heap.size, 2, none⟩ = some (.slice none 0 0) ∧ w'.cell? ⟨sb, 0, none⟩ = some (.int .i64 p) ∧ w'.cell? ⟨sb, 1, none⟩ = some (.int .i64 U) ∧ w'.cell? ⟨sb, 2, none⟩ = some (.slice a l.length c)) (.float 0 (.float 1 (.float 2 (.float 3 (.float 4 (.float 5 (.float 6 (.float 7 (.fork2 8 (.float 9 (.hard 10 (.last 11 .nil))) 10 (.hard 8 (.float 9 (.last 11 .nil)))))))))))) (by kernel_rfl) (by kernel_rfl) (by kernel_rfl) rfl ?_ (fun _ _ _ _ _ h => h) ?_)
    · exact ⟨(hs3.drew).cellAt 0 rfl 0 rfl, (hs3.drew).cellAt 0 rfl 1 rfl, (hs3.drew).cellAt 0 rfl 2 rfl, cellL (hs3.drew).bel c0, cellL (hs3.drew).bel c1, cellL (hs3.drew).bel c2⟩
    have hs4 := hs3.drew
    have HBL_5 := Lib.hid (HBL.out.trans (((belowD _)).mono HBL.out.size))
    clear HBL
    clear k0_0 k0_1 k0_2 c0_ c1_ c2_
    have hz_wd6 : wB.heap.size ≤ (wB.drew).heap.size := by simp
    generalize hgen_wd6 : wB.drew = wd6 at *
    have HG_wd6 := Lib.hid hgen_wd6
    clear hgen_wd6
    (repeat (first | (apply t4_skip rfl (by rfl); try simp only [Act.put, List.setIfInBounds_toArray, List.set_cons_zero, List.set_cons_succ]) | (apply t4_float rfl (by rfl); (· (intro w' hS; go_simp <;> with_reducible rfl)); (try simp only [Act.put, List.setIfInBounds_toArray, List.set_cons_zero, List.set_cons_succ]))))
    refine t4_fork2 ?_ ?_
    · refine t4_hard rfl (by rfl) (fun K hK => ?_)
      go_wp2_with fail
      have HROW := Lib.hid (row_made (size := 2) wd6 114)
      have hs7 := hs4.alloc #[] 114 (n := wd6.heap.size) (by simp)
      have HBL_8 := Lib.hid (HBL_5.out.trans (((belowA _ (.cells #[] 114))).mono HBL_5.out.size))
      clear HBL_5
      have hz_wL : wd6.heap.size + 1 ≤ ((wd6.alloc (.cells #[] 114))).heap.size := by simp
      generalize hgen_wL : (wd6.alloc (.cells #[] 114)) = wL at *
      clear hgen_wL
      refine ⟨⟨hs7.cellAt 0 rfl 0 rfl, hs7.cellAt 0 rfl 1 rfl, hs7.cellAt 0 rfl 2 rfl, cellL hs7.bel c0, cellL hs7.bel c1, cellL hs7.bel c2⟩, ?_⟩
      (repeat (first | (apply t4_skip rfl (by rfl); try simp only [Act.put, List.setIfInBounds_toArray, List.set_cons_zero, List.set_cons_succ]) | (apply t4_float rfl (by rfl); (· (intro w' hS; go_simp <;> with_reducible rfl)); (try simp only [Act.put, List.setIfInBounds_toArray, List.set_cons_zero, List.set_cons_succ]))))
      refine t4_hard rfl (by rfl) (fun K hK => ?_)
      go_wp2_with fail
      have hs9 := hs7.alloc #[.int .i64 0, .int .i64 0, .slice none 0 0] 28 (n := wL.heap.size) (by simp)
      have HBL_10 := Lib.hid (HBL_8.out.trans (((belowA _ (.cells #[.int .i64 0, .int .i64 0, .slice none 0 0] 28))).mono HBL_8.out.size))
      clear HBL_8
      have HROW_11 := Lib.hid (ownsRow_below HROW.out (belowA _ (.cells #[.int .i64 0, .int .i64 0, .slice none 0 0] 28)))
      clear HROW
      have hz_wA : wL.heap.size + 1 ≤ ((wL.alloc (.cells #[.int .i64 0, .int .i64 0, .slice none 0 0] 28))).heap.size := by simp
      generalize hgen_wA : (wL.alloc (.cells #[.int .i64 0, .int .i64 0, .slice none 0 0] 28)) = wA at *
      clear hgen_wA
      refine ⟨⟨hs9.cellAt 0 rfl 0 rfl, hs9.cellAt 0 rfl 1 rfl, hs9.cellAt 0 rfl 2 rfl, cellL hs9.bel c0, cellL hs9.bel c1, cellL hs9.bel c2⟩, ?_⟩
      (repeat (first | (apply t4_skip rfl (by rfl); try simp only [Act.put, List.setIfInBounds_toArray, List.set_cons_zero, List.set_cons_succ]) | (apply t4_float rfl (by rfl); (· (intro w' hS; go_simp <;> with_reducible rfl)); (try simp only [Act.put, List.setIfInBounds_toArray, List.set_cons_zero, List.set_cons_succ]))))
      refine t4_last rfl (by rfl) (fun K hK => ?_)
      have k0_0 := hs9.cellAt 0 rfl 0 rfl
      have k0_1 := hs9.cellAt 0 rfl 1 rfl
      have k0_2 := hs9.cellAt 0 rfl 2 rfl
      have k2_0 := hs9.cellAt 2 rfl 0 rfl
      have k2_1 := hs9.cellAt 2 rfl 1 rfl
      have k2_2 := hs9.cellAt 2 rfl 2 rfl
      have c0_ := cellL hs9.bel c0
      have c1_ := cellL hs9.bel c1
      have c2_ := cellL hs9.bel c2
      have f0 := (hs9.freeAt 2 rfl 0)
      have f1 := (hs9.freeAt 2 rfl 1)
      have f2 := (hs9.freeAt 2 rfl 2)
      have hgG := (hs9.box (wL.heap.size, #[.int .i64 0, .int .i64 0, .slice none 0 0], 28) (by simp)).2.1
      have hgL := (hs9.box (wd6.heap.size, #[], 114) (by simp)).2.1
      have hgH := hs9.hi
      simp only at hgG hgL
      have hq := ((hs9.set (p := [_, _]) (by simp <;> omega) 0 (.int .i64 p)).set (p := [_, _]) (by simp <;> omega) 1 (.int .i64 U)).set (p := [_, _]) (by simp <;> omega) 2 (.slice (some ⟨wd6.heap.size, 0, none⟩) 0 0)
      go_wp2_with fail
      refine t4_nil (NoPanic.normal ?_)
      go_wp2_with fail
      go_meet
      case rel =>
        have ho := (((OnlyAt.refl [wL.heap.size] wA).setCell (p := ⟨wL.heap.size, 0, none⟩) (by simp) (.int .i64 p)).setCell (p := ⟨wL.heap.size, 1, none⟩) (by simp) (.int .i64 U)).setCell (p := ⟨wL.heap.size, 2, none⟩) (by simp) (.slice (some ⟨wd6.heap.size, 0, none⟩) 0 0)
        refine ⟨wL.heap.size, wd6.heap.size, rfl, (hq.up hq.hi (Nat.le_refl _)).sub (fun x hx => ?_), row_frame HROW_11.out (fun k hk => ho.block k (by simp [Value.ownBlock] at hk ⊢; omega)), ⟨HBL_10.out.trans (ho.below (by simp; omega)), by omega, by omega, by omega, by rw [ho.size]; omega, by rw [ho.size]; omega⟩⟩
        simp only [List.mem_cons, List.not_mem_nil, or_false] at hx
        rcases hx with rfl | rfl <;> simp
    · refine t4_hard rfl (by rfl) (fun K hK => ?_)
      go_wp2_with fail
      have hs12 := hs4.alloc #[.int .i64 0, .int .i64 0, .slice none 0 0] 28 (n := wd6.heap.size) (by simp)
      have HBL_13 := Lib.hid (HBL_5.out.trans (((belowA _ (.cells #[.int .i64 0, .int .i64 0, .slice none 0 0] 28))).mono HBL_5.out.size))
      clear HBL_5
      have hz_wA : wd6.heap.size + 1 ≤ ((wd6.alloc (.cells #[.int .i64 0, .int .i64 0, .slice none 0 0] 28))).heap.size := by simp
      generalize hgen_wA : (wd6.alloc (.cells #[.int .i64 0, .int .i64 0, .slice none 0 0] 28)) = wA at *
      clear hgen_wA
      refine ⟨⟨hs12.cellAt 0 rfl 0 rfl, hs12.cellAt 0 rfl 1 rfl, hs12.cellAt 0 rfl 2 rfl, cellL hs12.bel c0, cellL hs12.bel c1, cellL hs12.bel c2⟩, ?_⟩
      (repeat (first | (apply t4_skip rfl (by rfl); try simp only [Act.put, List.setIfInBounds_toArray, List.set_cons_zero, List.set_cons_succ]) | (apply t4_float rfl (by rfl); (· (intro w' hS; go_simp <;> with_reducible rfl)); (try simp only [Act.put, List.setIfInBounds_toArray, List.set_cons_zero, List.set_cons_succ]))))
      refine t4_hard rfl (by rfl) (fun K hK => ?_)
      go_wp2_with fail
      have HROW := Lib.hid (row_made (size := 2) wA 114)
      have hs14 := hs12.alloc #[] 114 (n := wA.heap.size) (by simp)
      have HBL_15 := Lib.hid (HBL_13.out.trans (((belowA _ (.cells #[] 114))).mono HBL_13.out.size))
      clear HBL_13
      have hz_wL : wA.heap.size + 1 ≤ ((wA.alloc (.cells #[] 114))).heap.size := by simp
      generalize hgen_wL : (wA.alloc (.cells #[] 114)) = wL at *
      clear hgen_wL
      refine ⟨⟨hs14.cellAt 0 rfl 0 rfl, hs14.cellAt 0 rfl 1 rfl, hs14.cellAt 0 rfl 2 rfl, cellL hs14.bel c0, cellL hs14.bel c1, cellL hs14.bel c2⟩, ?_⟩
      (repeat (first | (apply t4_skip rfl (by rfl); try simp only [Act.put, List.setIfInBounds_toArray, List.set_cons_zero, List.set_cons_succ]) | (apply t4_float rfl (by rfl); (· (intro w' hS; go_simp <;> with_reducible rfl)); (try simp only [Act.put, List.setIfInBounds_toArray, List.set_cons_zero, List.set_cons_succ]))))
      refine t4_last rfl (by rfl) (fun K hK => ?_)
      have k0_0 := hs14.cellAt 0 rfl 0 rfl
      have k0_1 := hs14.cellAt 0 rfl 1 rfl
      have k0_2 := hs14.cellAt 0 rfl 2 rfl
      have k1_0 := hs14.cellAt 1 rfl 0 rfl
      have k1_1 := hs14.cellAt 1 rfl 1 rfl
      have k1_2 := hs14.cellAt 1 rfl 2 rfl
      have c0_ := cellL hs14.bel c0
      have c1_ := cellL hs14.bel c1
      have c2_ := cellL hs14.bel c2
      have f0 := (hs14.freeAt 1 rfl 0)
      have f1 := (hs14.freeAt 1 rfl 1)
      have f2 := (hs14.freeAt 1 rfl 2)
      have hgG := (hs14.box (wd6.heap.size, #[.int .i64 0, .int .i64 0, .slice none 0 0], 28) (by simp)).2.1
      have hgL := (hs14.box (wA.heap.size, #[], 114) (by simp)).2.1
      have hgH := hs14.hi
      simp only at hgG hgL
      have hq := ((hs14.set (p := [_]) (by simp <;> omega) 0 (.int .i64 p)).set (p := [_]) (by simp <;> omega) 1 (.int .i64 U)).set (p := [_]) (by simp <;> omega) 2 (.slice (some ⟨wA.heap.size, 0, none⟩) 0 0)
      go_wp2_with fail
      refine t4_nil (NoPanic.normal ?_)
      go_wp2_with fail
      go_meet
      case rel =>
        have ho := (((OnlyAt.refl [wd6.heap.size] wL).setCell (p := ⟨wd6.heap.size, 0, none⟩) (by simp) (.int .i64 p)).setCell (p := ⟨wd6.heap.size, 1, none⟩) (by simp) (.int .i64 U)).setCell (p := ⟨wd6.heap.size, 2, none⟩) (by simp) (.slice (some ⟨wA.heap.size, 0, none⟩) 0 0)
        refine ⟨wd6.heap.size, wA.heap.size, rfl, (hq.up hq.hi (Nat.le_refl _)).sub (fun x hx => ?_), row_frame HROW.out (fun k hk => ho.block k (by simp [Value.ownBlock] at hk ⊢; omega)), ⟨HBL_15.out.trans (ho.below (by simp; omega)), by omega, by omega, by omega, by rw [ho.size]; omega, by rw [ho.size]; omega⟩⟩
        simp only [List.mem_cons, List.not_mem_nil, or_false] at hx
        rcases hx with rfl | rfl <;> simp
  case rest =>
    obtain ⟨g, gL, rfl, hst, hrow, hx⟩ := hcut
    have HRD := Lib.hid (Rd.mono (Fresh.rd FR.out) hx.out.1)
    have hglt := hx.out.2.2.2.2
    have hsz1 : w.heap.size + 1 ≤ wB.heap.size := by have := HS1.out.hi; omega
    have hszc : wB.heap.size ≤ wc.heap.size := hx.out.1.size
    have k0_0 := hst.out.cellAt 0 rfl 0 rfl
    have k0_1 := hst.out.cellAt 0 rfl 1 rfl
    have k0_2 := hst.out.cellAt 0 rfl 2 rfl
    have k1_0 := hst.out.cellAt 1 rfl 0 rfl
    have k1_1 := hst.out.cellAt 1 rfl 1 rfl
    have k1_2 := hst.out.cellAt 1 rfl 2 rfl
    have c0_ := cellL hst.out.bel c0
    have c1_ := cellL hst.out.bel c1
    have c2_ := cellL hst.out.bel c2
    go_wp2_with fail
    refine (l07False_c (elimS (p, (U : Int), l)).1 _ _ _ HRD.out (by rw [KO.out.len]; exact KO.out.le) (by have := KO.out.len; have := KO.out.hl; omega)).mono ?_
    rintro e w16 ⟨rfl, rfl⟩
    rw [show falseF (elimS (p, (U : Int), l)).1 (elimS (p, (U : Int), l)).2.length = falseS (p, (U : Int), l) from rfl]
    have HROW := hrow
    by_cases hf : 0 ≤ falseS (p, (U : Int), l)
    · have HF := Lib.hid hf
      have hgne := hx.out.2.1
      have hgL := hx.out.2.2.2.1
      have hgG := hx.out.2.2.1
      go_upto_region 4 with fail
      refine wp_region_noPanic (wp_region_tree4 (fun w' => w'.cell? ⟨w.heap.size, 0, none⟩ = some (.int .i64 0) ∧ w'.cell? ⟨w.heap.size, 1, none⟩ = some (.int .i64 0) ∧ w'.cell? ⟨w.heap.size, 2, none⟩ = some (.slice none 0 0) ∧ w'.cell? ⟨g, 0, none⟩ = some (.int .i64 p) ∧ w'.cell? ⟨g, 1, none⟩ = some (.int .i64 U) ∧ w'.cell? ⟨g, 2, none⟩ = some (.slice (some ⟨gL, 0, none⟩) 0 0) ∧ w'.cell? ⟨sb, 0, none⟩ = some (.int .i64 p) ∧ w'.cell? ⟨sb, 1, none⟩ = some (.int .i64 U) ∧ w'.cell? ⟨sb, 2, none⟩ = some (.slice a l.length c)) (.float 0 (.float 1 (.float 2 (.float 3 (.float 4 (.float 5 (.hard 6 (.float 7 (.hard 8 (.hard 9 (.float 10 (.last 11 .nil)))))))))))) (by kernel_rfl) (by kernel_rfl) (by kernel_rfl) rfl ?_ (fun _ _ _ _ _ h => h) ?_)
      · exact ⟨(hst.out.drew).cellAt 0 rfl 0 rfl, (hst.out.drew).cellAt 0 rfl 1 rfl, (hst.out.drew).cellAt 0 rfl 2 rfl, (hst.out.drew).cellAt 1 rfl 0 rfl, (hst.out.drew).cellAt 1 rfl 1 rfl, (hst.out.drew).cellAt 1 rfl 2 rfl, cellL (hst.out.drew).bel c0, cellL (hst.out.drew).bel c1, cellL (hst.out.drew).bel c2⟩
      have hs17 := hst.out.drew
      have HROW_18 := Lib.hid (ownsRow_below HROW.out (belowD _))
      clear HROW
      clear k0_0 k0_1 k0_2 k1_0 k1_1 k1_2 c0_ c1_ c2_
      have hz_wd19 : wc.heap.size ≤ (wc.drew).heap.size := by simp
      generalize hgen_wd19 : wc.drew = wd19 at *
      have HG_wd19 := Lib.hid hgen_wd19
      clear hgen_wd19
      (repeat (first | (apply t4_skip rfl (by rfl); try simp only [Act.put, List.setIfInBounds_toArray, List.set_cons_zero, List.set_cons_succ]) | (apply t4_float rfl (by rfl); (· (intro w' hS; go_simp <;> with_reducible rfl)); (try simp only [Act.put, List.setIfInBounds_toArray, List.set_cons_zero, List.set_cons_succ]))))
      refine t4_hard rfl (by rfl) (fun K hK => ?_)
      refine wp_make_rep _ _ _ 104 rfl E_ints (0 : Int) own0_int U (by omega) rfl rfl ?_
      intro wM hownM hbM hzM
      have HOM : Hid (OwnSl [wd19.heap.size] wM (.slice (some ⟨wd19.heap.size, 0, none⟩) U U) (List.replicate U (0 : Int))) := Lib.hid (by simpa using hownM)
      have hgM : wd19.heap.size < wM.heap.size := by rw [hzM]; simp
      clear hownM hzM
      have hz_wM : wd19.heap.size ≤ wM.heap.size := by have h9 := hbM.size; (try simp at h9); omega
      have hs20 := hs17.step hbM
      have HROW_21 := Lib.hid (ownsRow_below HROW_18.out hbM)
      clear HROW_18
      refine hK _ _ ⟨⟨hs20.cellAt 0 rfl 0 rfl, hs20.cellAt 0 rfl 1 rfl, hs20.cellAt 0 rfl 2 rfl, hs20.cellAt 1 rfl 0 rfl, hs20.cellAt 1 rfl 1 rfl, hs20.cellAt 1 rfl 2 rfl, cellL hs20.bel c0, cellL hs20.bel c1, cellL hs20.bel c2⟩, ?_⟩
      (repeat (first | (apply t4_skip rfl (by rfl); try simp only [Act.put, List.setIfInBounds_toArray, List.set_cons_zero, List.set_cons_succ]) | (apply t4_float rfl (by rfl); (· (intro w' hS; go_simp <;> with_reducible rfl)); (try simp only [Act.put, List.setIfInBounds_toArray, List.set_cons_zero, List.set_cons_succ]))))
      refine t4_hard rfl (by rfl) (fun K hK => ?_)
      go_wp2_with fail
      have hs22 := hs20.alloc #[.slice (some ⟨wd19.heap.size, 0, none⟩) U U, .int .i64 1] 114 (n := wM.heap.size) (by simp)
      have HROW_23 := Lib.hid (ownsRow_below HROW_21.out (belowA _ (.cells #[.slice (some ⟨wd19.heap.size, 0, none⟩) U U, .int .i64 1] 114)))
      clear HROW_21
      have HOM_24 := Lib.hid (ownSl_mono HOM.out (belowA _ (.cells #[.slice (some ⟨wd19.heap.size, 0, none⟩) U U, .int .i64 1] 114)))
      clear HOM
      refine ⟨⟨hs22.cellAt 0 rfl 0 rfl, hs22.cellAt 0 rfl 1 rfl, hs22.cellAt 0 rfl 2 rfl, hs22.cellAt 1 rfl 0 rfl, hs22.cellAt 1 rfl 1 rfl, hs22.cellAt 1 rfl 2 rfl, cellL hs22.bel c0, cellL hs22.bel c1, cellL hs22.bel c2⟩, ?_⟩
      (repeat (first | (apply t4_skip rfl (by rfl); try simp only [Act.put, List.setIfInBounds_toArray, List.set_cons_zero, List.set_cons_succ]) | (apply t4_float rfl (by rfl); (· (intro w' hS; go_simp <;> with_reducible rfl)); (try simp only [Act.put, List.setIfInBounds_toArray, List.set_cons_zero, List.set_cons_succ]))))
      refine t4_hard rfl (by rfl) (fun K hK => ?_)
      refine wp_append_row _ _ _ _ rfl E_eqns (v := .slice (some ⟨gL, 0, none⟩) 0 0) rfl HROW_23.out (vs := [.slice (some ⟨wd19.heap.size, 0, none⟩) U U, .int .i64 1]) rfl (one_slice_int _ _ _ _) ⟨wM.heap.size, 0, none⟩ 1 rfl (news2 (hs22.cellAt 2 rfl 0 rfl) (hs22.cellAt 2 rfl 1 rfl)) (by omega) ?_
      intro gN cN wN hat hrowN hbutN hltN
      have hgN : gN = gL ∨ gN = wM.heap.size + 1 := by simpa [Value.ownBlock] using hat.imp Eq.symm id
      have hbutN : But [gL] (wM.alloc (.cells #[.slice (some ⟨wd19.heap.size, 0, none⟩) U U, .int .i64 1] 114)) wN := hbutN
      have HRN := Lib.hid (show wN.ownsRow 0 114 2 (.slice (some ⟨gN, 0, none⟩) 1 cN) 1 [.slice (some ⟨wd19.heap.size, 0, none⟩) U U, .int .i64 1] from hrowN)
      clear hat hrowN
      have hsN := hs22.butIv hbutN (fun k hk => by simp at hk; omega) (fun x hx => by simp at hx ⊢; rcases hx with rfl | rfl | rfl <;> simp <;> omega)
      clear HROW_23
      have hz_wN : wM.heap.size + 1 ≤ wN.heap.size := by have h9 := hbutN.size; (try simp at h9); omega
      have HOM_25 := Lib.hid (ownSl_but HOM_24.out hbutN (fun k hk => by (try simp at hk ⊢) <;> omega))
      clear HOM_24
      refine hK _ _ ⟨⟨hsN.cellAt 0 rfl 0 rfl, hsN.cellAt 0 rfl 1 rfl, hsN.cellAt 0 rfl 2 rfl, hsN.cellAt 1 rfl 0 rfl, hsN.cellAt 1 rfl 1 rfl, hsN.cellAt 1 rfl 2 rfl, cellL hsN.bel c0, cellL hsN.bel c1, cellL hsN.bel c2⟩, ?_⟩
      (repeat (first | (apply t4_skip rfl (by rfl); try simp only [Act.put, List.setIfInBounds_toArray, List.set_cons_zero, List.set_cons_succ]) | (apply t4_float rfl (by rfl); (· (intro w' hS; go_simp <;> with_reducible rfl)); (try simp only [Act.put, List.setIfInBounds_toArray, List.set_cons_zero, List.set_cons_succ]))))
      refine t4_last rfl (by rfl) (fun K hK => ?_)
      have k0_0 := hsN.cellAt 0 rfl 0 rfl
      have k0_1 := hsN.cellAt 0 rfl 1 rfl
      have k0_2 := hsN.cellAt 0 rfl 2 rfl
      have k1_0 := hsN.cellAt 1 rfl 0 rfl
      have k1_1 := hsN.cellAt 1 rfl 1 rfl
      have k1_2 := hsN.cellAt 1 rfl 2 rfl
      have k2_0 := hsN.cellAt 2 rfl 0 rfl
      have k2_1 := hsN.cellAt 2 rfl 1 rfl
      have c0_ := cellL hsN.bel c0
      have c1_ := cellL hsN.bel c1
      have c2_ := cellL hsN.bel c2
      have f2 := (hsN.freeAt 1 rfl 2)
      have hq := hsN.set (p := [_]) (by simp <;> omega) 2 (.slice (some ⟨gN, 0, none⟩) 1 cN)
      go_wp2_with fail
      refine t4_nil (NoPanic.normal ?_)
      have y0 := hq.cellAt 1 rfl 0 rfl
      have y1 := hq.cellAt 1 rfl 1 rfl
      have y2 := hq.cellAt 1 rfl 2 rfl
      have f3 := hq.freeAt 0 rfl 0
      have f4 := hq.freeAt 0 rfl 1
      have f5 := hq.freeAt 0 rfl 2
      have z0 := hq.cellAt 0 rfl 0 rfl
      have z1 := hq.cellAt 0 rfl 1 rfl
      have z2 := hq.cellAt 0 rfl 2 rfl
      have hq9 := ((hq.set (p := []) (by simp <;> omega) 0 (.int .i64 p)).set (p := []) (by simp <;> omega) 1 (.int .i64 U)).set (p := []) (by simp <;> omega) 2 (.slice (some ⟨gN, 0, none⟩) 1 cN)
      have x0 := hq9.cellAt 0 rfl 0 rfl
      have x1 := hq9.cellAt 0 rfl 1 rfl
      have x2 := hq9.cellAt 0 rfl 2 rfl
      go_wp2_with fail
      refine bodyPost_ret (v := .agg #[.int .i64 p, .int .i64 U, .slice (some ⟨gN, 0, none⟩) 1 cN]) (by simp [results, Try.results58, go_sem, x0, x1, x2]) rfl ⟨_, _, _, rfl, and_assoc.1 ⟨?_, hq9.bel⟩⟩
      rw [reducedF_yes HF.out]
      have hac0 : AccP (fun z => w.heap.size < z ∧ z ≠ g) 114 wN (.slice (some ⟨gN, 0, none⟩) 1 cN) [((List.replicate U 0, 1) : Eqn)] := accP_of_row (pss := [[wd19.heap.size]]) HRN.out rfl (fun i hi => by
        obtain rfl : i = 0 := by simp at hi; omega
        refine ⟨[wd19.heap.size], [.slice (some ⟨wd19.heap.size, 0, none⟩) U U, .int .i64 1], rfl, ?_, fun k hk => by simp⟩
        have h := mk_own (q := []) (x := List.replicate U (0 : Int)) (y := (1 : Int)) (w := wN) (p := [wd19.heap.size]) ⟨_, rfl, HOM_25.out⟩ ⟨rfl, rfl, ⟨by decide, by decide⟩⟩
        simpa using h) (by simp [Value.ownBlock]; omega) (fun k hk => by simp [Value.ownBlock] at hk; omega)
      exact ⟨((((hac0.setCell (b := g) (o := 2) (.slice (some ⟨gN, 0, none⟩) 1 cN) (by simp)).setCell (b := w.heap.size) (o := 0) (.int .i64 p) (by simp)).setCell (b := w.heap.size) (o := 1) (.int .i64 U) (by simp)).setCell (b := w.heap.size) (o := 2) (.slice (some ⟨gN, 0, none⟩) 1 cN) (by simp)).wk (fun z hz => Nat.le_of_lt hz.1), rfl⟩
    · have hm1 : falseS (p, (U : Int), l) < 0 := by omega
      have HF := Lib.hid hf
      have hle := KO.out.le
      have hlen := KO.out.len
      have hll := KO.out.hl
      have hp2 := KO.out.hp
      simp only at hle hlen hll hp2
      obtain ⟨rss, hr1, hr2, hr3, hr4⟩ := fresh_rows FR.out
      have ROWS := Lib.hid hr4
      have HR1 := Lib.hid hr1
      have HR2 := Lib.hid hr2
      have HR3 := Lib.hid hr3
      have hgne := hx.out.2.1
      have hgG := hx.out.2.2.1
      have HBC := Lib.hid hx.out.1
      have HLN := Lib.hid hlen
      have hL0 : Hid (gL ≠ g ∧ wB.heap.size ≤ gL ∧ gL < wc.heap.size) := Lib.hid ⟨fun h => hx.out.2.1 h.symm, hx.out.2.2.2.1, hx.out.2.2.2.2.2⟩
      have hst0 := hst
      clear hf hr1 hr2 hr3 hr4 hlen hx hst FR HS1 k0_0 k0_1 k0_2 k1_0 k1_1 k1_2
      go_wp2_with fail
      go_loopw [6] (fun i wl => ∃ (j gv cv : Nat) (xs : List Value) (pss : List (List Nat)), j ≤ (elimS (p, (U : Int), l)).2.length ∧ i = .int .i64 j ∧ Hid (St w wl.heap.size wl [(w.heap.size, #[.int .i64 0, .int .i64 0, .slice none 0 0], 28), (g, #[.int .i64 p, .int .i64 U, .slice (some ⟨gv, 0, none⟩) j cv], 28)]) ∧ Hid (wl.ownsRow 0 114 2 (.slice (some ⟨gv, 0, none⟩) j cv) j xs) ∧ Hid (gv ≠ g ∧ wB.heap.size ≤ gv ∧ gv < wl.heap.size) ∧ Hid (pss.length = j ∧ ∀ (i : Nat) p, pss[i]? = some p → p.Nodup ∧ ∃ q, rss[i]? = some q ∧ ∀ k, k ∈ p → k ∈ q) ∧ Hid (∀ i (hi : i < (redTo (elimS (p, (U : Int), l)).1 j).length), ∃ q vs, pss[i]? = some q ∧ Own q wB vs (redTo (elimS (p, (U : Int), l)).1 j)[i] ∧ ∀ k, k < vs.length → xs[i * 2 + k]? = vs[k]?) ∧ Hid (Below wB.heap.size wB wl)) (fun i _ => (elimS (p, (U : Int), l)).2.length - (intOf i).toNat)
      case atStart => exact ⟨0, gL, 0, [], [], Nat.zero_le _, rfl, hst0.out, hrow.out, hL0.out, ⟨rfl, fun i p h => by simp at h⟩, fun i hi => by simp [redTo] at hi, HBC.out⟩
      case round =>
        obtain ⟨j, gv, cv, xs, pss, hj, rfl, hst, hrw, hgv, hps, hel, hbl⟩ := hrel
        have hszr : wB.heap.size ≤ wr.heap.size := hbl.out.size
        have hgw := (hst.out.box (g, #[.int .i64 p, .int .i64 U, .slice (some ⟨gv, 0, none⟩) j cv], 28) (by simp)).2.1
        simp only at hgw
        have k0_0 := hst.out.cellAt 0 rfl 0 rfl
        have k0_1 := hst.out.cellAt 0 rfl 1 rfl
        have k0_2 := hst.out.cellAt 0 rfl 2 rfl
        have k1_0 := hst.out.cellAt 1 rfl 0 rfl
        have k1_1 := hst.out.cellAt 1 rfl 1 rfl
        have k1_2 := hst.out.cellAt 1 rfl 2 rfl
        have c0_ := cellL hst.out.bel c0
        have c1_ := cellL hst.out.bel c1
        have c2_ := cellL hst.out.bel c2
        by_cases hlt : j < (elimS (p, (U : Int), l)).2.length
        · have hjr : j < (elimS (p, (U : Int), l)).1.length := by rw [HLN.out]; omega
          have hjl : (j : Int) < l.length := by omega
          obtain ⟨pj, p1, vl, vb, hpj, hsub, hnd1, ho1, hI1, q0, q1, q2⟩ := ROWS.out j hjr
          have hgd := KO.out.good _ (List.getElem_mem hjr)
          have hlenj := hgd.len
          simp only [Int.toNat_natCast] at hlenj
          obtain ⟨al, cl, evl, _⟩ := rd_list (Rep.own_rd ho1)
          rw [hlenj] at evl
          subst evl
          have HST := Lib.hid (redTo_succ (elimS (p, (U : Int), l)).1 j hjr)
          have HO1 := Lib.hid (mk_own (q := []) ho1 (show Own [] wB [.int .i64 (elimS (p, (U : Int), l)).1[j].2.1] (elimS (p, (U : Int), l)).1[j].2.1 from ⟨rfl, rfl, hI1⟩))
          have HPJ := Lib.hid (show p1.Nodup ∧ ∃ q, rss[j]? = some q ∧ ∀ k, k ∈ p1 → k ∈ q from ⟨hnd1, pj, hpj, hsub⟩)
          have hg4 := World.block_lt_of_cell? wB _ q0
          simp only at hg4
          have r0 := cellL hbl.out q0
          have r1 := cellL hbl.out q1
          have HRW := hrw
          clear ho1 hlenj hgd hpj hsub hnd1 q0 q1 q2
          generalize hRV : (elimS (p, (U : Int), l)).1[j].2.1 = RV at *
          have HRV := Lib.hid hRV
          clear hRV
          have HBL := hbl
          go_upto_region 9 with fail
          refine wp_region_noPanic (wp_region_tree4 (fun w' => w'.cell? ⟨w.heap.size, 0, none⟩ = some (.int .i64 0) ∧ w'.cell? ⟨w.heap.size, 1, none⟩ = some (.int .i64 0) ∧ w'.cell? ⟨w.heap.size, 2, none⟩ = some (.slice none 0 0) ∧ w'.cell? ⟨g, 0, none⟩ = some (.int .i64 p) ∧ w'.cell? ⟨g, 1, none⟩ = some (.int .i64 U) ∧ w'.cell? ⟨g, 2, none⟩ = some (.slice (some ⟨gv, 0, none⟩) j cv) ∧ w'.cell? ⟨sb, 0, none⟩ = some (.int .i64 p) ∧ w'.cell? ⟨sb, 1, none⟩ = some (.int .i64 U) ∧ w'.cell? ⟨sb, 2, none⟩ = some (.slice a l.length c) ∧ w'.cell? ⟨g4, j * 3, none⟩ = some (.slice al U cl) ∧ w'.cell? ⟨g4, j * 3 + 1, none⟩ = some (.int .i64 RV)) (.float 0 (.float 1 (.float 2 (.float 3 (.float 4 (.float 5 (.float 6 (.float 7 (.float 8 (.float 9 (.float 10 (.float 11 (.float 12 (.hard 13 (.hard 14 (.float 15 (.last 16 .nil))))))))))))))))) (by kernel_rfl) (by kernel_rfl) (by kernel_rfl) rfl ?_ (fun _ _ _ _ _ h => h) ?_)
          · exact ⟨(hst.out.drew).cellAt 0 rfl 0 rfl, (hst.out.drew).cellAt 0 rfl 1 rfl, (hst.out.drew).cellAt 0 rfl 2 rfl, (hst.out.drew).cellAt 1 rfl 0 rfl, (hst.out.drew).cellAt 1 rfl 1 rfl, (hst.out.drew).cellAt 1 rfl 2 rfl, cellL (hst.out.drew).bel c0, cellL (hst.out.drew).bel c1, cellL (hst.out.drew).bel c2, cellL (belowD _) r0, cellL (belowD _) r1⟩
          have hs26 := hst.out.drew
          have r0_27 := cellL (belowD _) r0
          clear r0
          have r1_28 := cellL (belowD _) r1
          clear r1
          have HRW_29 := Lib.hid (ownsRow_below HRW.out (belowD _))
          clear HRW
          have HBL_30 := Lib.hid (HBL.out.trans (((belowD _)).mono HBL.out.size))
          clear HBL
          clear k0_0 k0_1 k0_2 k1_0 k1_1 k1_2 c0_ c1_ c2_
          have hz_wd31 : wr.heap.size ≤ (wr.drew).heap.size := by simp
          generalize hgen_wd31 : wr.drew = wd31 at *
          have HG_wd31 := Lib.hid hgen_wd31
          clear hgen_wd31
          (repeat (first | (apply t4_skip rfl (by rfl); try simp only [Act.put, List.setIfInBounds_toArray, List.set_cons_zero, List.set_cons_succ]) | (apply t4_float rfl (by rfl); (· (intro w' hS; go_simp <;> with_reducible rfl)); (try simp only [Act.put, List.setIfInBounds_toArray, List.set_cons_zero, List.set_cons_succ]))))
          refine t4_hard rfl (by rfl) (fun K hK => ?_)
          go_wp2_with fail
          have hs32 := hs26.alloc #[.slice al U cl, .int .i64 RV] 114 (n := wd31.heap.size) (by simp)
          have r0_33 := cellL (belowA _ (.cells #[.slice al U cl, .int .i64 RV] 114)) r0_27
          clear r0_27
          have r1_34 := cellL (belowA _ (.cells #[.slice al U cl, .int .i64 RV] 114)) r1_28
          clear r1_28
          have HRW_35 := Lib.hid (ownsRow_below HRW_29.out (belowA _ (.cells #[.slice al U cl, .int .i64 RV] 114)))
          clear HRW_29
          have HBL_36 := Lib.hid (HBL_30.out.trans (((belowA _ (.cells #[.slice al U cl, .int .i64 RV] 114))).mono HBL_30.out.size))
          clear HBL_30
          refine ⟨⟨hs32.cellAt 0 rfl 0 rfl, hs32.cellAt 0 rfl 1 rfl, hs32.cellAt 0 rfl 2 rfl, hs32.cellAt 1 rfl 0 rfl, hs32.cellAt 1 rfl 1 rfl, hs32.cellAt 1 rfl 2 rfl, cellL hs32.bel c0, cellL hs32.bel c1, cellL hs32.bel c2, r0_33, r1_34⟩, ?_⟩
          (repeat (first | (apply t4_skip rfl (by rfl); try simp only [Act.put, List.setIfInBounds_toArray, List.set_cons_zero, List.set_cons_succ]) | (apply t4_float rfl (by rfl); (· (intro w' hS; go_simp <;> with_reducible rfl)); (try simp only [Act.put, List.setIfInBounds_toArray, List.set_cons_zero, List.set_cons_succ]))))
          refine t4_hard rfl (by rfl) (fun K hK => ?_)
          refine wp_append_row _ _ _ _ rfl E_eqns (v := .slice (some ⟨gv, 0, none⟩) j cv) rfl HRW_35.out (vs := [.slice al U cl, .int .i64 RV]) rfl (one_slice_int _ _ _ _) ⟨wd31.heap.size, 0, none⟩ 1 rfl (news2 (hs32.cellAt 2 rfl 0 rfl) (hs32.cellAt 2 rfl 1 rfl)) (by omega) ?_
          intro gN cN wN hat hrowN hbutN hltN
          have hgN : gN = gv ∨ gN = wd31.heap.size + 1 := by simpa [Value.ownBlock] using hat.imp Eq.symm id
          have hbutN : But [gv] (wd31.alloc (.cells #[.slice al U cl, .int .i64 RV] 114)) wN := hbutN
          clear hat
          have hgv1 := hgv.out.1
          have hgv2 := hgv.out.2.1
          have hgv3 := hgv.out.2.2
          have hsN := hs32.butIv hbutN (fun k hk => by simp at hk; omega) (fun x hx => by simp at hx ⊢; rcases hx with rfl | rfl | rfl <;> simp <;> omega)
          have HRN := Lib.hid hrowN
          clear hrowN
          clear HRW_35
          have hz_wN : wd31.heap.size + 1 ≤ wN.heap.size := by have h9 := hbutN.size; (try simp at h9); omega
          have r0_37 := cellK r0_33 (hbutN.block _ (by (try simp) <;> omega) (by (try simp) <;> omega))
          clear r0_33
          have r1_38 := cellK r1_34 (hbutN.block _ (by (try simp) <;> omega) (by (try simp) <;> omega))
          clear r1_34
          have HBL_39 := Lib.hid (HBL_36.out.trans (hbutN.below (by (try simp) <;> omega) HBL_36.out.size))
          clear HBL_36
          refine hK _ _ ⟨⟨hsN.cellAt 0 rfl 0 rfl, hsN.cellAt 0 rfl 1 rfl, hsN.cellAt 0 rfl 2 rfl, hsN.cellAt 1 rfl 0 rfl, hsN.cellAt 1 rfl 1 rfl, hsN.cellAt 1 rfl 2 rfl, cellL hsN.bel c0, cellL hsN.bel c1, cellL hsN.bel c2, r0_37, r1_38⟩, ?_⟩
          (repeat (first | (apply t4_skip rfl (by rfl); try simp only [Act.put, List.setIfInBounds_toArray, List.set_cons_zero, List.set_cons_succ]) | (apply t4_float rfl (by rfl); (· (intro w' hS; go_simp <;> with_reducible rfl)); (try simp only [Act.put, List.setIfInBounds_toArray, List.set_cons_zero, List.set_cons_succ]))))
          refine t4_last rfl (by rfl) (fun K hK => ?_)
          have k0_0 := hsN.cellAt 0 rfl 0 rfl
          have k0_1 := hsN.cellAt 0 rfl 1 rfl
          have k0_2 := hsN.cellAt 0 rfl 2 rfl
          have k1_0 := hsN.cellAt 1 rfl 0 rfl
          have k1_1 := hsN.cellAt 1 rfl 1 rfl
          have k1_2 := hsN.cellAt 1 rfl 2 rfl
          have k2_0 := hsN.cellAt 2 rfl 0 rfl
          have k2_1 := hsN.cellAt 2 rfl 1 rfl
          have c0_ := cellL hsN.bel c0
          have c1_ := cellL hsN.bel c1
          have c2_ := cellL hsN.bel c2
          have f2 := (hsN.freeAt 1 rfl 2)
          have hq := hsN.set (p := [_]) (by simp <;> omega) 2 (.slice (some ⟨gN, 0, none⟩) (j + 1) cN)
          go_wp2_with fail
          refine t4_nil (NoPanic.normal ?_)
          go_wp2_with fail
          go_roundw
          case rel =>
            have ho := (OnlyAt.refl [g] wN).setCell (p := ⟨g, 2, none⟩) (by simp) (.slice (some ⟨gN, 0, none⟩) (j + 1) cN)
            have hlj := redTo_length (elimS (p, (U : Int), l)).1 j (by have := HLN.out; omega)
            have hnew := row_el_snoc (x := eqnOf (elimS (p, (U : Int), l)).1[j]) (xs := xs) (pss := pss) (w := wB) (us := [.slice al U cl, .int .i64 RV]) (q := p1 ++ []) (by rw [hlj]; exact hrw.out.1) (by rw [hlj]; exact hps.out.1) hel.out (by
              have h := HO1.out
              rw [← HRV.out] at h ⊢
              exact h)
            rw [← HST.out] at hnew
            refine ⟨j + 1, gN, cN, xs ++ [.slice al U cl, .int .i64 RV], pss ++ [p1 ++ []], hlt, by go_num, (hq.up (by have := hq.hi; exact this) (Nat.le_refl _)).sub (fun x hx => ?_), row_frame HRN.out (fun k hk => ho.block k ?_), ?_, ?_, Lib.hid hnew, HBL_39.out.setCell (by simpa using hgG) _⟩
            · simp only [List.mem_cons, List.not_mem_nil, or_false] at hx
              rcases hx with rfl | rfl <;> simp
            · simp only [Value.ownBlock, Option.some.injEq] at hk
              subst hk
              simp <;> omega
            · exact ⟨by omega, by omega, by rw [ho.size]; omega⟩
            · refine ⟨by simp [hps.out.1], fun i q hq => ?_⟩
              by_cases hi : i < pss.length
              · rw [List.getElem?_append_left hi] at hq; exact hps.out.2 i q hq
              · rw [List.getElem?_append_right (by omega)] at hq
                have h0 : i - pss.length = 0 := by
                  have := (List.getElem?_eq_some_iff.1 hq).1; simp at this; omega
                rw [h0] at hq
                simp only [List.getElem?_cons_zero, Option.some.injEq, List.append_nil] at hq
                subst hq
                obtain rfl : i = j := by have := hps.out.1; omega
                exact HPJ.out
          case measure => simp [intOf]; omega
        · obtain rfl : j = (elimS (p, (U : Int), l)).2.length := by omega
          have f0 := (hst.out.freeAt 0 rfl 0)
          have f1 := (hst.out.freeAt 0 rfl 1)
          have f2 := (hst.out.freeAt 0 rfl 2)
          have hgv1 := hgv.out.1
          have hgv2 := hgv.out.2.1
          have hgv3 := hgv.out.2.2
          have hq9 := ((hst.out.set (p := []) (by simp <;> omega) 0 (.int .i64 p)).set (p := []) (by simp <;> omega) 1 (.int .i64 U)).set (p := []) (by simp <;> omega) 2 (.slice (some ⟨gv, 0, none⟩) (elimS (p, (U : Int), l)).2.length cv)
          have x0 := hq9.cellAt 0 rfl 0 rfl
          have x1 := hq9.cellAt 0 rfl 1 rfl
          have x2 := hq9.cellAt 0 rfl 2 rfl
          go_wp2_with fail
          refine bodyPost_ret (v := .agg #[.int .i64 p, .int .i64 U, .slice (some ⟨gv, 0, none⟩) (elimS (p, (U : Int), l)).2.length cv]) (by simp [results, Try.results58, go_sem, x0, x1, x2]) rfl ⟨_, _, _, rfl, and_assoc.1 ⟨?_, hq9.bel⟩⟩
          rw [reducedF_no (by have := HF.out; omega)]
          have hlj := redTo_length (elimS (p, (U : Int), l)).1 (elimS (p, (U : Int), l)).2.length (by have := HLN.out; omega)
          have hin : ∀ k, k ∈ List.flatten pss → w.heap.size + 1 ≤ k ∧ k < wB.heap.size := fun k hk => by
            obtain ⟨q, hq, hkq⟩ := List.mem_flatten.1 hk
            obtain ⟨i, hi⟩ := List.mem_iff_getElem?.1 hq
            obtain ⟨_, r, hr, hs⟩ := hps.out.2 i q hi
            exact HR3.out k (List.mem_flatten.2 ⟨r, List.mem_of_getElem? hr, hs k hkq⟩)
          have hac0 : AccP (fun z => w.heap.size < z) 114 wr (.slice (some ⟨gv, 0, none⟩) (elimS (p, (U : Int), l)).2.length cv) (redTo (elimS (p, (U : Int), l)).1 (elimS (p, (U : Int), l)).2.length) := accP_of_row (pss := pss) (by rw [hlj]; exact hrw.out) (by rw [hlj]; exact hps.out.1) (fun i hi => by
            obtain ⟨q, vs, h1, h2, h3⟩ := hel.out i hi
            exact ⟨q, vs, h1, Own.mono h2 hbl.out, h3⟩) (by
            simp only [Value.ownBlock, Option.toList_some, List.singleton_append, List.nodup_cons]
            exact ⟨fun h => by have := hin _ h; omega, flat_nodup HR2.out hps.out.2⟩) (fun k hk => by
            simp only [Value.ownBlock, Option.toList_some, List.singleton_append, List.mem_cons] at hk
            rcases hk with rfl | hk
            · omega
            · have := hin k hk; omega)
          exact ⟨(((hac0.setCell (b := w.heap.size) (o := 0) (.int .i64 p) (by simp)).setCell (b := w.heap.size) (o := 1) (.int .i64 U) (by simp)).setCell (b := w.heap.size) (o := 2) (.slice (some ⟨gv, 0, none⟩) (elimS (p, (U : Int), l)).2.length cv) (by simp)).wk (fun z hz => Nat.le_of_lt hz), hlj.symm⟩
theorem fresh_sys {lo : Nat} {e : TypeId} {w : World} {p u : Int} {v : Value} {l : List Eqn} (hp : I64 p) (hu : I64 u) (h : AccP (fun z => lo ≤ z) e w v l) : Fresh lo w [.int .i64 p, .int .i64 u, v] ((p, u, l) : Sys) := by
  obtain ⟨ps, ho, hn, hA⟩ := h.ip
  exact ⟨[] ++ ([] ++ ps), mk_own (p := []) ⟨rfl, rfl, hp⟩ (mk_own (p := []) ⟨rfl, rfl, hu⟩ ho), by simpa using hn, fun k hk => hA k (by simpa using hk)⟩
theorem l07Reduced_c (x : Sys) (sb : Nat) (v0 v1 v2 : Value) (w : World) (hx : Rd w [v0, v1, v2] x) (c0 : w.cell? ⟨sb, 0, none⟩ = some v0) (c1 : w.cell? ⟨sb, 1, none⟩ = some v1) (c2 : w.cell? ⟨sb, 2, none⟩ = some v2) (hok : validS x = true) :
    Calls Try.prog 58 #[.pointer (some ⟨sb, 0, none⟩)] w fun e w' => ∃ a n c, e = .returned (.agg #[.int .i64 x.1, .int .i64 x.2.1, .slice a n c]) ∧ Fresh w.heap.size w' [.int .i64 x.1, .int .i64 x.2.1, .slice a n c] (reducedF x) ∧ Below w.heap.size w w' :=
  (l07ReducedA_c x sb v0 v1 v2 w hx c0 c1 c2 hok).mono fun e w' ⟨a, n, c, h1, h2, _, h4⟩ => ⟨a, n, c, h1, by
    have z := rd_cons rfl hx
    have z2 := rd_cons rfl z.2
    have h := fresh_sys (rd_i1 z.1).2 (rd_i1 z2.1).2 h2
    have e9 : reducedF x = (x.1, x.2.1, (reducedF x).2.2) := by unfold reducedF; rfl
    rw [e9]; exact h, h4⟩
theorem own0_sys {w : World} : Own [] w [.int .i64 0, .int .i64 0, .slice none 0 0] ((0, 0, []) : Sys) :=
  mk_own (p := []) ⟨rfl, rfl, ⟨by decide, by decide⟩⟩ (mk_own (p := []) ⟨rfl, rfl, ⟨by decide, by decide⟩⟩ ⟨_, rfl, .inl ⟨rfl, rfl, none, 0, rfl, Nat.zero_le _⟩⟩)
theorem reduceF_ok {x : Sys} (h : validS x = true) : reduceF x = (reducedF x, 0) := by unfold reduceF; rw [if_pos h]
theorem reduceF_bad {x : Sys} (h : validS x = false) : reduceF x = ((0, 0, []), 1) := by unfold reduceF; rw [h]; rfl

end Go.Proofs.Ytoblfnoaepbhfaa
