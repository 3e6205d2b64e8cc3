/-
  CONTRACT: reduced of the program. (Printed by wip/genred.py.)
-/
import Derived.Test.YthceklaoikeokaaGreatDoorSysB
import Derived.Test.YthceklaoikeokaaGreatDoorRowB
import Derived.Test.YthceklaoikeokaaGreatDoorBase
namespace Go.Proofs.YthceklaoikeokaaGreatDoor
open Go.RowKit Go.Shelf Go.IntWalk
open Rep (Rd Own sz)
set_option linter.unusedSimpArgs false
set_option linter.unusedVariables false

theorem Acc.form {α : Type} [Rep α] {B H : Nat} {e : TypeId} {w : World} {v : Value} {l : List α} (h : Acc B H e w v l) (hl : 0 < l.length) : ∃ g c, v = .slice (some ⟨g, 0, none⟩) l.length c ∧ B ≤ g ∧ g < H := by
  obtain ⟨xs, pss, h1, h2, h3, h4, h5⟩ := h
  rcases h1.2 with ⟨rfl, h0⟩ | ⟨g, cap, cur, rfl, hg, hh, hc, hm, hs, ht⟩
  · omega
  · exact ⟨g, cap, rfl, h4 g (by simp [Value.ownBlock])⟩
theorem mem_swapL {α : Type} {d : α} {l : List α} {i j : Nat} (hi : i < l.length) (hj : j < l.length) {r : α} (h : r ∈ swapL d l i j) : r ∈ l := by
  unfold swapL at h
  rcases List.mem_or_eq_of_mem_set h with h | h
  · rcases List.mem_or_eq_of_mem_set h with h | h
    · exact h
    · rw [h]; simp [List.getD, hj]
  · rw [h]; simp [List.getD, hi]
theorem getD_at {α : Type} {l : List α} {i : Nat} {d : α} (h : i < l.length) : l.getD i d = l[i] := by simp [List.getD, h]
theorem goodR_times {p n : Int} {U m : Nat} {r : RowT} (hp : 0 < p) (h : GoodR p U m r) : GoodR p U m (timesR p n r) := by
  refine ⟨by simp [timesR, addR, addL, h.1], by simp [timesR, addR, addL, h.2.1], ?_, ?_⟩
  · unfold timesR addR; simp only; rw [addL_same rfl]; exact res_zip hp (fun a b => a + _ * b) _ _
  · unfold timesR addR; simp only; rw [addL_same rfl]; exact res_zip hp (fun a b => a + _ * b) _ _
set_option maxHeartbeats 400000 in
theorem inverse_c (n : Int) (w : World) : Calls Tryz.prog 29 #[.int .i64 n] w fun e w' => e = .returned (.int .i64 n) ∧ w = w' := by
  go_enter Tryz.func29, Tryz.ntmps29
  go_wp2
  go_ret
  exact ⟨rfl, rfl⟩
theorem take_snoc {α : Type} (l : List α) (j : Nat) (h : j < l.length) : l.take (j + 1) = l.take j ++ [l[j]] := List.take_succ_eq_append_getElem h
theorem rowsI_step (n : Nat) (l : List Eqn) (j : Nat) (h : j < l.length) : rowsI n 0 (l.take (j + 1)) = rowsI n 0 (l.take j) ++ [(l[j].1 ++ [l[j].2], (List.replicate n 0).set j 1)] := by
  rw [take_snoc l j h, rowsI_snoc]
  simp only [List.length_take, Nat.zero_add, Nat.min_eq_left (Nat.le_of_lt h)]

set_option maxRecDepth 100000 in
set_option maxHeartbeats 8000000 in
theorem reduced_f (x : Sys) (v0 v1 v2 : Value) (w : World) (hx : Rd w [v0, v1, v2] x) (hok : wideS x = true) :
    Calls Tryz.prog 25 #[.agg #[v0, v1, v2]] w fun e w' => ∃ vr vb, e = .returned (.tuple #[vr, vb]) ∧ Fresh w.heap.size w' [vr] (elimI x).1 ∧ Fresh w.heap.size w' [vb] (elimI x).2 ∧ Below w.heap.size w w' := by
  obtain ⟨p, u, l⟩ := x
  have z := rd_cons rfl hx
  obtain ⟨rfl, _⟩ := rd_i1 z.1
  have z2 := rd_cons rfl z.2
  obtain ⟨rfl, _⟩ := rd_i1 z2.1
  have RL := Lib.hid z2.2
  obtain ⟨a, c, rfl, _⟩ := rd_list RL.out
  clear hx z z2
  obtain ⟨hp, hu, hl, he⟩ := wideS_get hok
  have HE := Lib.hid he
  clear hok he
  obtain ⟨U, rfl⟩ : ∃ U : Nat, u = U := ⟨u.toNat, by omega⟩
  have hp0 : 2 ≤ p := by omega
  have hp3 : p ≤ 3 := by omega
  have hs := (St.start w).alloc #[.int .i64 p, .int .i64 U, .slice a l.length c] 26 rfl
  go_enter Tryz.func25, Tryz.ntmps25
  go_wp2_with fail
  go_loopw [4, 18] (fun r4 i wr => ∃ (j g4 c4 : Nat), j ≤ l.length ∧ i = .int .i64 j ∧ r4 = .slice (some ⟨g4, 0, none⟩) j c4 ∧ Hid (St w (w.heap.size + 1) wr [(w.heap.size, #[.int .i64 p, .int .i64 U, .slice a l.length c], 26)]) ∧ Hid (Acc (w.heap.size + 1) wr.heap.size 53 wr r4 (rowsI l.length 0 (l.take j)))) (fun _ i _ => l.length - (intOf i).toNat)
  case atStart =>
    have hac := (acc_made (α := RowT) (w.alloc (.cells #[.int .i64 p, .int .i64 U, .slice a l.length c] 26)) 53)
    refine ⟨0, _, _, Nat.zero_le _, rfl, rfl, hs.step (belowA _ _), ?_⟩
    simpa [Hid, rowsI] using hac
  case round =>
    obtain ⟨j, g4, c4, hj, rfl, rfl, hst, hac⟩ := hrel
    have hlj : (rowsI l.length 0 (l.take j)).length = j := by rw [rowsI_length]; simp; omega
    have q2 := hst.out.cellAt 0 rfl 2 rfl
    by_cases hlt : j < l.length
    · obtain ⟨bl, ol, y0, y1, rfl, f00, f01, hx⟩ := rd_two_at rfl RL.out j hlt
      have hlj1 : (rowsI l.length 0 (l.take (j + 1))).length = j + 1 := by rw [rowsI_length]; simp; omega
      have f0 := cellL hst.out.bel f00
      have f1 := cellL hst.out.bel f01
      have hge := Lib.hid (HE.out l[j] (List.getElem_mem hlt))
      have hstep := Lib.hid (rowsI_step l.length l j hlt)
      have HXE := Lib.hid hx
      clear hx f00 f01
      generalize l[j] = E at *
      obtain ⟨El, Er⟩ := E
      have ze := rd_cons rfl HXE.out
      have RE := Lib.hid (Rd.mono ze.1 hst.out.bel)
      obtain ⟨ae, ce, rfl, _⟩ := rd_list ze.1
      obtain ⟨rfl, hIr⟩ := rd_i1 ze.2
      obtain ⟨gE1, gE2, gE3⟩ := eqn_good hge.out
      simp only at gE1 gE2 gE3
      have GE1 := Lib.hid gE1
      have hU : El.length ≤ 12 := by omega
      clear ze HXE hge gE1 gE2
      have hq := (St.start wr).alloc #[.slice ae El.length ce, .int .i64 Er] 73 rfl
      have hsz : w.heap.size + 1 ≤ wr.heap.size := hst.out.hi
      have qq := (hst.out.step (belowA wr (.cells #[.slice ae El.length ce, .int .i64 Er] 73))).cellAt 0 rfl 2 rfl
      go_wp2_with (at_make; refine wpList_make_rep _ rfl _ _ 28 rfl E_ints (0 : Int) own0_int l.length (by omega) rfl rfl ?_)
      intro w2 hown2 hb2 hz2
      have hq2 := hq.stepB hb2
      obtain ⟨g', o', c', hv, hps, hc, hf, hI, hset⟩ := own_int_set hown2 j (by simpa using hlt)
      simp only [Value.slice.injEq, Option.some.injEq, Addr.mk.injEq, and_true] at hv
      obtain ⟨⟨rfl, rfl⟩, -, rfl⟩ := hv
      rw [Nat.zero_add] at hc hf hset
      have HBY0 := Lib.hid (hset 1 ⟨by decide, by decide⟩)
      clear hset hown2 hps
      have hq3 := hq2.butIv (OnlyAt.but ((OnlyAt.refl [wr.heap.size + 1] w2).setCell (p := ⟨wr.heap.size + 1, j, none⟩) (by simp) (.int .i64 1))) (fun k hk => by simp at hk; omega) (fun x hx hp => by simp at hx hp; rcases hx with rfl; simp at hp)
      have hz3 : (w2.setCell ⟨wr.heap.size + 1, j, none⟩ (.int .i64 1)).heap.size = wr.heap.size + 2 := by simp [World.setCell]; simpa using hz2
      have hqd := hq3.drew
      have hv := St.start (w2.setCell ⟨wr.heap.size + 1, j, none⟩ (.int .i64 1)).drew
      have HBYd := Lib.hid (ownSl_heap (w' := (w2.setCell ⟨wr.heap.size + 1, j, none⟩ (.int .i64 1)).drew) HBY0.out rfl)
      have HACd := Lib.hid (hac.out.mono hqd.bel)
      clear q2 qq
      go_wp2_with fail
      refine wp_region_noPanic (wp_region_tree (fun w' => w'.cell? ⟨wr.heap.size, 0, none⟩ = some (.slice ae El.length ce) ∧ w'.cell? ⟨wr.heap.size, 1, none⟩ = some (.int .i64 Er)) (.float 0 (.float 1 (.float 2 (.float 4 (.float 5 (.float 8 (.fork2 3 (.hard 6 (.hard 7 (.float 9 (.hard 10 (.hard 11 (.float 12 .nil)))))) 6 (.hard 3 (.hard 7 (.float 9 (.hard 10 (.hard 11 (.float 12 .nil))))))))))))) (by kernel_rfl) (by kernel_rfl) (by kernel_rfl) rfl ?_ (fun _ _ _ _ _ h => h) ?_)
      · exact ⟨hqd.cellAt 0 rfl 0 rfl, hqd.cellAt 0 rfl 1 rfl⟩
      (repeat (first | (apply tr_skip rfl (by rfl); try simp only [Act.put, List.setIfInBounds_toArray, List.set_cons_zero, List.set_cons_succ]) | (apply tr_float rfl (by rfl); (· (intro w' hS; go_simp <;> with_reducible rfl)); (try simp only [Act.put, List.setIfInBounds_toArray, List.set_cons_zero, List.set_cons_succ]))))
      refine tr_fork2 ?_ ?_
      · refine tr_hard rfl (by rfl) (fun K hK => ?_)
        go_wp2_with (go_at_call 47; refine (cloneIntsA_c El _ _ (Rd.mono RE.out hqd.bel) (by omega)).mono ?_; rintro e w4 ⟨b4, rfl, hA4, hb4⟩)
        have hq5 := hqd.step hb4
        have hv5 := hv.step hb4
        obtain ⟨m4, n4, rfl, _⟩ := Acc.len hA4
        refine ⟨⟨hq5.cellAt 0 rfl 0 rfl, hq5.cellAt 0 rfl 1 rfl⟩, ?_⟩
        (repeat (first | (apply tr_skip rfl (by rfl); try simp only [Act.put, List.setIfInBounds_toArray, List.set_cons_zero, List.set_cons_succ]) | (apply tr_float rfl (by rfl); (· (intro w' hS; go_simp <;> with_reducible rfl)); (try simp only [Act.put, List.setIfInBounds_toArray, List.set_cons_zero, List.set_cons_succ]))))
        refine tr_hard rfl (by rfl) (fun K hK => ?_)
        go_wp2_with fail
        have hq5b := hq5.step (belowA _ (.cells #[.int .i64 Er] 2))
        have hv5b := hv5.step (belowA _ (.cells #[.int .i64 Er] 2))
        refine ⟨⟨hq5b.cellAt 0 rfl 0 rfl, hq5b.cellAt 0 rfl 1 rfl⟩, ?_⟩
        (repeat (first | (apply tr_skip rfl (by rfl); try simp only [Act.put, List.setIfInBounds_toArray, List.set_cons_zero, List.set_cons_succ]) | (apply tr_float rfl (by rfl); (· (intro w' hS; go_simp <;> with_reducible rfl)); (try simp only [Act.put, List.setIfInBounds_toArray, List.set_cons_zero, List.set_cons_succ]))))
        refine tr_hard rfl (by rfl) (fun K hK => ?_)
        refine wp_append_acc _ _ _ _ rfl E_ints rfl (hA4.mono (belowA _ (.cells #[.int .i64 Er] 2))) (fresh_int hIr) (by first | (simp; done) | (have hz4 := hb4.size; simp at hz4 ⊢; omega)) (by simp) ⟨w4.heap.size, 0, none⟩ 1 rfl (fun z u hz => by
          cases z with
          | zero => simp at hz; subst hz; exact (cell_at_block (heap_alloc_new w4 _))
          | succ z => simp at hz) (by omega) ?_
        intro a5 c5 w5 hA5 hB5 _
        have hq6 := hq5b.stepB (hB5.mono (by simp [hz3]))
        have hv6 := hv5b.stepB (hB5.mono (by simp))
        refine hK _ _ ⟨⟨hq6.cellAt 0 rfl 0 rfl, hq6.cellAt 0 rfl 1 rfl⟩, ?_⟩
        (repeat (first | (apply tr_skip rfl (by rfl); try simp only [Act.put, List.setIfInBounds_toArray, List.set_cons_zero, List.set_cons_succ]) | (apply tr_float rfl (by rfl); (· (intro w' hS; go_simp <;> with_reducible rfl)); (try simp only [Act.put, List.setIfInBounds_toArray, List.set_cons_zero, List.set_cons_succ]))))
        refine tr_hard rfl (by rfl) (fun K hK => ?_)
        go_wp2_with fail
        have hbA := belowA w5 (.cells #[.slice a5 (El.length + 1) c5, .slice (some ⟨wr.heap.size + 1, 0, none⟩) l.length l.length] 53)
        have hq7 := hq6.step hbA
        have hv7 := hv6.step hbA
        refine ⟨⟨hq7.cellAt 0 rfl 0 rfl, hq7.cellAt 0 rfl 1 rfl⟩, ?_⟩
        (repeat (first | (apply tr_skip rfl (by rfl); try simp only [Act.put, List.setIfInBounds_toArray, List.set_cons_zero, List.set_cons_succ]) | (apply tr_float rfl (by rfl); (· (intro w' hS; go_simp <;> with_reducible rfl)); (try simp only [Act.put, List.setIfInBounds_toArray, List.set_cons_zero, List.set_cons_succ]))))
        refine tr_hard rfl (by rfl) (fun K hK => ?_)
        obtain ⟨ps5, ho5, hn5, hk5⟩ := (hA5.mono hbA).ownSl
        have IN : Ip (fun k => wr.heap.size + 2 ≤ k) _ [.slice a5 (El.length + 1) c5] (El ++ [Er]) := ⟨ps5, ⟨_, rfl, ho5⟩, hn5, fun k hk => by have h := (hk5 k hk).1; have h3 := hz3; simp at h h3; omega⟩
        have IB : Ip (fun k => k = wr.heap.size + 1) _ [.slice (some ⟨wr.heap.size + 1, 0, none⟩) l.length l.length] ((List.replicate l.length (0 : Int)).set j 1) := ⟨[wr.heap.size + 1], ⟨_, rfl, ownSl_mono HBYd.out hv7.bel⟩, by simp, by simp⟩
        have IY := ip_cons (C := fun k => wr.heap.size ≤ k) IN IB (fun k h1 h2 => by omega) (fun k h => by omega) (fun k h => by omega)
        refine wp_append_acc _ _ _ _ rfl E_rows rfl (HACd.out.mono hv7.bel) IY hsz (by have h := hv7.hi; have h3 := hz3; simp at h h3 ⊢; omega) ⟨w5.heap.size, 0, none⟩ 1 rfl (fun z u hz => by
          match z with
          | 0 => simp at hz; subst hz; exact cell_at_block (heap_alloc_new w5 _)
          | 1 => simp at hz; subst hz; exact cell_at_block (heap_alloc_new w5 _)
          | z + 2 => simp at hz) (by rw [hlj]; omega) ?_
        intro a8 c8 w8 hA8 hB8 hK8
        rw [hlj] at hA8 ⊢
        rw [← hstep.out] at hA8
        obtain ⟨g8, c9, e8, _⟩ := hA8.form (by rw [hlj1]; omega)
        simp only [Value.slice.injEq] at e8
        obtain ⟨rfl, -, rfl⟩ := e8
        have hkk := hK8 wr.heap.size (Nat.le_refl _) (Nat.lt_of_lt_of_le (hq7.box _ (List.mem_of_getElem? (i := 0) rfl)).2.1 hq7.hi)
        refine hK _ _ ⟨⟨cellK (hq7.cellAt 0 rfl 0 rfl) hkk, cellK (hq7.cellAt 0 rfl 1 rfl) hkk⟩, ?_⟩
        (repeat (first | (apply tr_skip rfl (by rfl); try simp only [Act.put, List.setIfInBounds_toArray, List.set_cons_zero, List.set_cons_succ]) | (apply tr_float rfl (by rfl); (· (intro w' hS; go_simp <;> with_reducible rfl)); (try simp only [Act.put, List.setIfInBounds_toArray, List.set_cons_zero, List.set_cons_succ]))))
        refine tr_nil (NoPanic.normal ?_)
        go_wp2_with fail
        go_roundw
        case rel =>
          exact ⟨j + 1, g8, c8, hlt, by go_num, rfl, (hst.out.stepB (hq7.bel.mono hsz)).stepB hB8, hA8⟩
        case measure => simp [intOf]; omega
      · refine tr_hard rfl (by rfl) (fun K hK => ?_)
        go_wp2_with fail
        have hq5 := hqd.step (belowA _ (.cells #[.int .i64 Er] 2))
        have hv5 := hv.step (belowA _ (.cells #[.int .i64 Er] 2))
        refine ⟨⟨hq5.cellAt 0 rfl 0 rfl, hq5.cellAt 0 rfl 1 rfl⟩, ?_⟩
        (repeat (first | (apply tr_skip rfl (by rfl); try simp only [Act.put, List.setIfInBounds_toArray, List.set_cons_zero, List.set_cons_succ]) | (apply tr_float rfl (by rfl); (· (intro w' hS; go_simp <;> with_reducible rfl)); (try simp only [Act.put, List.setIfInBounds_toArray, List.set_cons_zero, List.set_cons_succ]))))
        refine tr_hard rfl (by rfl) (fun K hK => ?_)
        go_wp2_with (go_at_call 47; refine (cloneIntsA_c El _ _ (Rd.mono RE.out hq5.bel) (by omega)).mono ?_; rintro e w4 ⟨b4, rfl, hA4, hb4⟩)
        have hq5b := hq5.step hb4
        have hv5b := hv5.step hb4
        obtain ⟨m4, n4, rfl, _⟩ := Acc.len hA4
        refine ⟨⟨hq5b.cellAt 0 rfl 0 rfl, hq5b.cellAt 0 rfl 1 rfl⟩, ?_⟩
        (repeat (first | (apply tr_skip rfl (by rfl); try simp only [Act.put, List.setIfInBounds_toArray, List.set_cons_zero, List.set_cons_succ]) | (apply tr_float rfl (by rfl); (· (intro w' hS; go_simp <;> with_reducible rfl)); (try simp only [Act.put, List.setIfInBounds_toArray, List.set_cons_zero, List.set_cons_succ]))))
        refine tr_hard rfl (by rfl) (fun K hK => ?_)
        refine wp_append_acc _ _ _ _ rfl E_ints rfl hA4 (fresh_int hIr) (by first | (simp; done) | (have hz4 := hb4.size; simp at hz4 ⊢; omega)) (by simp) ⟨wr.heap.size + 2, 0, none⟩ 1 rfl (fun z u hz => by
          cases z with
          | zero => simp at hz; subst hz; exact (cellL hb4 (cell_at_block (heap_alloc_at _ _ (by simpa using hz3))))
          | succ z => simp at hz) (by omega) ?_
        intro a5 c5 w5 hA5 hB5 _
        have hq6 := hq5b.stepB (hB5.mono (by simp [hz3]))
        have hv6 := hv5b.stepB (hB5.mono (by simp))
        refine hK _ _ ⟨⟨hq6.cellAt 0 rfl 0 rfl, hq6.cellAt 0 rfl 1 rfl⟩, ?_⟩
        (repeat (first | (apply tr_skip rfl (by rfl); try simp only [Act.put, List.setIfInBounds_toArray, List.set_cons_zero, List.set_cons_succ]) | (apply tr_float rfl (by rfl); (· (intro w' hS; go_simp <;> with_reducible rfl)); (try simp only [Act.put, List.setIfInBounds_toArray, List.set_cons_zero, List.set_cons_succ]))))
        refine tr_hard rfl (by rfl) (fun K hK => ?_)
        go_wp2_with fail
        have hbA := belowA w5 (.cells #[.slice a5 (El.length + 1) c5, .slice (some ⟨wr.heap.size + 1, 0, none⟩) l.length l.length] 53)
        have hq7 := hq6.step hbA
        have hv7 := hv6.step hbA
        refine ⟨⟨hq7.cellAt 0 rfl 0 rfl, hq7.cellAt 0 rfl 1 rfl⟩, ?_⟩
        (repeat (first | (apply tr_skip rfl (by rfl); try simp only [Act.put, List.setIfInBounds_toArray, List.set_cons_zero, List.set_cons_succ]) | (apply tr_float rfl (by rfl); (· (intro w' hS; go_simp <;> with_reducible rfl)); (try simp only [Act.put, List.setIfInBounds_toArray, List.set_cons_zero, List.set_cons_succ]))))
        refine tr_hard rfl (by rfl) (fun K hK => ?_)
        obtain ⟨ps5, ho5, hn5, hk5⟩ := (hA5.mono hbA).ownSl
        have IN : Ip (fun k => wr.heap.size + 2 ≤ k) _ [.slice a5 (El.length + 1) c5] (El ++ [Er]) := ⟨ps5, ⟨_, rfl, ho5⟩, hn5, fun k hk => by have h := (hk5 k hk).1; have h3 := hz3; simp at h h3; omega⟩
        have IB : Ip (fun k => k = wr.heap.size + 1) _ [.slice (some ⟨wr.heap.size + 1, 0, none⟩) l.length l.length] ((List.replicate l.length (0 : Int)).set j 1) := ⟨[wr.heap.size + 1], ⟨_, rfl, ownSl_mono HBYd.out hv7.bel⟩, by simp, by simp⟩
        have IY := ip_cons (C := fun k => wr.heap.size ≤ k) IN IB (fun k h1 h2 => by omega) (fun k h => by omega) (fun k h => by omega)
        refine wp_append_acc _ _ _ _ rfl E_rows rfl (HACd.out.mono hv7.bel) IY hsz (by have h := hv7.hi; have h3 := hz3; simp at h h3 ⊢; omega) ⟨w5.heap.size, 0, none⟩ 1 rfl (fun z u hz => by
          match z with
          | 0 => simp at hz; subst hz; exact cell_at_block (heap_alloc_new w5 _)
          | 1 => simp at hz; subst hz; exact cell_at_block (heap_alloc_new w5 _)
          | z + 2 => simp at hz) (by rw [hlj]; omega) ?_
        intro a8 c8 w8 hA8 hB8 hK8
        rw [hlj] at hA8 ⊢
        rw [← hstep.out] at hA8
        obtain ⟨g8, c9, e8, _⟩ := hA8.form (by rw [hlj1]; omega)
        simp only [Value.slice.injEq] at e8
        obtain ⟨rfl, -, rfl⟩ := e8
        have hkk := hK8 wr.heap.size (Nat.le_refl _) (Nat.lt_of_lt_of_le (hq7.box _ (List.mem_of_getElem? (i := 0) rfl)).2.1 hq7.hi)
        refine hK _ _ ⟨⟨cellK (hq7.cellAt 0 rfl 0 rfl) hkk, cellK (hq7.cellAt 0 rfl 1 rfl) hkk⟩, ?_⟩
        (repeat (first | (apply tr_skip rfl (by rfl); try simp only [Act.put, List.setIfInBounds_toArray, List.set_cons_zero, List.set_cons_succ]) | (apply tr_float rfl (by rfl); (· (intro w' hS; go_simp <;> with_reducible rfl)); (try simp only [Act.put, List.setIfInBounds_toArray, List.set_cons_zero, List.set_cons_succ]))))
        refine tr_nil (NoPanic.normal ?_)
        go_wp2_with fail
        go_roundw
        case rel =>
          exact ⟨j + 1, g8, c8, hlt, by go_num, rfl, (hst.out.stepB (hq7.bel.mono hsz)).stepB hB8, hA8⟩
        case measure => simp [intOf]; omega
    · obtain rfl : j = l.length := by omega
      rw [List.take_length] at hac
      have KF := Lib.hid (fun k (hk : k ≤ U) => elimI_facts hp HE.out k hk)
      have hst0 := hst.out.step (belowA wr (.cells #[] 2))
      have q1 := hst0.cellAt 0 rfl 1 rfl
      have hab := acc_made (α := Int) wr 2
      have hgr : w.heap.size + 1 ≤ wr.heap.size := hst.out.hi
      obtain ⟨ps0, ho0, hn0, hb0⟩ := (hac.out.mono (belowA wr (.cells #[] 2))).ownSl
      have IP0 : Ip (fun k => w.heap.size + 1 ≤ k ∧ k < wr.heap.size + 1 ∧ k ≠ wr.heap.size) (wr.alloc (.cells #[] 2)) [.slice (some ⟨g4, 0, none⟩) l.length c4] (rowsI l.length 0 l) := ⟨ps0, ⟨_, rfl, ho0⟩, hn0, fun k hk => by have := hb0 k hk; omega⟩
      go_wp2_with fail
      go_loopw [8, 46] (fun r8 i wl => ∃ (k gb cb : Nat), k ≤ U ∧ i = .int .i64 k ∧ r8 = .slice (some ⟨gb, 0, none⟩) (elimE (opsI p) (rowsI l.length 0 l) k).2.length cb ∧ Hid (St w (w.heap.size + 1) wl [(w.heap.size, #[.int .i64 p, .int .i64 U, .slice a l.length c], 26)]) ∧ Hid (Acc gb (gb + 1) 2 wl (.slice (some ⟨gb, 0, none⟩) (elimE (opsI p) (rowsI l.length 0 l) k).2.length cb) (elimE (opsI p) (rowsI l.length 0 l) k).2) ∧ Hid (w.heap.size + 1 ≤ gb ∧ gb < wl.heap.size) ∧
        Hid (Ip (fun z => w.heap.size + 1 ≤ z ∧ z < wl.heap.size ∧ z ≠ gb) wl [.slice (some ⟨g4, 0, none⟩) l.length c4] ((elimE (opsI p) (rowsI l.length 0 l) k).1))) (fun _ i _ => U - (intOf i).toNat)
      case atStart => exact ⟨0, wr.heap.size, 0, Nat.zero_le _, rfl, rfl, hst0, hab, by simp [Hid]; omega, IP0.wk (fun k h => by simp; omega)⟩
      case round =>
        obtain ⟨k, gb, cb, hk, rfl, rfl, hsl, hbs, hgb, hip⟩ := hrel
        by_cases hlt : k < U
        · obtain ⟨wB, hwB⟩ : ∃ x, x = wr := ⟨_, rfl⟩
          subst hwB
          obtain ⟨fL, fB, fG⟩ := KF.out k hk
          have hnext := Lib.hid (show elimE (opsI p) (rowsI l.length 0 l) (k + 1) = stepE (opsI p) k (elimE (opsI p) (rowsI l.length 0 l) k) from rfl)
          have fnext := Lib.hid (KF.out (k + 1) hlt)
          generalize elimE (opsI p) (rowsI l.length 0 l) k = ST at *
          obtain ⟨R, bs⟩ := ST
          have hbs := Lib.hid (show Acc gb (gb + 1) 2 wB (.slice (some ⟨gb, 0, none⟩) bs.length cb) bs from hbs.out)
          have hip := Lib.hid (show Ip (fun z => w.heap.size + 1 ≤ z ∧ z < wB.heap.size ∧ z ≠ gb) wB [.slice (some ⟨g4, 0, none⟩) l.length c4] R from hip.out)
          simp only at fL fB fG
          have FL := Lib.hid fL
          have FG := Lib.hid fG
          clear fL fG
          have hub := hsl.out.alloc #[.int .i64 k] 2 rfl
          have hip1 := Lib.hid (hip.out.mono (belowA wB (.cells #[.int .i64 k] 2)))
          have hbs1 := Lib.hid (hbs.out.mono (belowA wB (.cells #[.int .i64 k] 2)))
          obtain ⟨a9, c9, e9, hr9⟩ := rd_list hip1.out.rd
          simp only [Value.slice.injEq] at e9
          obtain ⟨rfl, -, rfl⟩ := e9
          have hc9 := hr9.1
          have hc8 := hr9.2.1
          unfold maxLen at hc8
          rw [FL.out] at hc9
          have hrd := Lib.hid (show Rd (wB.alloc (.cells #[.int .i64 k] 2)) [.slice (some ⟨g4, bs.length * 2, none⟩) (l.length - bs.length) (c4 - bs.length)] (R.drop bs.length) from
            ⟨_, _, by rw [List.length_drop, FL.out], by have h := rdSl_drop hr9 bs.length (by rw [FL.out]; exact fB); rw [Nat.zero_add] at h; exact h⟩)
          clear hr9
          have eg : ∀ args w, (callFunc 63 args).run Tryz.prog w = .ok (.enter 63 args) w := enters_of Tryz.func63 (by kernel_rfl) rfl
          go_wp2_with fail
          · have HCC := Lib.hid h
            clear h
            have hcl : l.length ≤ bs.length := by have := HCC.out; omega
            have hrd0 := Lib.hid (show Rd (wB.alloc (.cells #[.int .i64 k] 2)) [.slice (some ⟨g4, 0, none⟩) (l.length - bs.length) 0] (R.drop bs.length) from by
              have e0 : R.drop bs.length = [] := List.drop_eq_nil_of_le (by rw [FL.out]; omega)
              have e1 : l.length - bs.length = 0 := by omega
              rw [e0, e1]; exact ⟨_, 0, rfl, by simp, by simp, fun i hi => by simp at hi⟩)
            have hfi : (R.drop bs.length).findIdx? (fun r : RowT => r.1.getD k 0 != 0) = none := by
              rw [List.drop_eq_nil_of_le (by rw [FL.out]; omega)]; rfl
            have hRl : R.length ≤ bs.length := by rw [FL.out]; exact hcl
            clear hcl
            refine (indexRows_c (R.drop bs.length) _ 63 _ (fun r => r.1.getD k 0 != 0) _ hrd0.out eg (reduced1_by _ wB.heap.size k _ (hub.cellAt 1 rfl 0 rfl) (fun r hr => by have h := FG.out r (List.mem_of_mem_drop hr); have h1 := h.1; omega))).mono ?_
            rintro e w1 ⟨he0, hb1⟩
            have hub1 := hub.step hb1
            have hip2 := Lib.hid (hip1.out.mono hb1)
            have hbs2 := Lib.hid (hbs1.out.mono hb1)
            have hzl : wB.heap.size + 1 ≤ w1.heap.size := by have := hb1.size; simpa using this
            clear hip1 hbs1 hip hbs
            have hm1 : firstI (fun r : RowT => r.1.getD k 0 != 0) (R.drop bs.length) = -1 := by unfold firstI; rw [hfi]
            have hsame := Lib.hid (show elimE (opsI p) (rowsI l.length 0 l) (k + 1) = (R, bs) by
              rw [hnext.out]; unfold stepE; show (match (R.drop bs.length).findIdx? (fun r => r.1.getD k 0 != 0) with | none => _ | some i => _) = _; rw [hfi])
            rw [hm1] at he0
            subst he0
            clear hfi hm1
            go_wp2_with fail
            rw [← HCC.out]
            go_roundw
            case rel =>
              refine ⟨k + 1, gb, cb, hlt, by go_num, ?_⟩
              rw [hsame.out]
              exact ⟨by rw [HCC.out], (hsl.out.step (belowA wB (.cells #[.int .i64 k] 2))).step hb1, hbs2.out, by have := hgb.out; simp [Hid]; omega, hip2.out.wk (fun z h => by omega)⟩
            case measure => simp [intOf]; omega
          clear h
          refine (indexRows_c (R.drop bs.length) _ 63 _ (fun r => r.1.getD k 0 != 0) _ hrd.out eg (reduced1_by _ wB.heap.size k _ (hub.cellAt 1 rfl 0 rfl) (fun r hr => by have h := FG.out r (List.mem_of_mem_drop hr); have h1 := h.1; omega))).mono ?_
          rintro e w1 ⟨he0, hb1⟩
          have hub1 := hub.step hb1
          have hip2 := Lib.hid (hip1.out.mono hb1)
          have hbs2 := Lib.hid (hbs1.out.mono hb1)
          have hzl : wB.heap.size + 1 ≤ w1.heap.size := by have := hb1.size; simpa using this
          clear hip1 hbs1 hip hbs
          cases hfi : (R.drop bs.length).findIdx? (fun r => r.1.getD k 0 != 0) with
          | none =>
            have hm1 : firstI (fun r : RowT => r.1.getD k 0 != 0) (R.drop bs.length) = -1 := by unfold firstI; rw [hfi]
            have hsame := Lib.hid (show elimE (opsI p) (rowsI l.length 0 l) (k + 1) = (R, bs) by
              rw [hnext.out]; unfold stepE; show (match (R.drop bs.length).findIdx? (fun r => r.1.getD k 0 != 0) with | none => _ | some i => _) = _; rw [hfi])
            rw [hm1] at he0
            subst he0
            clear hfi hm1
            go_wp2_with fail
            go_roundw
            case rel =>
              refine ⟨k + 1, gb, cb, hlt, by go_num, ?_⟩
              rw [hsame.out]
              exact ⟨rfl, (hsl.out.step (belowA wB (.cells #[.int .i64 k] 2))).step hb1, hbs2.out, by have := hgb.out; simp [Hid]; omega, hip2.out.wk (fun z h => by omega)⟩
            case measure => simp [intOf]; omega
          | some i =>
            have hi1 := find_lt hfi
            simp only [List.length_drop] at hi1
            rw [FL.out] at hi1
            have hm1 : firstI (fun r : RowT => r.1.getD k 0 != 0) (R.drop bs.length) = i := by unfold firstI; rw [hfi]
            have hsame := Lib.hid (show elimE (opsI p) (rowsI l.length 0 l) (k + 1) = (pivotE (opsI p) k R bs.length i, bs ++ [(k : Int)]) by
              rw [hnext.out]; unfold stepE; show (match (R.drop bs.length).findIdx? (fun r => r.1.getD k 0 != 0) with | none => _ | some i => _) = _; rw [hfi])
            rw [hm1] at he0
            subst he0
            clear hfi hm1
            obtain ⟨D, hD⟩ : ∃ D, D = bs.length + i := ⟨_, rfl⟩
            have hsum : (bs.length : Int) + (i : Int) = (D : Int) := by omega
            have hwD : IntKind.i64.wrap (D : Int) = (D : Int) := i64_in _ (by omega)
            have hDl : D < l.length := by omega
            have hDd : bs.length ≤ D := by omega
            have HD := Lib.hid hD
            clear hD
            obtain ⟨v0, v1, k0, k1, hrv, hfz, hPg, hgl⟩ := ip_two rfl hip2.out bs.length (by rw [FL.out]; omega)
            obtain ⟨u0, u1, m0, m1, hru, -, -, -⟩ := ip_two rfl hip2.out D (by rw [FL.out]; omega)
            have zv := rd_cons rfl hrv
            obtain ⟨av0, cv0, rfl, _⟩ := rd_list zv.1
            obtain ⟨av1, cv1, rfl, _⟩ := rd_list zv.2
            have zu := rd_cons rfl hru
            obtain ⟨au0, cu0, rfl, _⟩ := rd_list zu.1
            obtain ⟨au1, cu1, rfl, _⟩ := rd_list zu.2
            clear zv zu hrv hru
            generalize hLv0 : (R[bs.length]'(by rw [FL.out]; omega)).1.length = Lv0 at *
            generalize hLv1 : (R[bs.length]'(by rw [FL.out]; omega)).2.length = Lv1 at *
            generalize hLu0 : (R[D]'(by rw [FL.out]; omega)).1.length = Lu0 at *
            generalize hLu1 : (R[D]'(by rw [FL.out]; omega)).2.length = Lu1 at *
            clear hLv0 hLv1 hLu0 hLu1
            have z0 := hfz (bs.length * 2)
            have z1 := hfz (bs.length * 2 + 1)
            have z2 := hfz (D * 2)
            have z3 := hfz (D * 2 + 1)
            have hi2 : (bs.length : Int) < l.length := by omega
            have hi3 : (D : Int) < l.length := by omega
            have hIP := Lib.hid (ip_swap2 rfl hip2.out (opsI p).dflt bs.length D (by rw [FL.out]; omega) (by rw [FL.out]; omega) k0 k1 m0 m1)
            go_upto_region 16 with fail
            go_cut [46] from 46 to 129 (fun x46 wx => x46 = .int .i64 k ∧ Hid (OnlyAt [g4] w1 wx) ∧ Hid (Ip (fun z => w.heap.size + 1 ≤ z ∧ z < wB.heap.size ∧ z ≠ gb) wx [.slice (some ⟨g4, 0, none⟩) l.length c4] (swapL (opsI p).dflt R bs.length D)))
            case first =>
              rcases Nat.eq_or_lt_of_le hDd with hq | hq
              · subst hq
                have e0 := k0.symm.trans m0
                have e1 := k1.symm.trans m1
                simp only [Option.some.injEq, Value.slice.injEq] at e0 e1
                obtain ⟨rfl, rfl, rfl⟩ := e0
                obtain ⟨rfl, rfl, rfl⟩ := e1
                clear m0 m1 z2 z3
                refine wp_region_noPanic (wp_region_eb (fun w' => w'.cell? ⟨g4, bs.length * 2, none⟩ = some (.slice av0 Lv0 cv0) ∧ w'.cell? ⟨g4, bs.length * 2 + 1, none⟩ = some (.slice av1 Lv1 cv1)) [0, 1, 2, 3, 4, 5, 6, 7, 8, 9, 10, 12, 13, 14] [(11, 0), (15, 0), (16, 0), (17, 2), (18, 0), (19, 2)] (by kernel_rfl) (by kernel_rfl) (by kernel_rfl) rfl (fun _ _ _ _ _ h => h) ?_)
                (repeat (apply ep_pure rfl (by rfl); (· (intro w'; go_simp <;> with_reducible rfl)); (try simp only [Act.put, List.setIfInBounds_toArray, List.set_cons_zero, List.set_cons_succ])))
                refine ep_nil ?_ ?_
                · exact ⟨k0, k1⟩
                (repeat (first | (apply eb_skip rfl (by rfl); try simp only [Act.put, List.setIfInBounds_toArray, List.set_cons_zero, List.set_cons_succ]) | (apply eb_float rfl (by rfl); (· (intro w' hS; go_simp <;> with_reducible rfl)); (try simp only [Act.put, List.setIfInBounds_toArray, List.set_cons_zero, List.set_cons_succ]))))
                refine eb_last rfl (by rfl) (fun K hK => ?_)
                go_wp2_with fail
                refine ⟨fun _ => True, trivial, ?_⟩
                (repeat (first | (apply eb_skip rfl (by rfl); try simp only [Act.put, List.setIfInBounds_toArray, List.set_cons_zero, List.set_cons_succ]) | (apply eb_float rfl (by rfl); (· (intro w' hS; go_simp <;> with_reducible rfl)); (try simp only [Act.put, List.setIfInBounds_toArray, List.set_cons_zero, List.set_cons_succ]))))
                refine eb_last rfl (by rfl) (fun K hK => ?_)
                go_wp2_with fail
                refine ⟨fun _ => True, trivial, ?_⟩
                refine eb_nil (NoPanic.normal ?_)
                go_wp2_with fail
                go_meet
                case rel =>
                  exact ⟨rfl, ((((OnlyAt.refl [g4] w1).setCell (p := ⟨g4, bs.length * 2, none⟩) (by simp) (.slice av0 Lv0 cv0)).setCell (p := ⟨g4, bs.length * 2 + 1, none⟩) (by simp) (.slice av1 Lv1 cv1)).setCell (p := ⟨g4, bs.length * 2, none⟩) (by simp) (.slice av0 Lv0 cv0)).setCell (p := ⟨g4, bs.length * 2 + 1, none⟩) (by simp) (.slice av1 Lv1 cv1) |>.drewN 1, hIP.out.frame (fun _ _ _ => rfl)⟩
              · have hq2 : ¬ D = bs.length := by omega
                have hq3 : ¬ bs.length = D := by omega
                refine wp_region_noPanic (wp_region_eb (fun w' => w'.cell? ⟨g4, bs.length * 2, none⟩ = some (.slice av0 Lv0 cv0) ∧ w'.cell? ⟨g4, bs.length * 2 + 1, none⟩ = some (.slice av1 Lv1 cv1) ∧ w'.cell? ⟨g4, D * 2, none⟩ = some (.slice au0 Lu0 cu0) ∧ w'.cell? ⟨g4, D * 2 + 1, none⟩ = some (.slice au1 Lu1 cu1)) [0, 1, 2, 3, 4, 5, 6, 7, 8, 9, 10, 12, 13, 14] [(11, 0), (15, 0), (16, 0), (17, 2), (18, 0), (19, 2)] (by kernel_rfl) (by kernel_rfl) (by kernel_rfl) rfl (fun _ _ _ _ _ h => h) ?_)
                (repeat (apply ep_pure rfl (by rfl); (· (intro w'; go_simp <;> with_reducible rfl)); (try simp only [Act.put, List.setIfInBounds_toArray, List.set_cons_zero, List.set_cons_succ])))
                refine ep_nil ?_ ?_
                · exact ⟨k0, k1, m0, m1⟩
                (repeat (first | (apply eb_skip rfl (by rfl); try simp only [Act.put, List.setIfInBounds_toArray, List.set_cons_zero, List.set_cons_succ]) | (apply eb_float rfl (by rfl); (· (intro w' hS; go_simp <;> with_reducible rfl)); (try simp only [Act.put, List.setIfInBounds_toArray, List.set_cons_zero, List.set_cons_succ]))))
                refine eb_last rfl (by rfl) (fun K hK => ?_)
                go_wp2_with fail
                refine ⟨fun _ => True, trivial, ?_⟩
                (repeat (first | (apply eb_skip rfl (by rfl); try simp only [Act.put, List.setIfInBounds_toArray, List.set_cons_zero, List.set_cons_succ]) | (apply eb_float rfl (by rfl); (· (intro w' hS; go_simp <;> with_reducible rfl)); (try simp only [Act.put, List.setIfInBounds_toArray, List.set_cons_zero, List.set_cons_succ]))))
                refine eb_last rfl (by rfl) (fun K hK => ?_)
                go_wp2_with fail
                refine ⟨fun _ => True, trivial, ?_⟩
                refine eb_nil (NoPanic.normal ?_)
                go_wp2_with fail
                go_meet
                case rel =>
                  exact ⟨rfl, ((((OnlyAt.refl [g4] w1).setCell (p := ⟨g4, bs.length * 2, none⟩) (by simp) (.slice au0 Lu0 cu0)).setCell (p := ⟨g4, bs.length * 2 + 1, none⟩) (by simp) (.slice au1 Lu1 cu1)).setCell (p := ⟨g4, D * 2, none⟩) (by simp) (.slice av0 Lv0 cv0)).setCell (p := ⟨g4, D * 2 + 1, none⟩) (by simp) (.slice av1 Lv1 cv1) |>.drewN 1, hIP.out.frame (fun _ _ _ => rfl)⟩
            case rest =>
              obtain ⟨rfl, hon, hip3⟩ := hcut
              have hgd4 := hPg
              have hR1L : (swapL (opsI p).dflt R bs.length D).length = l.length := by rw [swapL_length]; exact FL.out
              have hR1G : ∀ r, r ∈ swapL (opsI p).dflt R bs.length D → GoodR p U l.length r := fun r hr => FG.out r (mem_swapL (by rw [FL.out]; omega) (by rw [FL.out]; exact hDl) hr)
              have hpiv := Lib.hid (show pivotE (opsI p) k R bs.length i = mapTo (elimRow (opsI p) k bs.length (timesR p (((swapL (opsI p).dflt R bs.length D).getD bs.length (opsI p).dflt).1.getD k 0) ((swapL (opsI p).dflt R bs.length D).getD bs.length (opsI p).dflt))) ((swapL (opsI p).dflt R bs.length D).set bs.length (timesR p (((swapL (opsI p).dflt R bs.length D).getD bs.length (opsI p).dflt).1.getD k 0) ((swapL (opsI p).dflt R bs.length D).getD bs.length (opsI p).dflt))) l.length by
                have h := mapTo_all (elimRow (opsI p) k bs.length (timesR p (((swapL (opsI p).dflt R bs.length D).getD bs.length (opsI p).dflt).1.getD k 0) ((swapL (opsI p).dflt R bs.length D).getD bs.length (opsI p).dflt))) ((swapL (opsI p).dflt R bs.length D).set bs.length (timesR p (((swapL (opsI p).dflt R bs.length D).getD bs.length (opsI p).dflt).1.getD k 0) ((swapL (opsI p).dflt R bs.length D).getD bs.length (opsI p).dflt)))
                rw [List.length_set, hR1L] at h
                rw [h, HD.out]; rfl)
              have hon1 := hon
              generalize swapL (opsI p).dflt R bs.length D = R1 at *
              have hdl : bs.length < R1.length := by rw [hR1L]; omega
              have eg0 : R1.getD bs.length (opsI p).dflt = R1[bs.length] := getD_at hdl
              rw [eg0] at hpiv
              have gR := hR1G R1[bs.length] (List.getElem_mem hdl)
              obtain ⟨p0, p1, j0, j1, hrp, hfp, -, -⟩ := ip_two rfl hip3.out bs.length hdl
              have HR1L := Lib.hid hR1L
              have HR1G := Lib.hid hR1G
              generalize hP : R1[bs.length] = P at *
              have HP := Lib.hid hP
              clear hP hR1L hR1G eg0
              obtain ⟨gP1, gP2, gP3, gP4⟩ := gR
              have zp := rd_cons rfl hrp
              have HRP := Lib.hid hrp
              obtain ⟨ap0, cp0, hp0e, _⟩ := rd_list zp.1
              obtain ⟨ap1, cp1, hp1e, _⟩ := rd_list zp.2
              rw [gP1] at hp0e
              rw [gP2] at hp1e
              subst hp0e hp1e
              obtain ⟨b5, o5, rfl, nk, _⟩ := rd_int_at zp.1 k (by rw [gP1]; omega)
              have eN : P.1.getD k 0 = P.1[k]'(by rw [gP1]; omega) := by simp [List.getD, show k < P.1.length by rw [gP1]; omega]
              rw [eN] at hpiv
              have gN := gP3.get k (by rw [gP1]; omega)
              generalize P.1[k]'(by rw [gP1]; omega) = N at *
              clear eN zp hrp
              have hubc := hub1.butIv (OnlyAt.but hon.out) (fun z hz => by simp at hz; subst hz; exact Nat.le_of_succ_le hgd4.1) (fun x hx hp => by simp at hx hp; rcases hx with rfl | rfl <;> simp at hp <;> omega)
              have hbs3 := Lib.hid (hbs2.out.frame (w' := wc) (fun z h1 h2 => hon.out.block z (by simp; omega)))
              have GP1 := Lib.hid gP1
              have GP2 := Lib.hid gP2
              have GP3 := Lib.hid gP3
              have GP4 := Lib.hid gP4
              clear gP1 gP2 gP3 gP4 k0 k1 m0 m1 z0 z1 z2 z3 hfz hIP hip2 hbs2
              have t0 := hubc.cellAt 0 rfl 0 rfl
              have t1 := hubc.cellAt 1 rfl 0 rfl
              have y0 := hfp (bs.length * 2)
              have y1 := hfp (bs.length * 2 + 1)
              have hkU : (k : Int) < (U : Int) + 1 := by omega
              have hwz : wc.heap.size = w1.heap.size := hon.out.size
              go_wp2_with fail
              refine wp_region_noPanic (wp_region_el (fun w' => w'.cell? ⟨g4, bs.length * 2, none⟩ = some (.slice (some ⟨b5, o5, none⟩) (U + 1) cp0) ∧ w'.cell? ⟨g4, bs.length * 2 + 1, none⟩ = some (.slice ap1 l.length cp1) ∧ w'.cell? ⟨w.heap.size, 0, none⟩ = some (.int .i64 p) ∧ w'.cell? ⟨wB.heap.size, 0, none⟩ = some (.int .i64 k) ∧ w'.cell? ⟨b5, o5 + k, none⟩ = some (.int .i64 N)) [(0, 0), (1, 0), (2, 0), (3, 0), (4, 0), (5, 0), (6, 0), (7, 0), (8, 0), (9, 0), (10, 0), (11, 0), (12, 0), (13, 0), (14, 0), (15, 0), (16, 1), (17, 1), (18, 0), (19, 2)] (by kernel_rfl) (by kernel_rfl) (by kernel_rfl) rfl ?_ (fun _ _ _ _ _ h => h) ?_)
              · exact ⟨j0, j1, t0, t1, nk⟩
              (repeat (first | (apply el_skip rfl (by rfl); try simp only [Act.put, List.setIfInBounds_toArray, List.set_cons_zero, List.set_cons_succ]) | (apply el_float rfl (by rfl); (· (intro w' hS; go_simp <;> with_reducible rfl)); (try simp only [Act.put, List.setIfInBounds_toArray, List.set_cons_zero, List.set_cons_succ]))))
              refine el_hard rfl (by rfl) (fun K hK => ?_)
              go_wp2_with (go_at_call 29; refine (inverse_c N _).mono ?_; rintro e w5 ⟨rfl, rfl⟩)
              refine ⟨⟨j0, j1, t0, t1, nk⟩, ?_⟩
              (repeat (first | (apply el_skip rfl (by rfl); try simp only [Act.put, List.setIfInBounds_toArray, List.set_cons_zero, List.set_cons_succ]) | (apply el_float rfl (by rfl); (· (intro w' hS; go_simp <;> with_reducible rfl)); (try simp only [Act.put, List.setIfInBounds_toArray, List.set_cons_zero, List.set_cons_succ]))))
              refine el_hard rfl (by rfl) (fun K hK => ?_)
              go_wp2_with (go_at_call 28; refine (times_c p N P _ _ _ (Rd.mono HRP.out (belowD wc)) (by rw [GP1.out]; omega) (by rw [GP2.out]; omega) hp0 hp3 (by omega) (by omega) GP3.out GP4.out).mono ?_; rintro e w5 ⟨o0, o1, rfl, fr, hb5⟩)
              have GX : GoodR p U l.length (timesR p N P) := goodR_times (by omega) ⟨GP1.out, GP2.out, GP3.out, GP4.out⟩
              have hq5 := ((St.start wc).drew).step hb5
              have hub5 := (hubc.drew).step hb5
              have hbs5 := Lib.hid (hbs3.out.mono hq5.bel)
              have ip5 := Lib.hid (hip3.out.mono hq5.bel)
              have iv5 := Lib.hid (Ip.of_iv fr.iv)
              have zo := rd_cons rfl fr.rd
              obtain ⟨a6, c6, e6, _⟩ := rd_list zo.1
              obtain ⟨a7, c7, e7, _⟩ := rd_list zo.2
              rw [GX.1] at e6
              rw [GX.2.1] at e7
              subst e6 e7
              have j0' := cellL hq5.bel j0
              have j1' := cellL hq5.bel j1
              refine ⟨⟨j0', j1', hub5.cellAt 0 rfl 0 rfl, hub5.cellAt 1 rfl 0 rfl, cellL hq5.bel nk⟩, ?_⟩
              have hdl5 : bs.length < R1.length := hdl
              obtain ⟨-, -, -, -, -, hf5, -, -⟩ := ip_two rfl ip5.out bs.length hdl5
              have y0' := hf5 (bs.length * 2)
              have y1' := hf5 (bs.length * 2 + 1)
              clear zo fr y0 y1 t0 t1
              have GXX := Lib.hid GX
              clear GX
              have hz5 := hb5.size
              have hz5 : wc.heap.size ≤ w5.heap.size := hz5
              (repeat (first | (apply el_skip rfl (by rfl); try simp only [Act.put, List.setIfInBounds_toArray, List.set_cons_zero, List.set_cons_succ]) | (apply el_float rfl (by rfl); (· (intro w' hS; go_simp <;> with_reducible rfl)); (try simp only [Act.put, List.setIfInBounds_toArray, List.set_cons_zero, List.set_cons_succ]))))
              refine el_last rfl (by rfl) (fun K hK => ?_)
              go_wp2_with fail
              refine el_nil (NoPanic.normal ?_)
              have ip6 := Lib.hid ((ip_put2 rfl ip5.out bs.length hdl iv5.out (fun z h1 h2 => by have h3 : wc.heap.size ≤ z := h2.1; omega)).wk (B := fun z => w.heap.size + 1 ≤ z ∧ z < w5.heap.size ∧ z ≠ gb) (fun z h => by
                rcases h with h | h
                · exact ⟨h.1, by omega, h.2.2⟩
                · have h3 : wc.heap.size ≤ z := h.1
                  have := hgb.out
                  exact ⟨by omega, h.2, by omega⟩))
              have hon6 := ((OnlyAt.refl [g4] w5).setCell (p := ⟨g4, bs.length * 2, none⟩) (by simp) (.slice a6 (U + 1) c6)).setCell (p := ⟨g4, bs.length * 2 + 1, none⟩) (by simp) (.slice a7 l.length c7)
              have hub6 := hub5.butIv (OnlyAt.but hon6) (fun z hz => by simp at hz; subst hz; exact Nat.le_of_succ_le hgd4.1) (fun x hx hp => by simp at hx hp; rcases hx with rfl | rfl <;> simp at hp <;> omega)
              have hbs6 := Lib.hid (hbs5.out.frame (fun z h1 h2 => hon6.block z (by simp; omega)))
              have HON6 := Lib.hid hon6.size
              clear hbs5 ip5 iv5 hon6 hub5 hf5 j0' j1' y0' y1'
              go_wp2_with fail
              go_loopw [97] (fun i w3 => ∃ j : Nat, j ≤ l.length ∧ i = .int .i64 j ∧ Hid (St w (wB.heap.size + 1) w3 [(w.heap.size, #[.int .i64 p, .int .i64 U, .slice a l.length c], 26), (wB.heap.size, #[.int .i64 k], 2)]) ∧ Hid (Acc gb (gb + 1) 2 w3 (.slice (some ⟨gb, 0, none⟩) bs.length cb) bs) ∧ Hid (Ip (fun z => w.heap.size + 1 ≤ z ∧ z < w3.heap.size ∧ z ≠ gb) w3 [.slice (some ⟨g4, 0, none⟩) l.length c4] (mapTo (elimRow (opsI p) k bs.length (timesR p N P)) (R1.set bs.length (timesR p N P)) j))) (fun i _ => l.length - (intOf i).toNat)
              case atStart =>
                refine ⟨0, Nat.zero_le _, rfl, hub6, hbs6.out, ?_⟩
                rw [mapTo_zero]
                exact ip6.out.wk (fun z h => ⟨h.1, by rw [HON6.out]; exact h.2.1, h.2.2⟩)
              case round =>
                obtain ⟨j, hj, rfl, hs3, hb3, hip⟩ := hrel
                by_cases hlt3 : j < l.length
                · have hjX : j < (R1.set bs.length (timesR p N P)).length := by rw [List.length_set, HR1L.out]; exact hlt3
                  have hjm : j < (mapTo (elimRow (opsI p) k bs.length (timesR p N P)) (R1.set bs.length (timesR p N P)) j).length := by rw [mapTo_length]; exact hjX
                  have hdm : bs.length < (mapTo (elimRow (opsI p) k bs.length (timesR p N P)) (R1.set bs.length (timesR p N P)) j).length := by rw [mapTo_length, List.length_set]; exact hdl
                  have hmg := mapTo_get (elimRow (opsI p) k bs.length (timesR p N P)) (R1.set bs.length (timesR p N P)) j hjX hjm
                  have hms := Lib.hid (mapTo_succ (elimRow (opsI p) k bs.length (timesR p N P)) (R1.set bs.length (timesR p N P)) j hjX)
                  have hdX : bs.length < (R1.set bs.length (timesR p N P)).length := by rw [List.length_set]; exact hdl
                  have hfx : elimRow (opsI p) k bs.length (timesR p N P) bs.length (R1.set bs.length (timesR p N P))[bs.length] = (R1.set bs.length (timesR p N P))[bs.length] := by unfold elimRow; rw [if_pos rfl]
                  have hmd := mapTo_fix (elimRow (opsI p) k bs.length (timesR p N P)) (R1.set bs.length (timesR p N P)) j bs.length (by rw [List.length_set]; exact hdl) hfx hdm
                  rw [List.getElem_set_self] at hmd
                  have gQ : GoodR p U l.length (R1.set bs.length (timesR p N P))[j] := by
                    rcases List.mem_or_eq_of_mem_set (List.getElem_mem hjX) with h | h
                    · exact HR1G.out _ h
                    · rw [h]; exact GXX.out
                  have hsk : Hid (j = bs.length → mapTo (elimRow (opsI p) k bs.length (timesR p N P)) (R1.set bs.length (timesR p N P)) (j + 1) = mapTo (elimRow (opsI p) k bs.length (timesR p N P)) (R1.set bs.length (timesR p N P)) j) := Lib.hid (fun h => mapTo_skip _ _ j hjX (by subst h; exact hfx))
                  have hel : Hid (¬ j = bs.length → elimRow (opsI p) k bs.length (timesR p N P) j (R1.set bs.length (timesR p N P))[j] = addR p (p - (R1.set bs.length (timesR p N P))[j].1.getD k 0) (R1.set bs.length (timesR p N P))[j] (timesR p N P)) := Lib.hid (fun h => by unfold elimRow; rw [if_neg h]; rfl)
                  obtain ⟨q0, q1, x0, x1, hrq, hfq, hq4, -⟩ := ip_two rfl hip.out j hjm
                  obtain ⟨d0, d1, x2, x3, hrd2, -, -, -⟩ := ip_two rfl hip.out bs.length hdm
                  rw [hmg] at hrq
                  rw [hmd] at hrd2
                  clear hmg hmd hfx
                  generalize (R1.set bs.length (timesR p N P))[j] = Q at *
                  obtain ⟨gQ1, gQ2, gQ3, gQ4⟩ := gQ
                  have HRQ := Lib.hid hrq
                  have HRD := Lib.hid hrd2
                  have zq := rd_cons rfl hrq
                  obtain ⟨aq0, cq0, eq0, _⟩ := rd_list zq.1
                  obtain ⟨aq1, cq1, eq1, _⟩ := rd_list zq.2
                  rw [gQ1] at eq0
                  rw [gQ2] at eq1
                  subst eq0 eq1
                  have zd := rd_cons rfl hrd2
                  obtain ⟨ad0, cd0, ed0, _⟩ := rd_list zd.1
                  obtain ⟨ad1, cd1, ed1, _⟩ := rd_list zd.2
                  rw [GXX.out.1] at ed0
                  rw [GXX.out.2.1] at ed1
                  subst ed0 ed1
                  obtain ⟨b6, o6, rfl, nq, _⟩ := rd_int_at zq.1 k (by rw [gQ1]; omega)
                  have eQ : Q.1.getD k 0 = Q.1[k]'(by rw [gQ1]; omega) := by simp [List.getD, show k < Q.1.length by rw [gQ1]; omega]
                  rw [eQ] at hel
                  have gM := gQ3.get k (by rw [gQ1]; omega)
                  generalize Q.1[k]'(by rw [gQ1]; omega) = M at *
                  have GQ1 := Lib.hid gQ1
                  have GQ2 := Lib.hid gQ2
                  have GQ3 := Lib.hid gQ3
                  have GQ4 := Lib.hid gQ4
                  clear eQ zq zd hrq hrd2 gQ1 gQ2 gQ3 gQ4
                  have hjl : (j : Int) < l.length := by omega
                  by_cases hjd : j = bs.length
                  · have hsk2 := Lib.hid (hsk.out hjd)
                    subst hjd
                    go_wp2_with fail
                    go_roundw
                    case rel =>
                      refine ⟨bs.length + 1, hlt3, by go_num, ?_⟩
                      rw [hsk2.out]
                      exact ⟨hs3.out.step (belowA _ _), hb3.out.mono (belowA _ _), (hip.out.mono (belowA _ _)).wk (fun z h => ⟨h.1, by simp; omega, h.2.2⟩)⟩
                    case measure => simp [intOf]; omega
                  · have hel2 := Lib.hid (hel.out hjd)
                    have hjn : ((j : Int) != bs.length) = true := by simp; omega
                    have hqA := ((St.start wr).alloc #[.slice (some ⟨b6, o6, none⟩) (U + 1) cq0, .slice aq1 l.length cq1] 53 rfl).drew
                    have hsA := (hs3.out.step (belowA wr (.cells #[.slice (some ⟨b6, o6, none⟩) (U + 1) cq0, .slice aq1 l.length cq1] 53))).drew
                    have hw1 : IntKind.i64.wrap (p - M) = p - M := i64_in _ (by omega)
                    have hkU2 : (k : Int) < (U : Int) + 1 := by omega
                    clear hjd
                    go_wp2_with fail
                    refine wp_region_noPanic (wp_region_el (fun w' => w'.cell? ⟨wr.heap.size, 0, none⟩ = some (.slice (some ⟨b6, o6, none⟩) (U + 1) cq0) ∧ w'.cell? ⟨wr.heap.size, 1, none⟩ = some (.slice aq1 l.length cq1) ∧ w'.cell? ⟨w.heap.size, 0, none⟩ = some (.int .i64 p) ∧ w'.cell? ⟨wB.heap.size, 0, none⟩ = some (.int .i64 k) ∧ w'.cell? ⟨g4, bs.length * 2, none⟩ = some (.slice ad0 (U + 1) cd0) ∧ w'.cell? ⟨g4, bs.length * 2 + 1, none⟩ = some (.slice ad1 l.length cd1) ∧ w'.cell? ⟨b6, o6 + k, none⟩ = some (.int .i64 M)) [(0, 0), (1, 0), (2, 0), (3, 0), (4, 0), (5, 0), (6, 0), (7, 0), (8, 0), (9, 0), (10, 0), (11, 0), (12, 0), (13, 0), (14, 0), (15, 0), (16, 0), (17, 1), (18, 0), (19, 2)] (by kernel_rfl) (by kernel_rfl) (by kernel_rfl) rfl ?_ (fun _ _ _ _ _ h => h) ?_)
                    · exact ⟨hqA.cellAt 0 rfl 0 rfl, hqA.cellAt 0 rfl 1 rfl, hsA.cellAt 0 rfl 0 rfl, hsA.cellAt 1 rfl 0 rfl, cellL hqA.bel x2, cellL hqA.bel x3, cellL hqA.bel nq⟩
                    (repeat (first | (apply el_skip rfl (by rfl); try simp only [Act.put, List.setIfInBounds_toArray, List.set_cons_zero, List.set_cons_succ]) | (apply el_float rfl (by rfl); (· (intro w' hS; go_simp <;> with_reducible rfl)); (try simp only [Act.put, List.setIfInBounds_toArray, List.set_cons_zero, List.set_cons_succ]))))
                    refine el_hard rfl (by rfl) (fun K hK => ?_)
                    go_wp2_with (go_at_call 46; refine (addTimes_c p (p - M) Q (timesR p N P) _ _ _ _ _ (Rd.mono HRQ.out hqA.bel) (Rd.mono HRD.out hqA.bel) (by rw [GQ1.out]; omega) (by rw [GQ2.out]; omega) hp0 hp3 (by omega) (by omega) GQ3.out GQ4.out GXX.out.2.2.1 GXX.out.2.2.2 (by rw [GQ1.out, GXX.out.1]; exact Nat.le_refl _) (by rw [GQ2.out, GXX.out.2.1]; exact Nat.le_refl _)).mono ?_; rintro e w6 ⟨o2, o3, rfl, fr6, hb6⟩)
                    rw [← hel2.out] at fr6
                    have hqB := hqA.step hb6
                    have hsB := hsA.step hb6
                    have hjx2 := hjX
                    have eL1 : (elimRow (opsI p) k bs.length (timesR p N P) j Q).1.length = U + 1 := by rw [hel2.out]; simp [addR, addL, GQ1.out, GXX.out.1]
                    have eL2 : (elimRow (opsI p) k bs.length (timesR p N P) j Q).2.length = l.length := by rw [hel2.out]; simp [addR, addL, GQ2.out, GXX.out.2.1]
                    have zr := rd_cons rfl fr6.rd
                    obtain ⟨a2, c2, e2, _⟩ := rd_list zr.1
                    obtain ⟨a3, c3, e3, _⟩ := rd_list zr.2
                    rw [eL1] at e2
                    rw [eL2] at e3
                    subst e2 e3
                    have ip7 := Lib.hid (hip.out.mono hqB.bel)
                    have iv7 := Lib.hid (Ip.of_iv fr6.iv)
                    have x0' := cellL hqB.bel x0
                    have hbs8 := Lib.hid (hb3.out.mono hqB.bel)
                    obtain ⟨r0, r1, x0', x1', -, hf7, hg7, -⟩ := ip_two rfl ip7.out j hjm
                    have y0' := hf7 (j * 2)
                    have y1' := hf7 (j * 2 + 1)
                    refine ⟨⟨hqB.cellAt 0 rfl 0 rfl, hqB.cellAt 0 rfl 1 rfl, hsB.cellAt 0 rfl 0 rfl, hsB.cellAt 1 rfl 0 rfl, cellL hqB.bel x2, cellL hqB.bel x3, cellL hqB.bel nq⟩, ?_⟩
                    clear eL1 eL2 zr fr6 hf7
                    have hzz : wr.heap.size + 1 ≤ w6.heap.size := by have := hb6.size; simpa using this
                    (repeat (first | (apply el_skip rfl (by rfl); try simp only [Act.put, List.setIfInBounds_toArray, List.set_cons_zero, List.set_cons_succ]) | (apply el_float rfl (by rfl); (· (intro w' hS; go_simp <;> with_reducible rfl)); (try simp only [Act.put, List.setIfInBounds_toArray, List.set_cons_zero, List.set_cons_succ]))))
                    refine el_last rfl (by rfl) (fun K hK => ?_)
                    go_wp2_with fail
                    refine el_nil (NoPanic.normal ?_)
                    go_wp2_with fail
                    go_roundw
                    case rel =>
                      have hon7 := ((OnlyAt.refl [g4] w6).setCell (p := ⟨g4, j * 2, none⟩) (by simp) (.slice a2 (U + 1) c2)).setCell (p := ⟨g4, j * 2 + 1, none⟩) (by simp) (.slice a3 l.length c3)
                      have ip8 := ip_put2 rfl ip7.out j hjm iv7.out (fun z h1 h2 => by have h3 : _ ≤ z := h2.1; simp at h3; omega)
                      rw [hms.out] at ip8
                      refine ⟨j + 1, hlt3, by go_num, ?_, ?_, ?_⟩
                      · exact hsB.butIv (OnlyAt.but hon7) (fun z hz => by simp at hz; subst hz; exact Nat.le_of_succ_le hgd4.1) (fun x hx hp => by simp at hx hp; rcases hx with rfl | rfl <;> simp at hp <;> omega)
                      · exact hbs8.out.frame (fun z h1 h2 => hon7.block z (by simp; omega))
                      · refine ip8.wk (fun z h => ?_)
                        have hs7 := hon7.size
                        rcases h with h | h
                        · exact ⟨h.1, by omega, h.2.2⟩
                        · have h3 : _ ≤ z := h.1
                          simp at h3
                          have := hgb.out
                          have := hs3.out.hi
                          exact ⟨by omega, by omega, by omega⟩
                    case measure => simp [intOf]; omega
                · obtain rfl : j = l.length := by omega
                  rw [← hpiv.out] at hip
                  have hbA := belowA wr (.cells #[.int .i64 k] 2)
                  have ub := hs3.out.cellAt 1 rfl 0 rfl
                  have hgb7 : gb + 1 ≤ wr.heap.size := by have := hgb.out; have := hs3.out.hi; omega
                  have hbsA := Lib.hid (hb3.out.mono hbA)
                  go_wp2_with (refine wpList_plain rfl (fun K hK => wp_append_int1 _ _ _ _ rfl E_ints rfl hbsA.out (by simp; omega) ⟨by omega, by omega⟩ ⟨wr.heap.size, 0, none⟩ 1 rfl (cell_at_block (heap_alloc_new wr _)) (by omega) ?_); intro g' c' w7 hgg hA7 hB7 hlt7; refine hK _ _ ?_)
                  go_wp2_with fail
                  go_roundw
                  case rel =>
                    refine ⟨k + 1, g', c', hlt, by go_num, ?_⟩
                    rw [hsame.out]
                    have hgbo := hgb.out
                    have hz7 := hB7.size
                    simp at hz7 hgg
                    refine ⟨by simp, ?_, by simpa [Hid] using hA7, ⟨by rcases hgg with h | h <;> omega, hlt7⟩, ?_⟩
                    · exact ((hs3.out.step hbA).butIv hB7 (fun z hz => by simp at hz; subst hz; omega) (fun x hx hp => by simp at hx hp; rcases hx with rfl | rfl <;> simp at hp <;> omega)).low (by omega) (by omega) (fun x hx => by simp at hx; subst hx; simp)
                    · refine ((hip.out.mono hbA).frame (fun z h1 h2 => hB7.block z h2 (by simp; exact h1.2.2))).wk (fun z h => ⟨h.1, by omega, by rcases hgg with h | h <;> omega⟩)
                  case measure => simp [intOf]; omega
        · obtain rfl : k = U := by omega
          go_wp2_with fail
          refine bodyPost_ret (v := .tuple #[.slice (some ⟨g4, 0, none⟩) l.length c4, .slice (some ⟨gb, 0, none⟩) (elimE (opsI p) (rowsI l.length 0 l) k).2.length cb]) (by simp [results, Tryz.results25, go_sem]) rfl ⟨_, _, rfl, ?_, ?_, hsl.out.bel⟩
          · have h : Fresh w.heap.size _ _ _ := hip.out.wk (B := fun z => w.heap.size ≤ z) (fun z h => by have := h.1; omega)
            unfold elimI
            simp only [Int.toNat_natCast]
            exact h
          · have h := hbs.out.fresh.lower (lo' := w.heap.size) (by have := hgb.out.1; omega)
            unfold elimI
            simp only [Int.toNat_natCast]
            exact h
theorem reduced_c (x : Sys) (v0 v1 v2 : Value) (w : World) (hx : Rd w [v0, v1, v2] x) (hok : validS x = true) :
    Calls Tryz.prog 25 #[.agg #[v0, v1, v2]] w fun e w' => ∃ vr vb, e = .returned (.tuple #[vr, vb]) ∧ Rd w' [vr] (elimI x).1 ∧ Rd w' [vb] (elimI x).2 ∧ Below w.heap.size w w' :=
  (reduced_f x v0 v1 v2 w hx (wideS_of hok)).mono fun e w' ⟨vr, vb, h1, h2, h3, h4⟩ => ⟨vr, vb, h1, h2.rd, h3.rd, h4⟩

end Go.Proofs.YthceklaoikeokaaGreatDoor
