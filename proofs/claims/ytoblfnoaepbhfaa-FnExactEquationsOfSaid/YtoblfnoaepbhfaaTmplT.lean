/-
  CONTRACTS: valid templates and operations; both sides.
-/
import Derived.Test.YtoblfnoaepbhfaaTmpl
import Derived.Test.YtoblfnoaepbhfaaPredT
namespace Go.Proofs.Ytoblfnoaepbhfaa
open Go.RowKit Go.Shelf Go.IntWalk
open Rep (Rd Own sz)
set_option linter.unusedSimpArgs false
set_option linter.unusedVariables false

set_option maxHeartbeats 400000 in
theorem validTemplate1_by (size : Int) (b : Nat) (w : World) (l : List RelT) (hc0 : w.cell? ⟨b, 0, none⟩ = some (.int .i64 size)) :
    PredRl 146 #[.pointer (some ⟨b, 0, none⟩)] w l (fun r => !relOk size r) := by
  intro W x v0 v1 hb hx _
  have hc0' := cellL hb hc0
  show Calls Try.prog 146 #[_, .pointer (some ⟨b, 0, none⟩)] W _
  have hb' := World.block_lt_of_cell? _ _ hc0'
  have HX := Lib.hid hx
  have z := rd_cons rfl hx
  obtain ⟨rfl, _⟩ := rd_i1 z.1
  obtain ⟨a, c, rfl, _⟩ := rd_list z.2
  clear hx z
  have hs := (St.start W).alloc #[.int .i64 x.1, .slice a x.2.length c] 31 rfl
  have hd0 := cellL hs.bel hc0'
  go_enter Try.func146, Try.ntmps146
  go_wp2_with fail
  refine (ValidRel_c size x _ _ _ (Rd.mono HX.out hs.bel)).mono ?_
  rintro e w1 ⟨rfl, hb1⟩
  go_wp2_with fail
  go_ret
  exact ⟨rfl, (hs.step hb1).bel⟩
set_option maxRecDepth 100000 in
set_option maxHeartbeats 1000000 in
theorem ValidTemplate_c (x : Tmpl) (v0 v1 : Value) (w : World) (hx : Rd w [v0, v1] x) :
    Calls Try.prog 111 #[.agg #[v0, v1]] w fun e w' => e = .returned (.bool (tmplOk x)) ∧ Below w.heap.size w w' := by
  obtain ⟨p, l⟩ := x
  have z := rd_cons rfl hx
  obtain ⟨rfl, _⟩ := rd_i1 z.1
  have RL := Lib.hid z.2
  obtain ⟨a, c, rfl, hr⟩ := rd_list RL.out
  have hb := (rdSl_len hr).2
  unfold maxLen at hb
  clear hx z hr
  have hs := (St.start w).alloc #[.int .i64 p, .slice a l.length c] 52 rfl
  have eg : ∀ args w, (callFunc 146 args).run Try.prog w = .ok (.enter 146 args) w := enters_of Try.func146 (by kernel_rfl) rfl
  go_enter Try.func111, Try.ntmps111
  go_wp2_with fail
  refine (isSize_c p _).mono ?_
  rintro e w1 ⟨rfl, rfl⟩
  cases hp : inB p 1 4 with
  | false =>
    have HP := Lib.hid hp
    clear hp
    go_wp2_with fail
    go_ret
    exact ⟨ret_bool (by simp [tmplOk, HP.out]), hs.bel⟩
  | true =>
    have HP := Lib.hid hp
    clear hp
    by_cases hl : l.length ≤ 6
    · have HL := Lib.hid hl
      go_wp2_with fail
      refine (containsRels_c l _ 146 _ _ _ (Rd.mono RL.out hs.bel) eg (validTemplate1_by p w.heap.size _ l (hs.cellAt 0 rfl 0 rfl))).mono ?_
      rintro e w1 ⟨rfl, hb1⟩
      go_wp2_with fail
      go_ret
      refine ⟨ret_bool ?_, (hs.step hb1).bel⟩
      unfold tmplOk
      simp only [HP.out, decide_eq_true HL.out, Bool.true_and]
      rw [← all_of_any]
    · have HL := Lib.hid hl
      go_wp2_with fail
      go_ret
      exact ⟨ret_bool (by simp only [tmplOk, decide_eq_false HL.out, Bool.and_false, Bool.false_and]), hs.bel⟩
theorem pow64 {s a : Int} (hs : 1 ≤ s ∧ s ≤ 4) (ha : 1 ≤ a ∧ a ≤ 3) : 1 ≤ s ^ a.toNat ∧ s ^ a.toNat ≤ 64 := by
  obtain rfl | rfl | rfl : a = 1 ∨ a = 2 ∨ a = 3 := by omega
  all_goals (obtain rfl | rfl | rfl | rfl : s = 1 ∨ s = 2 ∨ s = 3 ∨ s = 4 := by omega) <;> decide
set_option maxRecDepth 100000 in
set_option maxHeartbeats 4000000 in
theorem l01Template_c (x : Tmpl) (pb : Nat) (v0 v1 : Value) (w : World) (hx : Rd w [v0, v1] x) (hc0 : w.cell? ⟨pb, 0, none⟩ = some v0) (hc1 : w.cell? ⟨pb, 1, none⟩ = some v1) :
    Calls Try.prog 102 #[.pointer (some ⟨pb, 0, none⟩)] w fun e w' => e = .returned (.bool (tmplOk x)) ∧ Below w.heap.size w w' := by
  obtain ⟨size, l⟩ := x
  have z := rd_cons rfl hx
  obtain ⟨rfl, _⟩ := rd_i1 z.1
  have HRL := Lib.hid z.2
  obtain ⟨a, c, rfl, hrl⟩ := rd_list HRL.out
  have hb0 := (rdSl_len hrl).2
  unfold maxLen at hb0
  have HL := Lib.hid hrl
  clear hx z hrl
  have hc0_ := cellL (St.start w).bel hc0
  clear hc0_
  have hc0_ := cellL (St.start w).bel hc0
  have hc1_ := cellL (St.start w).bel hc1
  go_enter Try.func102, Try.ntmps102
  go_wp2_with fail
  go_loopw [3] (fun i wl => ∃ k : Nat, k ≤ l.length ∧ i = .int .i64 k ∧ Hid (Below w.heap.size w wl) ∧ Hid (∀ j (hj : j < l.length), j < k → relOk size l[j] = true)) (fun i _ => l.length - (intOf i).toNat)
  case atStart => exact ⟨0, Nat.zero_le _, rfl, Below.refl _ _, fun j _ hj => absurd hj (Nat.not_lt_zero _)⟩
  case round =>
    obtain ⟨k, hk, rfl, hbl, hr⟩ := hrel
    have hsr := (St.start w).step hbl.out
    have hc0_ := cellL hsr.bel hc0
    have hc1_ := cellL hsr.bel hc1
    clear hbl
    by_cases hlt : k < l.length
    · obtain ⟨b, o, u0, u1, rfl, q0, q1, hy⟩ := rdSl_two rfl HL.out k hlt
      have HY := Lib.hid hy
      clear hy
      clear hc0_ hc1_
      have hc0_ := cellL hsr.bel hc0
      have hc1_ := cellL hsr.bel hc1
      have q0_ := cellL hsr.bel q0
      clear hc0_ hc1_ q0_
      have hc0_ := cellL hsr.bel hc0
      have hc1_ := cellL hsr.bel hc1
      have q0_ := cellL hsr.bel q0
      have q1_ := cellL hsr.bel q1
      clear hc0_ hc1_ q0_ q1_
      have hc0_ := cellL hsr.bel hc0
      have hc1_ := cellL hsr.bel hc1
      have q0_ := cellL hsr.bel q0
      have q1_ := cellL hsr.bel q1
      have hkl : (k : Int) < l.length := by omega
      cases h4 : relOk size l[k] with
      | false =>
        have H4 := Lib.hid (show tmplOk (size, l) = false by
          simp only [tmplOk, Bool.and_eq_false_iff]
          exact .inr (List.all_eq_false.2 ⟨_, List.getElem_mem hlt, by simp [h4]⟩))
        go_upto_region 4 with fail
        refine wp_region_noPanic (wp_region_tree4 (fun w' => w'.cell? ⟨pb, 0, none⟩ = some (.int .i64 size) ∧ w'.cell? ⟨pb, 1, none⟩ = some (.slice (some ⟨b, o, none⟩) l.length c) ∧ w'.cell? ⟨b, o + k * 2, none⟩ = some (u0) ∧ w'.cell? ⟨b, o + k * 2 + 1, none⟩ = some (u1)) (.float 0 (.float 1 (.float 2 (.float 3 (.float 4 (.float 5 (.float 6 (.float 7 (.float 8 (.float 9 (.hard 10 (.float 11 .nil)))))))))))) (by kernel_rfl) (by kernel_rfl) (by kernel_rfl) rfl ?_ (fun _ _ _ _ _ h => h) ?_)
        · exact ⟨cellL (hsr.drew).bel hc0, cellL (hsr.drew).bel hc1, cellL (hsr.drew).bel q0, cellL (hsr.drew).bel q1⟩
        have hs1 := hsr.drew
        clear hc0_ hc1_ q0_ q1_
        have hz_wd2 : wr.heap.size ≤ (wr.drew).heap.size := by simp
        generalize hgen_wd2 : wr.drew = wd2 at *
        have HG_wd2 := Lib.hid hgen_wd2
        clear hgen_wd2
        (repeat (first | (apply t4_skip rfl (by rfl); try simp only [Act.put, List.setIfInBounds_toArray, List.set_cons_zero, List.set_cons_succ]) | (apply t4_float rfl (by rfl); (· (intro w' hS; go_simp <;> with_reducible rfl)); (try simp only [Act.put, List.setIfInBounds_toArray, List.set_cons_zero, List.set_cons_succ]))))
        refine t4_hard rfl (by rfl) (fun K hK => ?_)
        go_wp2_with (go_at_call 51; refine (l01Ok_c size l[k] _ _ _ _ _ (Rd.mono HY.out hs1.bel) (cellL hs1.bel q0) (cellL hs1.bel q1)).mono ?_; rintro e w3 ⟨rfl, hbw3⟩)
        have hz_w3 : wd2.heap.size ≤ w3.heap.size := by have h9 := hbw3.size; (try simp at h9); omega
        have hs4 := hs1.step hbw3
        refine ⟨⟨cellL hs4.bel hc0, cellL hs4.bel hc1, cellL hs4.bel q0, cellL hs4.bel q1⟩, ?_⟩
        (repeat (first | (apply t4_skip rfl (by rfl); try simp only [Act.put, List.setIfInBounds_toArray, List.set_cons_zero, List.set_cons_succ]) | (apply t4_float rfl (by rfl); (· (intro w' hS; go_simp <;> with_reducible rfl)); (try simp only [Act.put, List.setIfInBounds_toArray, List.set_cons_zero, List.set_cons_succ]))))
        have hc0_ := cellL hs4.bel hc0
        have hc1_ := cellL hs4.bel hc1
        have q0_ := cellL hs4.bel q0
        have q1_ := cellL hs4.bel q1
        refine t4_nil (NoPanic.normal ?_)
        go_wp2_with fail
        go_ret
        exact ⟨ret_bool H4.out.symm, hs4.bel⟩
      | true =>
        have H4 := Lib.hid h4
        go_upto_region 4 with fail
        refine wp_region_noPanic (wp_region_tree4 (fun w' => w'.cell? ⟨pb, 0, none⟩ = some (.int .i64 size) ∧ w'.cell? ⟨pb, 1, none⟩ = some (.slice (some ⟨b, o, none⟩) l.length c) ∧ w'.cell? ⟨b, o + k * 2, none⟩ = some (u0) ∧ w'.cell? ⟨b, o + k * 2 + 1, none⟩ = some (u1)) (.float 0 (.float 1 (.float 2 (.float 3 (.float 4 (.float 5 (.float 6 (.float 7 (.float 8 (.float 9 (.hard 10 (.float 11 .nil)))))))))))) (by kernel_rfl) (by kernel_rfl) (by kernel_rfl) rfl ?_ (fun _ _ _ _ _ h => h) ?_)
        · exact ⟨cellL (hsr.drew).bel hc0, cellL (hsr.drew).bel hc1, cellL (hsr.drew).bel q0, cellL (hsr.drew).bel q1⟩
        have hs5 := hsr.drew
        clear hc0_ hc1_ q0_ q1_
        have hz_wd6 : wr.heap.size ≤ (wr.drew).heap.size := by simp
        generalize hgen_wd6 : wr.drew = wd6 at *
        have HG_wd6 := Lib.hid hgen_wd6
        clear hgen_wd6
        (repeat (first | (apply t4_skip rfl (by rfl); try simp only [Act.put, List.setIfInBounds_toArray, List.set_cons_zero, List.set_cons_succ]) | (apply t4_float rfl (by rfl); (· (intro w' hS; go_simp <;> with_reducible rfl)); (try simp only [Act.put, List.setIfInBounds_toArray, List.set_cons_zero, List.set_cons_succ]))))
        refine t4_hard rfl (by rfl) (fun K hK => ?_)
        go_wp2_with (go_at_call 51; refine (l01Ok_c size l[k] _ _ _ _ _ (Rd.mono HY.out hs5.bel) (cellL hs5.bel q0) (cellL hs5.bel q1)).mono ?_; rintro e w7 ⟨rfl, hbw7⟩)
        have hz_w7 : wd6.heap.size ≤ w7.heap.size := by have h9 := hbw7.size; (try simp at h9); omega
        have hs8 := hs5.step hbw7
        refine ⟨⟨cellL hs8.bel hc0, cellL hs8.bel hc1, cellL hs8.bel q0, cellL hs8.bel q1⟩, ?_⟩
        (repeat (first | (apply t4_skip rfl (by rfl); try simp only [Act.put, List.setIfInBounds_toArray, List.set_cons_zero, List.set_cons_succ]) | (apply t4_float rfl (by rfl); (· (intro w' hS; go_simp <;> with_reducible rfl)); (try simp only [Act.put, List.setIfInBounds_toArray, List.set_cons_zero, List.set_cons_succ]))))
        have hc0_ := cellL hs8.bel hc0
        have hc1_ := cellL hs8.bel hc1
        have q0_ := cellL hs8.bel q0
        have q1_ := cellL hs8.bel q1
        refine t4_nil (NoPanic.normal ?_)
        go_wp2_with fail
        go_roundw
        case rel =>
          refine ⟨k + 1, by omega, by go_num, hs8.bel, fun j hj hjk => ?_⟩
          rcases Nat.lt_or_ge j k with h | h
          · exact hr.out j hj h
          · obtain rfl : j = k := by omega
            exact H4.out
        case measure => simp [intOf]; omega
    · obtain rfl : k = l.length := by omega
      have HA := Lib.hid (show l.all (relOk size) = true by
        rw [List.all_eq_true]
        intro y hy
        obtain ⟨j, hj, rfl⟩ := List.getElem_of_mem hy
        exact hr.out j hj hj)
      have hkl : ¬ ((l.length : Int) < l.length) := by omega
      go_wp2_with fail
      refine (l01Size_c size _).mono ?_
      rintro e w9 ⟨rfl, rfl, rfl⟩
      cases h1 : inB size 1 4 with
      | false =>
        have H1 := Lib.hid (show tmplOk (size, l) = false by simp only [tmplOk, h1, Bool.false_and])
        clear h1
        go_wp2_with fail
        go_ret
        exact ⟨ret_bool H1.out.symm, hsr.bel⟩
      | true =>
        have H1 := Lib.hid (show tmplOk (size, l) = decide (l.length ≤ 6) by simp only [tmplOk, h1, HA.out, Bool.true_and, Bool.and_true])
        clear h1
        go_wp2_with fail
        go_ret
        exact ⟨ret_bool (by rw [H1.out]; (try simp); (try omega)), hsr.bel⟩

end Go.Proofs.Ytoblfnoaepbhfaa
