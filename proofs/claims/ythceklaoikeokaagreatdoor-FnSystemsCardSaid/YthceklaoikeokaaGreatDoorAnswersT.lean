/-
  CONTRACTS: AnswersOf, RelOfSystem; both sides.
-/
import Derived.Test.YthceklaoikeokaaGreatDoorAnswersS
namespace Go.Proofs.YthceklaoikeokaaGreatDoor
open Go.RowKit Go.Shelf Go.IntWalk
open Rep (Rd Own sz)
set_option linter.unusedSimpArgs false
set_option linter.unusedVariables false

theorem reduced_ok {s : Sys} (h : validS s = true) : (reducedF s).2.2.length ≤ 24 ∧ ∀ e, e ∈ (reducedF s).2.2 → eqnOk s.1 s.2.1 e = true := by
  have K := elim_ok h
  have hp := K.hp
  have hu := K.hu
  have hl := (validS_get (p := s.1) (u := s.2.1) (l := s.2.2) h).2.2.1
  have hle := K.le
  unfold reducedF
  simp only
  split
  · refine ⟨by simp, fun e he => ?_⟩
    simp only [List.mem_cons, List.not_mem_nil, or_false] at he
    subst he
    unfold eqnOk valsOk
    simp only [List.length_replicate, Bool.and_eq_true, decide_eq_true_eq, List.all_eq_true]
    refine ⟨⟨by omega, fun b hb => inB_mk ?_⟩, inB_mk (by omega)⟩
    have := List.eq_of_mem_replicate hb; omega
  · refine ⟨by simp; omega, fun e he => ?_⟩
    obtain ⟨r, hr, rfl⟩ := List.mem_map.1 he
    have hg := K.good r (List.mem_of_mem_take hr)
    unfold eqnOk valsOk
    simp only [Bool.and_eq_true, decide_eq_true_eq, List.all_eq_true]
    exact ⟨⟨by rw [hg.len]; omega, fun b hb => inB_mk (by have := hg.res b hb; omega)⟩, inB_mk (by have := hg.right; omega)⟩
theorem answersF_bad {x : Sys} (h : validS x = false) : answersF x = ([], 1) := by unfold answersF; rw [h]; rfl
theorem answersF_many {x : Sys} (h : validS x = true) (h2 : 500 < (countF x).1) : answersF x = ([], 3) := by unfold answersF; rw [if_pos h, if_pos h2]
theorem answersF_ok {x : Sys} (h : validS x = true) (h2 : ¬ 500 < (countF x).1) : answersF x = (answersS x, 0) := by unfold answersF; rw [if_pos h, if_neg h2]
theorem countF_code {x : Sys} (h : validS x = true) : (countF x).2 = 0 := by unfold countF; rw [if_pos h]; split <;> rfl
theorem countF_bad {x : Sys} (h : validS x = false) : countF x = (0, 1) := by unfold countF; rw [h]; rfl
theorem countF_bd (x : Sys) : 0 ≤ (countF x).1 ∧ (countF x).1 ≤ 1000000000 := by
  unfold countF
  split
  · rename_i h
    have K := elim_ok h
    split
    · decide
    · have := K.pow.2.2
      have hp := K.hp
      refine ⟨?_, this⟩
      show 0 ≤ x.1 ^ _
      exact Int.pow_nonneg (by omega)
  · decide
theorem answersS_small {x : Sys} (h : validS x = true) : (answersS x).length ≤ 531441 ∧ ∀ t, t ∈ answersS x → t.length ≤ 12 := by
  have K := elim_ok h
  have hp := K.hp
  have hu := K.hu
  refine ⟨Nat.le_trans (ansTo_length _ _ _ _) (pow12 _ _ (by omega) (by omega)), fun t ht => ?_⟩
  unfold answersS ansTo at ht
  obtain ⟨i, _, rfl⟩ := List.mem_map.1 (List.mem_filter.1 ht).1
  rw [digs_length]; omega
theorem mc_lists (l : List (List Int)) (b : Nat) (h : ∀ t, t ∈ l → t.length ≤ b) : (l.map List.length).sum ≤ l.length * b := by
  induction l with
  | nil => simp
  | cons x xs ih =>
    have h1 := h x (List.mem_cons_self ..)
    have h2 := ih (fun t ht => h t (List.mem_cons_of_mem _ ht))
    rw [List.map_cons, List.sum_cons, List.length_cons, Nat.add_mul]
    omega
theorem answersF_small (x : Sys) : ((answersF x).1.map List.length).sum ≤ 100000000 := by
  unfold answersF
  split
  · rename_i h
    split
    · simp
    · have h1 := answersS_small h
      have h2 := mc_lists _ 12 h1.2
      simp only; omega
  · simp
theorem relOfF_small (x : Sys) : ((relOfF x).1.2.map List.length).sum ≤ 100000000 := by
  unfold relOfF
  split
  · rename_i h
    split
    · simp
    · have h1 := answersS_small h
      have h2 := mc_lists _ 12 h1.2
      simp only; omega
  · simp
set_option maxRecDepth 100000 in
set_option maxHeartbeats 8000000 in
theorem AnswersOf_c (x : Sys) (v0 v1 v2 : Value) (w : World) (hx : Rd w [v0, v1, v2] x) :
    Calls Tryz.prog 13 #[.agg #[v0, v1, v2]] w fun e w' => ∃ v, e = .returned (.tuple #[v, .int .i64 (answersF x).2]) ∧ Fresh w.heap.size w' [v] (answersF x).1 ∧ Below w.heap.size w w' := by
  obtain ⟨p, u, l⟩ := x
  have HX := Lib.hid hx
  have z := rd_cons rfl hx
  obtain ⟨rfl, hIp⟩ := rd_i1 z.1
  have z2 := rd_cons rfl z.2
  obtain ⟨rfl, hIu⟩ := rd_i1 z2.1
  obtain ⟨a, c, rfl, _⟩ := rd_list z2.2
  clear hx z z2
  have hs1 := (St.start w).alloc #[.int .i64 p, .int .i64 u, .slice a l.length c] 26 (n := w.heap.size) (by simp)
  have k0_0 := hs1.cellAt 0 rfl 0 rfl
  have k0_1 := hs1.cellAt 0 rfl 1 rfl
  have k0_2 := hs1.cellAt 0 rfl 2 rfl
  go_enter Tryz.func13, Tryz.ntmps13
  go_wp2_with fail
  refine (CountAnswers_c (p, u, l) _ _ _ _ (Rd.mono HX.out hs1.bel)).mono ?_
  rintro e w2 ⟨rfl, hbw2⟩
  have hz_w2 : w.heap.size + 1 ≤ w2.heap.size := by have h9 := hbw2.size; (try simp at h9); omega
  have hs3 := hs1.step hbw2
  clear k0_0 k0_1 k0_2
  have k0_0 := hs3.cellAt 0 rfl 0 rfl
  have k0_1 := hs3.cellAt 0 rfl 1 rfl
  have k0_2 := hs3.cellAt 0 rfl 2 rfl
  have hcb := countF_bd (p, u, l)
  cases hok : validS (p, u, l) with
  | false =>
    rw [countF_bad hok]
    have HF := Lib.hid (answersF_bad hok)
    clear hok
    go_wp2_with fail
    refine bodyPost_ret (v := .tuple #[.slice none 0 0, .int .i64 1]) (by simp [results, Tryz.results13, go_sem]) rfl ⟨.slice none 0 0, ?_, ?_, hs3.bel⟩
    · rw [HF.out]
    · rw [HF.out]; exact fresh_nil none
  | true =>
    rw [countF_code hok]
    have HK := Lib.hid hok
    have HF1 := Lib.hid (answersF_many hok)
    have HF2 := Lib.hid (answersF_ok hok)
    clear hok
    generalize (countF (p, u, l)).1 = N at *
    by_cases hN : 500 < N
    · have HF := Lib.hid (HF1.out hN)
      go_wp2_with fail
      refine bodyPost_ret (v := .tuple #[.slice none 0 0, .int .i64 3]) (by simp [results, Tryz.results13, go_sem]) rfl ⟨.slice none 0 0, ?_, ?_, hs3.bel⟩
      · rw [HF.out]
      · rw [HF.out]; exact fresh_nil none
    · have HF := Lib.hid (HF2.out (by omega))
      have hlo := hs3.hi
      go_wp2_with fail
      refine (answersOf_c (p, u, l) _ _ _ _ (Rd.mono HX.out hs3.bel) HK.out).mono ?_
      rintro e w4 ⟨v, rfl, fr, hbw4⟩
      have hz_w4 : w2.heap.size ≤ w4.heap.size := by have h9 := hbw4.size; (try simp at h9); omega
      have hs5 := hs3.step hbw4
      clear k0_0 k0_1 k0_2
      have k0_0 := hs5.cellAt 0 rfl 0 rfl
      have k0_1 := hs5.cellAt 0 rfl 1 rfl
      have k0_2 := hs5.cellAt 0 rfl 2 rfl
      have HFR := Lib.hid fr
      clear fr
      go_wp2_with fail
      refine bodyPost_ret (v := .tuple #[v, .int .i64 0]) (by simp [results, Tryz.results13, go_sem]) rfl ⟨v, ?_, ?_, hs5.bel⟩
      · rw [HF.out]
      · rw [HF.out]; exact HFR.out.lower (by omega)
theorem relOfF_bad {x : Sys} (h : validS x = false) : relOfF x = ((0, []), 1) := by unfold relOfF; rw [h]; rfl
theorem relOfF_wide {x : Sys} (h : validS x = true) (h2 : 4 < x.2.1) : relOfF x = ((0, []), 2) := by unfold relOfF; rw [if_pos h, if_pos h2]
theorem relOfF_ok {x : Sys} (h : validS x = true) (h2 : ¬ 4 < x.2.1) : relOfF x = ((x.2.1, answersS x), 0) := by unfold relOfF; rw [if_pos h, if_neg h2]

end Go.Proofs.YthceklaoikeokaaGreatDoor
