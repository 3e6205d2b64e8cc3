/-
  CONTRACTS: AnswersOf, RelOfSystem; both sides.
-/
import Derived.Test.YtkbeihkjhmillaaAnswersS
namespace Go.Proofs.Ytkbeihkjhmillaa
open Go.RowKit Go.Shelf Go.IntWalk
open Rep (Rd Own sz)
set_option linter.unusedSimpArgs false
set_option linter.unusedVariables false

theorem l07Answers_c (p U : Nat) (eqs : List Eqn) (sb : Nat) (w0 : World) (a : Option Addr) (c : Nat) (hl : Rd w0 [.slice a eqs.length c] eqs) (c0 : w0.cell? ⟨sb, 0, none⟩ = some (.int .i64 p)) (c1 : w0.cell? ⟨sb, 1, none⟩ = some (.int .i64 U)) (c2 : w0.cell? ⟨sb, 2, none⟩ = some (.slice a eqs.length c))
    (hp2 : 2 ≤ p) (hp3 : p ≤ 3) (hu1 : 1 ≤ U) (hu : U ≤ 12) (hel : eqs.length ≤ 1000) (he : ∀ e, e ∈ eqs → eqnOk p U e = true) (m : Nat) : AnsSpec p U eqs sb w0 m :=
  Nat.strongRecOn m (fun m ih => ans_step p U eqs sb w0 a c hl c0 c1 c2 hp2 hp3 hu1 hu hel he m ih)
theorem ip_nil {α : Type} [Rep α] {A : Nat → Prop} {w : World} {a : Option Addr} {c : Nat} (hc : c ≤ maxLen) : Ip A w [.slice a 0 c] ([] : List α) := ⟨[], ⟨_, rfl, .inl ⟨rfl, rfl, a, c, rfl, hc⟩⟩, by simp, by simp⟩
theorem reduced_ok {s : Sys} (h : validS s = true) : (reducedF s).2.2.length ≤ 24 ∧ ∀ e, e ∈ (reducedF s).2.2 → eqnOk s.1 s.2.1 e = true := by
  have K := elim_ok h
  have hp := K.hp
  have hu := K.hu
  have hl := K.hl
  have hle := K.le
  unfold reducedF
  simp only
  split
  · refine ⟨by simp, fun e he => ?_⟩
    simp only [List.mem_cons, List.not_mem_nil, or_false] at he
    subst he
    unfold eqnOk valsOk
    simp only [List.length_replicate, Bool.and_eq_true, decide_eq_true_eq, List.all_eq_true]
    refine ⟨⟨by omega, fun b hb => inB_mk ?_⟩, inB_mk (by omega)⟩
    have := List.eq_of_mem_replicate hb; omega
  · refine ⟨by simp; omega, fun e he => ?_⟩
    obtain ⟨r, hr, rfl⟩ := List.mem_map.1 he
    have hg := K.good r (List.mem_of_mem_take hr)
    unfold eqnOk valsOk
    simp only [Bool.and_eq_true, decide_eq_true_eq, List.all_eq_true]
    exact ⟨⟨by rw [hg.len]; omega, fun b hb => inB_mk (by have := hg.res b hb; omega)⟩, inB_mk (by have := hg.right; omega)⟩
theorem answersF_bad {x : Sys} (h : validS x = false) : answersF x = ([], 1) := by unfold answersF; rw [h]; rfl
theorem answersF_many {x : Sys} (h : validS x = true) (h2 : 500 < (countF x).1) : answersF x = ([], 3) := by unfold answersF; rw [if_pos h, if_pos h2]
theorem answersF_ok {x : Sys} (h : validS x = true) (h2 : ¬ 500 < (countF x).1) : answersF x = (answersS x, 0) := by unfold answersF; rw [if_pos h, if_neg h2]
theorem countF_code {x : Sys} (h : validS x = true) : (countF x).2 = 0 := by unfold countF; rw [if_pos h]; split <;> rfl
theorem countF_bad {x : Sys} (h : validS x = false) : countF x = (0, 1) := by unfold countF; rw [h]; rfl
theorem countF_bd (x : Sys) : 0 ≤ (countF x).1 ∧ (countF x).1 ≤ 1000000000 := by
  unfold countF
  split
  · rename_i h
    have K := elim_ok h
    split
    · decide
    · have := K.pow.2.2
      have hp := K.hp
      refine ⟨?_, this⟩
      show 0 ≤ x.1 ^ _
      exact Int.pow_nonneg (by omega)
  · decide
theorem answersS_small {x : Sys} (h : validS x = true) : (answersS x).length ≤ 531441 ∧ ∀ t, t ∈ answersS x → t.length ≤ 12 := by
  have K := elim_ok h
  have hp := K.hp
  have hu := K.hu
  refine ⟨Nat.le_trans (ansTo_length _ _ _ _) (pow12 _ _ (by omega) (by omega)), fun t ht => ?_⟩
  unfold answersS ansTo at ht
  obtain ⟨i, _, rfl⟩ := List.mem_map.1 (List.mem_filter.1 ht).1
  rw [digs_length]; omega
theorem mc_lists (l : List (List Int)) (b : Nat) (h : ∀ t, t ∈ l → t.length ≤ b) : (l.map List.length).sum ≤ l.length * b := by
  induction l with
  | nil => simp
  | cons x xs ih =>
    have h1 := h x (List.mem_cons_self ..)
    have h2 := ih (fun t ht => h t (List.mem_cons_of_mem _ ht))
    rw [List.map_cons, List.sum_cons, List.length_cons, Nat.add_mul]
    omega
theorem answersF_small (x : Sys) : ((answersF x).1.map List.length).sum ≤ 100000000 := by
  unfold answersF
  split
  · rename_i h
    split
    · simp
    · have h1 := answersS_small h
      have h2 := mc_lists _ 12 h1.2
      simp only; omega
  · simp
theorem relOfF_small (x : Sys) : ((relOfF x).1.2.map List.length).sum ≤ 100000000 := by
  unfold relOfF
  split
  · rename_i h
    split
    · simp
    · have h1 := answersS_small h
      have h2 := mc_lists _ 12 h1.2
      simp only; omega
  · simp
set_option maxRecDepth 100000 in
set_option maxHeartbeats 8000000 in
theorem AnswersOf_c (x : Sys) (v0 v1 v2 : Value) (w : World) (hx : Rd w [v0, v1, v2] x) :
    Calls Try.prog 56 #[.agg #[v0, v1, v2]] w fun e w' => ∃ v, e = .returned (.tuple #[v, .int .i64 (answersF x).2]) ∧ Fresh w.heap.size w' [v] (answersF x).1 ∧ Below w.heap.size w w' := by
  obtain ⟨p, u, l⟩ := x
  have HX := Lib.hid hx
  have z := rd_cons rfl hx
  obtain ⟨rfl, hIp⟩ := rd_i1 z.1
  have z2 := rd_cons rfl z.2
  obtain ⟨rfl, hIu⟩ := rd_i1 z2.1
  obtain ⟨a, c, rfl, _⟩ := rd_list z2.2
  clear hx z z2
  have hs1 := (St.start w).alloc #[.int .i64 p, .int .i64 u, .slice a l.length c] 31 (n := w.heap.size) (by simp)
  have k0_0 := hs1.cellAt 0 rfl 0 rfl
  have k0_1 := hs1.cellAt 0 rfl 1 rfl
  have k0_2 := hs1.cellAt 0 rfl 2 rfl
  go_enter Try.func56, Try.ntmps56
  go_wp2_with fail
  refine (CountAnswers_c (p, u, l) _ _ _ _ (Rd.mono HX.out hs1.bel)).mono ?_
  rintro e w2 ⟨rfl, hbw2⟩
  have hz_w2 : w.heap.size + 1 ≤ w2.heap.size := by have h9 := hbw2.size; (try simp at h9); omega
  have hs3 := hs1.step hbw2
  clear k0_0 k0_1 k0_2
  have k0_0 := hs3.cellAt 0 rfl 0 rfl
  have k0_1 := hs3.cellAt 0 rfl 1 rfl
  have k0_2 := hs3.cellAt 0 rfl 2 rfl
  have hcb := countF_bd (p, u, l)
  cases hok : validS (p, u, l) with
  | false =>
    rw [countF_bad hok]
    have HF := Lib.hid (answersF_bad hok)
    clear hok
    go_wp2_with fail
    refine bodyPost_ret (v := .tuple #[.slice none 0 0, .int .i64 1]) (by simp [results, Try.results56, go_sem]) rfl ⟨.slice none 0 0, ?_, ?_, hs3.bel⟩
    · rw [HF.out]
    · rw [HF.out]; exact fresh_nil none
  | true =>
    rw [countF_code hok]
    have HK := Lib.hid hok
    have HF1 := Lib.hid (answersF_many hok)
    have HF2 := Lib.hid (answersF_ok hok)
    clear hok
    generalize (countF (p, u, l)).1 = N at *
    by_cases hN : 500 < N
    · have HF := Lib.hid (HF1.out hN)
      go_wp2_with fail
      refine bodyPost_ret (v := .tuple #[.slice none 0 0, .int .i64 3]) (by simp [results, Try.results56, go_sem]) rfl ⟨.slice none 0 0, ?_, ?_, hs3.bel⟩
      · rw [HF.out]
      · rw [HF.out]; exact fresh_nil none
    · have HF := Lib.hid (HF2.out (by omega))
      have hlo := hs3.hi
      go_wp2_with fail
      refine (answersOf_c (p, u, l) _ _ _ _ (Rd.mono HX.out hs3.bel) HK.out).mono ?_
      rintro e w4 ⟨v, rfl, fr, hbw4⟩
      have hz_w4 : w2.heap.size ≤ w4.heap.size := by have h9 := hbw4.size; (try simp at h9); omega
      have hs5 := hs3.step hbw4
      clear k0_0 k0_1 k0_2
      have k0_0 := hs5.cellAt 0 rfl 0 rfl
      have k0_1 := hs5.cellAt 0 rfl 1 rfl
      have k0_2 := hs5.cellAt 0 rfl 2 rfl
      have HFR := Lib.hid fr
      clear fr
      go_wp2_with fail
      refine bodyPost_ret (v := .tuple #[v, .int .i64 0]) (by simp [results, Try.results56, go_sem]) rfl ⟨v, ?_, ?_, hs5.bel⟩
      · rw [HF.out]
      · rw [HF.out]; exact HFR.out.lower (by omega)
set_option maxRecDepth 100000 in
set_option maxHeartbeats 8000000 in
theorem sAnswersOf_c (x : Sys) (v0 v1 v2 : Value) (w : World) (hx : Rd w [v0, v1, v2] x) :
    Calls Try.prog 57 #[.agg #[v0, v1, v2]] w fun e w' => ∃ v, e = .returned (.tuple #[v, .int .i64 (answersF x).2]) ∧ Fresh w.heap.size w' [v] (answersF x).1 ∧ Below w.heap.size w w' := by
  obtain ⟨p, u, l⟩ := x
  have HX := Lib.hid hx
  have z := rd_cons rfl hx
  obtain ⟨rfl, hIp⟩ := rd_i1 z.1
  have z2 := rd_cons rfl z.2
  obtain ⟨rfl, hIu⟩ := rd_i1 z2.1
  obtain ⟨a, c, rfl, _⟩ := rd_list z2.2
  clear hx z z2
  have hs6 := (St.start w).alloc #[.int .i64 p, .int .i64 u, .slice a l.length c] 31 (n := w.heap.size) (by simp)
  have k0_0 := hs6.cellAt 0 rfl 0 rfl
  have k0_1 := hs6.cellAt 0 rfl 1 rfl
  have k0_2 := hs6.cellAt 0 rfl 2 rfl
  go_enter Try.func57, Try.ntmps57
  go_wp2_with fail
  refine (l07Ok_c (p, u, l) _ _ _ _ _ (Rd.mono HX.out hs6.bel) (hs6.cellAt 0 rfl 0 rfl) (hs6.cellAt 0 rfl 1 rfl) (hs6.cellAt 0 rfl 2 rfl)).mono ?_
  rintro e w7 ⟨rfl, nw7, rfl⟩
  have hs8 := hs6.drewN nw7
  clear k0_0 k0_1 k0_2
  have k0_0 := hs8.cellAt 0 rfl 0 rfl
  have k0_1 := hs8.cellAt 0 rfl 1 rfl
  have k0_2 := hs8.cellAt 0 rfl 2 rfl
  have hcb := countF_bd (p, u, l)
  cases hok : validS (p, u, l) with
  | false =>
    have HF := Lib.hid (answersF_bad hok)
    clear hok
    go_wp2_with fail
    have hq9 := hs8.step (belowA _ (.cells #[] 25))
    refine bodyPost_ret (v := .tuple #[.slice (some ⟨w.heap.size + 1, 0, none⟩) 0 0, .int .i64 1]) (by simp [results, Try.results57, go_sem]) rfl ⟨.slice (some ⟨w.heap.size + 1, 0, none⟩) 0 0, ?_, ?_, hq9.bel⟩
    · rw [HF.out]
    · rw [HF.out]; exact fresh_nil _
  | true =>
    have HK := Lib.hid hok
    have HF1 := Lib.hid (answersF_many hok)
    have HF2 := Lib.hid (answersF_ok hok)
    obtain ⟨hp2, hu2, hl2, _⟩ := validS_get hok
    clear hok
    go_wp2_with fail
    refine (l07Count_c (p, u, l) _ _ _ _ _ (Rd.mono HX.out hs8.bel) (hs8.cellAt 0 rfl 0 rfl) (hs8.cellAt 0 rfl 1 rfl) (hs8.cellAt 0 rfl 2 rfl) HK.out).mono ?_
    rintro e w9 ⟨rfl, hbw9⟩
    have hz_w9 : w.heap.size + 1 ≤ w9.heap.size := by have h9 := hbw9.size; (try simp at h9); omega
    have hs10 := hs8.step hbw9
    clear k0_0 k0_1 k0_2
    have k0_0 := hs10.cellAt 0 rfl 0 rfl
    have k0_1 := hs10.cellAt 0 rfl 1 rfl
    have k0_2 := hs10.cellAt 0 rfl 2 rfl
    generalize (countF (p, u, l)).1 = N at *
    by_cases hN : 500 < N
    · have HF := Lib.hid (HF1.out hN)
      go_wp2_with fail
      have hq9 := hs10.step (belowA _ (.cells #[] 25))
      refine bodyPost_ret (v := .tuple #[.slice (some ⟨w9.heap.size, 0, none⟩) 0 0, .int .i64 3]) (by simp [results, Try.results57, go_sem]) rfl ⟨.slice (some ⟨w9.heap.size, 0, none⟩) 0 0, ?_, ?_, hq9.bel⟩
      · rw [HF.out]
      · rw [HF.out]; exact fresh_nil _
    · have HF := Lib.hid (HF2.out (by omega))
      obtain ⟨P, hP⟩ : ∃ P : Nat, p = P := ⟨p.toNat, by omega⟩
      obtain ⟨U, hU⟩ : ∃ U : Nat, u = U := ⟨u.toNat, by omega⟩
      subst hP hU
      have HRE := Lib.hid (ansE_reduced HK.out)
      have HRO := Lib.hid (reduced_ok HK.out)
      simp only [Int.toNat_natCast] at HRE HRO
      have hlo := hs10.hi
      go_wp2_with fail
      refine (l07Reduced_c ((P : Int), (U : Int), l) _ _ _ _ _ (Rd.mono HX.out hs10.bel) (hs10.cellAt 0 rfl 0 rfl) (hs10.cellAt 0 rfl 1 rfl) (hs10.cellAt 0 rfl 2 rfl) HK.out).mono ?_
      rintro e w11 ⟨ar, nr, cr, rfl, frr, hbw11⟩
      have hz_w11 : w9.heap.size ≤ w11.heap.size := by have h9 := hbw11.size; (try simp at h9); omega
      have hs12 := hs10.step hbw11
      clear k0_0 k0_1 k0_2
      have k0_0 := hs12.cellAt 0 rfl 0 rfl
      have k0_1 := hs12.cellAt 0 rfl 1 rfl
      have k0_2 := hs12.cellAt 0 rfl 2 rfl
      have hrd := (rd_cons rfl (rd_cons rfl frr.rd).2).2
      obtain ⟨ar', cr', er, _⟩ := rd_list hrd
      simp only [Value.slice.injEq] at er
      obtain ⟨rfl, rfl, rfl⟩ := er
      have HRD := Lib.hid hrd
      have hnr := HRO.out.1
      clear frr hrd
      go_upto_region 6 with fail
      have hs13 := hs12.alloc #[.int .i64 P, .int .i64 U, .slice ar (reducedF ((P : Int), (U : Int), l)).2.2.length cr] 31 (n := w11.heap.size) (by simp)
      have HRD_14 := Lib.hid (Rd.mono HRD.out (belowA _ (.cells #[.int .i64 P, .int .i64 U, .slice ar (reducedF ((P : Int), (U : Int), l)).2.2.length cr] 31)))
      clear HRD
      clear k0_0 k0_1 k0_2
      have k0_0 := hs13.cellAt 0 rfl 0 rfl
      have k0_1 := hs13.cellAt 0 rfl 1 rfl
      have k0_2 := hs13.cellAt 0 rfl 2 rfl
      have k1_0 := hs13.cellAt 1 rfl 0 rfl
      have k1_1 := hs13.cellAt 1 rfl 1 rfl
      have k1_2 := hs13.cellAt 1 rfl 2 rfl
      have hz_w0 : w11.heap.size + 1 ≤ ((w11.alloc (.cells #[.int .i64 P, .int .i64 U, .slice ar (reducedF ((P : Int), (U : Int), l)).2.2.length cr] 31))).heap.size := by simp
      generalize hgen_w0 : (w11.alloc (.cells #[.int .i64 P, .int .i64 U, .slice ar (reducedF ((P : Int), (U : Int), l)).2.2.length cr] 31)) = w0 at *
      clear hgen_w0
      (try simp only at HRO)
      have hans := Lib.hid (l07Answers_c P U (reducedF ((P : Int), (U : Int), l)).2.2 w11.heap.size w0 ar cr HRD_14.out (hs13.cellAt 1 rfl 0 rfl) (hs13.cellAt 1 rfl 1 rfl) (hs13.cellAt 1 rfl 2 rfl) (by omega) (by omega) (by omega) (by omega) (by omega) HRO.out.2 U)
      have hmade := Lib.hid (accP_made (α := List Int) (w0.alloc (.cells #[] 2)) 25)
      go_wp2_with fail
      refine (hans.out [] [] _ _ 0 0 0 0 _ (fun k => k = w0.heap.size + 1) (fun _ => False) rfl rfl (by simp) (by simp) (by have := Nat.pow_le_pow_right (n := 3) (by omega) (show U ≤ 12 by omega); simp; omega) ((belowA w0 (.cells #[] 2)).trans ((belowA _ (.cells #[] 25)).mono (by simp))) (fun k hk => by subst hk; simp) (ip_nil (by decide)) (fun _ h _ => h) (by simpa using hmade.out)).mono ?_
      rintro e w9 ⟨a9, n9, c9, rfl, hn9, hac9, hbp9⟩
      have HAC9 := Lib.hid hac9
      have HB9 := Lib.hid (hs13.bel.trans ((((belowA w0 (.cells #[] 2)).trans ((belowA _ (.cells #[] 25)).mono (by simp))).trans (hbp9.below (B := w0.heap.size) (fun z h => by omega) (by simp; omega))).mono (by omega)))
      clear hn9 hac9 hbp9
      go_wp2_with fail
      refine bodyPost_ret (v := .tuple #[.slice a9 n9 c9, .int .i64 0]) (by simp [results, Try.results57, go_sem]) rfl ⟨.slice a9 n9 c9, ?_, ?_, HB9.out⟩
      · rw [HF.out]
      · rw [HF.out, ← HRE.out]
        exact HAC9.out.ip.fresh (fun z h => by simp at h; omega)
theorem relOfF_bad {x : Sys} (h : validS x = false) : relOfF x = ((0, []), 1) := by unfold relOfF; rw [h]; rfl
theorem relOfF_wide {x : Sys} (h : validS x = true) (h2 : 4 < x.2.1) : relOfF x = ((0, []), 2) := by unfold relOfF; rw [if_pos h, if_pos h2]
theorem relOfF_ok {x : Sys} (h : validS x = true) (h2 : ¬ 4 < x.2.1) : relOfF x = ((x.2.1, answersS x), 0) := by unfold relOfF; rw [if_pos h, if_neg h2]
set_option maxRecDepth 100000 in
set_option maxHeartbeats 8000000 in
theorem RelOfSystem_c (x : Sys) (v0 v1 v2 : Value) (w : World) (hx : Rd w [v0, v1, v2] x) :
    Calls Try.prog 47 #[.agg #[v0, v1, v2]] w fun e w' => ∃ u0 u1, e = .returned (.tuple #[.agg #[u0, u1], .int .i64 (relOfF x).2]) ∧ Fresh w.heap.size w' [u0, u1] (relOfF x).1 ∧ Below w.heap.size w w' := by
  obtain ⟨p, u, l⟩ := x
  have HX := Lib.hid hx
  have z := rd_cons rfl hx
  obtain ⟨rfl, hIp⟩ := rd_i1 z.1
  have z2 := rd_cons rfl z.2
  obtain ⟨rfl, hIu⟩ := rd_i1 z2.1
  obtain ⟨a, c, rfl, _⟩ := rd_list z2.2
  clear hx z z2
  have hs15 := (St.start w).alloc #[.int .i64 p, .int .i64 u, .slice a l.length c] 31 (n := w.heap.size) (by simp)
  have k0_0 := hs15.cellAt 0 rfl 0 rfl
  have k0_1 := hs15.cellAt 0 rfl 1 rfl
  have k0_2 := hs15.cellAt 0 rfl 2 rfl
  have hs16 := hs15.alloc #[.int .i64 0, .slice none 0 0] 58 (n := w.heap.size + 1) (by simp)
  clear k0_0 k0_1 k0_2
  have k0_0 := hs16.cellAt 0 rfl 0 rfl
  have k0_1 := hs16.cellAt 0 rfl 1 rfl
  have k0_2 := hs16.cellAt 0 rfl 2 rfl
  have k1_0 := hs16.cellAt 1 rfl 0 rfl
  have k1_1 := hs16.cellAt 1 rfl 1 rfl
  go_enter Try.func47, Try.ntmps47
  go_wp2_with fail
  refine (ValidSystem_c (p, u, l) _ _ _ _ (Rd.mono HX.out hs16.bel)).mono ?_
  rintro e w17 ⟨rfl, hbw17⟩
  have hz_w17 : w.heap.size + 1 + 1 ≤ w17.heap.size := by have h9 := hbw17.size; (try simp at h9); omega
  have hs18 := hs16.step hbw17
  clear k0_0 k0_1 k0_2 k1_0 k1_1
  have k0_0 := hs18.cellAt 0 rfl 0 rfl
  have k0_1 := hs18.cellAt 0 rfl 1 rfl
  have k0_2 := hs18.cellAt 0 rfl 2 rfl
  have k1_0 := hs18.cellAt 1 rfl 0 rfl
  have k1_1 := hs18.cellAt 1 rfl 1 rfl
  cases hok : validS (p, u, l) with
  | false =>
    have HF := Lib.hid (relOfF_bad hok)
    clear hok
    have f1_0 := hs18.freeAt 1 rfl 0
    have f1_1 := hs18.freeAt 1 rfl 1
    go_wp2_with fail
    have hs19 := hs18.set (p := [_]) (by simp <;> omega) 0 (.int .i64 0)
    have hs20 := hs19.set (p := [_]) (by simp <;> omega) 1 (.slice none 0 0)
    have x0 := (hs20.cellAt 1 rfl 0 rfl)
    have x1 := (hs20.cellAt 1 rfl 1 rfl)
    refine bodyPost_ret (v := .tuple #[.agg #[.int .i64 0, .slice none 0 0], .int .i64 1]) (by simp [results, Try.results47, go_sem, x0, x1]) rfl ⟨.int .i64 0, .slice none 0 0, ?_, ?_, hs20.bel⟩
    · rw [HF.out]
    · rw [HF.out]; exact ⟨[], own0_rel _, by simp, by simp⟩
  | true =>
    have HK := Lib.hid hok
    by_cases h4 : 4 < u
    · have HF := Lib.hid (relOfF_wide hok h4)
      clear hok
      have f1_0 := hs18.freeAt 1 rfl 0
      have f1_1 := hs18.freeAt 1 rfl 1
      go_wp2_with fail
      have hs21 := hs18.set (p := [_]) (by simp <;> omega) 0 (.int .i64 0)
      have hs22 := hs21.set (p := [_]) (by simp <;> omega) 1 (.slice none 0 0)
      have x0 := (hs22.cellAt 1 rfl 0 rfl)
      have x1 := (hs22.cellAt 1 rfl 1 rfl)
      refine bodyPost_ret (v := .tuple #[.agg #[.int .i64 0, .slice none 0 0], .int .i64 2]) (by simp [results, Try.results47, go_sem, x0, x1]) rfl ⟨.int .i64 0, .slice none 0 0, ?_, ?_, hs22.bel⟩
      · rw [HF.out]
      · rw [HF.out]; exact ⟨[], own0_rel _, by simp, by simp⟩
    · have HF := Lib.hid (relOfF_ok hok h4)
      clear hok
      have hlo := hs18.hi
      go_upto_region 5 with fail
      refine wp_region_noPanic (wp_region_tree4 (fun w' => w'.cell? ⟨w.heap.size, 0, none⟩ = some (.int .i64 p) ∧ w'.cell? ⟨w.heap.size, 1, none⟩ = some (.int .i64 u) ∧ w'.cell? ⟨w.heap.size, 2, none⟩ = some (.slice a l.length c)) (.float 0 (.float 1 (.float 2 (.hard 3 (.float 4 (.hard 5 (.float 6 .nil))))))) (by kernel_rfl) (by kernel_rfl) (by kernel_rfl) rfl ?_ (fun _ _ _ _ _ h => h) ?_)
      · exact ⟨(hs18.drew).cellAt 0 rfl 0 rfl, (hs18.drew).cellAt 0 rfl 1 rfl, (hs18.drew).cellAt 0 rfl 2 rfl⟩
      have hs23 := hs18.drew
      clear k0_0 k0_1 k0_2 k1_0 k1_1
      have hz_wd24 : w17.heap.size ≤ (w17.drew).heap.size := by simp
      generalize hgen_wd24 : w17.drew = wd24 at *
      have HG_wd24 := Lib.hid hgen_wd24
      clear hgen_wd24
      (repeat (first | (apply t4_skip rfl (by rfl); try simp only [Act.put, List.setIfInBounds_toArray, List.set_cons_zero, List.set_cons_succ]) | (apply t4_float rfl (by rfl); (· (intro w' hS; go_simp <;> with_reducible rfl)); (try simp only [Act.put, List.setIfInBounds_toArray, List.set_cons_zero, List.set_cons_succ]))))
      refine t4_hard rfl (by rfl) (fun K hK => ?_)
      go_wp2_with (go_at_call 99; refine (answersOf_c (p, u, l) _ _ _ _ (Rd.mono HX.out hs23.bel) HK.out).mono ?_; rintro e w25 ⟨v, rfl, fr, hbw25⟩)
      have hz_w25 : wd24.heap.size ≤ w25.heap.size := by have h9 := hbw25.size; (try simp at h9); omega
      have hs26 := hs23.step hbw25
      obtain ⟨av, cv, rfl, _⟩ := rd_list fr.rd
      have HFR := Lib.hid fr
      clear fr
      refine ⟨⟨hs26.cellAt 0 rfl 0 rfl, hs26.cellAt 0 rfl 1 rfl, hs26.cellAt 0 rfl 2 rfl⟩, ?_⟩
      (repeat (first | (apply t4_skip rfl (by rfl); try simp only [Act.put, List.setIfInBounds_toArray, List.set_cons_zero, List.set_cons_succ]) | (apply t4_float rfl (by rfl); (· (intro w' hS; go_simp <;> with_reducible rfl)); (try simp only [Act.put, List.setIfInBounds_toArray, List.set_cons_zero, List.set_cons_succ]))))
      refine t4_hard rfl (by rfl) (fun K hK => ?_)
      have k0_0 := hs26.cellAt 0 rfl 0 rfl
      have k0_1 := hs26.cellAt 0 rfl 1 rfl
      have k0_2 := hs26.cellAt 0 rfl 2 rfl
      have k1_0 := hs26.cellAt 1 rfl 0 rfl
      have k1_1 := hs26.cellAt 1 rfl 1 rfl
      have f1_0 := hs26.freeAt 1 rfl 0
      have f1_1 := hs26.freeAt 1 rfl 1
      go_wp2_with fail
      have hs27 := hs26.set (p := [_]) (by simp <;> omega) 0 (.int .i64 u)
      have hs28 := hs27.set (p := [_]) (by simp <;> omega) 1 (.slice av (answersS (p, u, l)).length cv)
      refine ⟨⟨hs28.cellAt 0 rfl 0 rfl, hs28.cellAt 0 rfl 1 rfl, hs28.cellAt 0 rfl 2 rfl⟩, ?_⟩
      (repeat (first | (apply t4_skip rfl (by rfl); try simp only [Act.put, List.setIfInBounds_toArray, List.set_cons_zero, List.set_cons_succ]) | (apply t4_float rfl (by rfl); (· (intro w' hS; go_simp <;> with_reducible rfl)); (try simp only [Act.put, List.setIfInBounds_toArray, List.set_cons_zero, List.set_cons_succ]))))
      clear k0_0 k0_1 k0_2 k1_0 k1_1
      have k0_0 := hs28.cellAt 0 rfl 0 rfl
      have k0_1 := hs28.cellAt 0 rfl 1 rfl
      have k0_2 := hs28.cellAt 0 rfl 2 rfl
      have k1_0 := hs28.cellAt 1 rfl 0 rfl
      have k1_1 := hs28.cellAt 1 rfl 1 rfl
      refine t4_nil (NoPanic.normal ?_)
      go_wp2_with fail
      refine bodyPost_ret (v := .tuple #[.agg #[.int .i64 u, .slice av (answersS (p, u, l)).length cv], .int .i64 0]) (by simp [results, Try.results47, go_sem, k1_0, k1_1]) rfl ⟨.int .i64 u, .slice av (answersS (p, u, l)).length cv, ?_, ?_, hs28.bel⟩
      · rw [HF.out]
      · rw [HF.out]
        obtain ⟨ps, h1, h2, h3⟩ := ((HFR.out.setCell (a := ⟨w.heap.size + 1, 0, none⟩) (by simp <;> omega) (.int .i64 u)).setCell (a := ⟨w.heap.size + 1, 1, none⟩) (by simp <;> omega) (.slice av (answersS (p, u, l)).length cv)).lower (lo' := w.heap.size) (by omega)
        exact ⟨[] ++ ps, mk_own ⟨rfl, rfl, hIu⟩ h1, by simpa using h2, by simpa using h3⟩
set_option maxRecDepth 100000 in
set_option maxHeartbeats 8000000 in
theorem sRelOfSystem_c (x : Sys) (v0 v1 v2 : Value) (w : World) (hx : Rd w [v0, v1, v2] x) :
    Calls Try.prog 46 #[.agg #[v0, v1, v2]] w fun e w' => ∃ u0 u1, e = .returned (.tuple #[.agg #[u0, u1], .int .i64 (relOfF x).2]) ∧ Fresh w.heap.size w' [u0, u1] (relOfF x).1 ∧ Below w.heap.size w w' := by
  obtain ⟨p, u, l⟩ := x
  have HX := Lib.hid hx
  have z := rd_cons rfl hx
  obtain ⟨rfl, hIp⟩ := rd_i1 z.1
  have z2 := rd_cons rfl z.2
  obtain ⟨rfl, hIu⟩ := rd_i1 z2.1
  obtain ⟨a, c, rfl, _⟩ := rd_list z2.2
  clear hx z z2
  have hs29 := (St.start w).alloc #[.int .i64 p, .int .i64 u, .slice a l.length c] 31 (n := w.heap.size) (by simp)
  have k0_0 := hs29.cellAt 0 rfl 0 rfl
  have k0_1 := hs29.cellAt 0 rfl 1 rfl
  have k0_2 := hs29.cellAt 0 rfl 2 rfl
  have hs30 := hs29.alloc #[.int .i64 0, .slice none 0 0] 58 (n := w.heap.size + 1) (by simp)
  clear k0_0 k0_1 k0_2
  have k0_0 := hs30.cellAt 0 rfl 0 rfl
  have k0_1 := hs30.cellAt 0 rfl 1 rfl
  have k0_2 := hs30.cellAt 0 rfl 2 rfl
  have k1_0 := hs30.cellAt 1 rfl 0 rfl
  have k1_1 := hs30.cellAt 1 rfl 1 rfl
  go_enter Try.func46, Try.ntmps46
  go_wp2_with fail
  refine (l07Ok_c (p, u, l) _ _ _ _ _ (Rd.mono HX.out hs30.bel) (hs30.cellAt 0 rfl 0 rfl) (hs30.cellAt 0 rfl 1 rfl) (hs30.cellAt 0 rfl 2 rfl)).mono ?_
  rintro e w31 ⟨rfl, nw31, rfl⟩
  have hs32 := hs30.drewN nw31
  clear k0_0 k0_1 k0_2 k1_0 k1_1
  have k0_0 := hs32.cellAt 0 rfl 0 rfl
  have k0_1 := hs32.cellAt 0 rfl 1 rfl
  have k0_2 := hs32.cellAt 0 rfl 2 rfl
  have k1_0 := hs32.cellAt 1 rfl 0 rfl
  have k1_1 := hs32.cellAt 1 rfl 1 rfl
  cases hok : validS (p, u, l) with
  | false =>
    have HF := Lib.hid (relOfF_bad hok)
    clear hok
    have f1_0 := hs32.freeAt 1 rfl 0
    have f1_1 := hs32.freeAt 1 rfl 1
    go_wp2_with fail
    have hs33 := hs32.set (p := [_]) (by simp <;> omega) 0 (.int .i64 0)
    have hs34 := hs33.set (p := [_]) (by simp <;> omega) 1 (.slice none 0 0)
    have x0 := (hs34.cellAt 1 rfl 0 rfl)
    have x1 := (hs34.cellAt 1 rfl 1 rfl)
    refine bodyPost_ret (v := .tuple #[.agg #[.int .i64 0, .slice none 0 0], .int .i64 1]) (by simp [results, Try.results46, go_sem, x0, x1]) rfl ⟨.int .i64 0, .slice none 0 0, ?_, ?_, hs34.bel⟩
    · rw [HF.out]
    · rw [HF.out]; exact ⟨[], own0_rel _, by simp, by simp⟩
  | true =>
    have HK := Lib.hid hok
    obtain ⟨hp2, hu2, hl2, _⟩ := validS_get hok
    by_cases h4 : 4 < u
    · have HF := Lib.hid (relOfF_wide hok h4)
      clear hok
      have f1_0 := hs32.freeAt 1 rfl 0
      have f1_1 := hs32.freeAt 1 rfl 1
      go_wp2_with fail
      have hs35 := hs32.set (p := [_]) (by simp <;> omega) 0 (.int .i64 0)
      have hs36 := hs35.set (p := [_]) (by simp <;> omega) 1 (.slice none 0 0)
      have x0 := (hs36.cellAt 1 rfl 0 rfl)
      have x1 := (hs36.cellAt 1 rfl 1 rfl)
      refine bodyPost_ret (v := .tuple #[.agg #[.int .i64 0, .slice none 0 0], .int .i64 2]) (by simp [results, Try.results46, go_sem, x0, x1]) rfl ⟨.int .i64 0, .slice none 0 0, ?_, ?_, hs36.bel⟩
      · rw [HF.out]
      · rw [HF.out]; exact ⟨[], own0_rel _, by simp, by simp⟩
    · have HF := Lib.hid (relOfF_ok hok h4)
      clear hok
      obtain ⟨P, hP⟩ : ∃ P : Nat, p = P := ⟨p.toNat, by omega⟩
      obtain ⟨U, hU⟩ : ∃ U : Nat, u = U := ⟨u.toNat, by omega⟩
      subst hP hU
      have HRE := Lib.hid (ansE_reduced HK.out)
      have HRO := Lib.hid (reduced_ok HK.out)
      simp only [Int.toNat_natCast] at HRE HRO
      have hlo := hs32.hi
      go_wp2_with fail
      refine (l07Reduced_c ((P : Int), (U : Int), l) _ _ _ _ _ (Rd.mono HX.out hs32.bel) (hs32.cellAt 0 rfl 0 rfl) (hs32.cellAt 0 rfl 1 rfl) (hs32.cellAt 0 rfl 2 rfl) HK.out).mono ?_
      rintro e w37 ⟨ar, nr, cr, rfl, frr, hbw37⟩
      have hz_w37 : w.heap.size + 1 + 1 ≤ w37.heap.size := by have h9 := hbw37.size; (try simp at h9); omega
      have hs38 := hs32.step hbw37
      clear k0_0 k0_1 k0_2 k1_0 k1_1
      have k0_0 := hs38.cellAt 0 rfl 0 rfl
      have k0_1 := hs38.cellAt 0 rfl 1 rfl
      have k0_2 := hs38.cellAt 0 rfl 2 rfl
      have k1_0 := hs38.cellAt 1 rfl 0 rfl
      have k1_1 := hs38.cellAt 1 rfl 1 rfl
      have hrd := (rd_cons rfl (rd_cons rfl frr.rd).2).2
      obtain ⟨ar', cr', er, _⟩ := rd_list hrd
      simp only [Value.slice.injEq] at er
      obtain ⟨rfl, rfl, rfl⟩ := er
      have HRD := Lib.hid hrd
      have hnr := HRO.out.1
      clear frr hrd
      go_upto_region 6 with fail
      have hs39 := hs38.alloc #[.int .i64 P, .int .i64 U, .slice ar (reducedF ((P : Int), (U : Int), l)).2.2.length cr] 31 (n := w37.heap.size) (by simp)
      have HRD_40 := Lib.hid (Rd.mono HRD.out (belowA _ (.cells #[.int .i64 P, .int .i64 U, .slice ar (reducedF ((P : Int), (U : Int), l)).2.2.length cr] 31)))
      clear HRD
      clear k0_0 k0_1 k0_2 k1_0 k1_1
      have k0_0 := hs39.cellAt 0 rfl 0 rfl
      have k0_1 := hs39.cellAt 0 rfl 1 rfl
      have k0_2 := hs39.cellAt 0 rfl 2 rfl
      have k1_0 := hs39.cellAt 1 rfl 0 rfl
      have k1_1 := hs39.cellAt 1 rfl 1 rfl
      have k2_0 := hs39.cellAt 2 rfl 0 rfl
      have k2_1 := hs39.cellAt 2 rfl 1 rfl
      have k2_2 := hs39.cellAt 2 rfl 2 rfl
      have hz_w0 : w37.heap.size + 1 ≤ ((w37.alloc (.cells #[.int .i64 P, .int .i64 U, .slice ar (reducedF ((P : Int), (U : Int), l)).2.2.length cr] 31))).heap.size := by simp
      generalize hgen_w0 : (w37.alloc (.cells #[.int .i64 P, .int .i64 U, .slice ar (reducedF ((P : Int), (U : Int), l)).2.2.length cr] 31)) = w0 at *
      clear hgen_w0
      have hans := Lib.hid (l07Answers_c P U (reducedF ((P : Int), (U : Int), l)).2.2 w37.heap.size w0 ar cr HRD_40.out (hs39.cellAt 2 rfl 0 rfl) (hs39.cellAt 2 rfl 1 rfl) (hs39.cellAt 2 rfl 2 rfl) (by omega) (by omega) (by omega) (by omega) (by omega) HRO.out.2 U)
      have HB0 := Lib.hid (Below.refl w0.heap.size w0)
      clear HRD_40
      refine wp_region_noPanic (wp_region_tree4 (fun w' => w'.cell? ⟨w.heap.size, 0, none⟩ = some (.int .i64 P) ∧ w'.cell? ⟨w.heap.size, 1, none⟩ = some (.int .i64 U) ∧ w'.cell? ⟨w.heap.size, 2, none⟩ = some (.slice a l.length c) ∧ w'.cell? ⟨w37.heap.size, 0, none⟩ = some (.int .i64 P) ∧ w'.cell? ⟨w37.heap.size, 1, none⟩ = some (.int .i64 U) ∧ w'.cell? ⟨w37.heap.size, 2, none⟩ = some (.slice ar (reducedF ((P : Int), (U : Int), l)).2.2.length cr)) (.float 0 (.float 1 (.fork2 2 (.hard 3 (.hard 4 (.float 5 (.hard 6 (.float 7 .nil))))) 3 (.hard 2 (.hard 4 (.float 5 (.hard 6 (.float 7 .nil)))))))) (by kernel_rfl) (by kernel_rfl) (by kernel_rfl) rfl ?_ (fun _ _ _ _ _ h => h) ?_)
      · exact ⟨(hs39.drew).cellAt 0 rfl 0 rfl, (hs39.drew).cellAt 0 rfl 1 rfl, (hs39.drew).cellAt 0 rfl 2 rfl, (hs39.drew).cellAt 2 rfl 0 rfl, (hs39.drew).cellAt 2 rfl 1 rfl, (hs39.drew).cellAt 2 rfl 2 rfl⟩
      have hs41 := hs39.drew
      have HB0_42 := Lib.hid (HB0.out.trans (((belowD _)).mono HB0.out.size))
      clear HB0
      clear k0_0 k0_1 k0_2 k1_0 k1_1 k2_0 k2_1 k2_2
      have hz_wd43 : w0.heap.size ≤ (w0.drew).heap.size := by simp
      generalize hgen_wd43 : w0.drew = wd43 at *
      have HG_wd43 := Lib.hid hgen_wd43
      clear hgen_wd43
      (repeat (first | (apply t4_skip rfl (by rfl); try simp only [Act.put, List.setIfInBounds_toArray, List.set_cons_zero, List.set_cons_succ]) | (apply t4_float rfl (by rfl); (· (intro w' hS; go_simp <;> with_reducible rfl)); (try simp only [Act.put, List.setIfInBounds_toArray, List.set_cons_zero, List.set_cons_succ]))))
      refine t4_fork2 ?_ ?_
      · refine t4_hard rfl (by rfl) (fun K hK => ?_)
        go_wp2_with fail
        have hs44 := hs41.alloc #[] 2 (n := wd43.heap.size) (by simp)
        have HB0_45 := Lib.hid (HB0_42.out.trans (((belowA _ (.cells #[] 2))).mono HB0_42.out.size))
        clear HB0_42
        have hz_wv : wd43.heap.size + 1 ≤ ((wd43.alloc (.cells #[] 2))).heap.size := by simp
        generalize hgen_wv : (wd43.alloc (.cells #[] 2)) = wv at *
        clear hgen_wv
        refine ⟨⟨hs44.cellAt 0 rfl 0 rfl, hs44.cellAt 0 rfl 1 rfl, hs44.cellAt 0 rfl 2 rfl, hs44.cellAt 2 rfl 0 rfl, hs44.cellAt 2 rfl 1 rfl, hs44.cellAt 2 rfl 2 rfl⟩, ?_⟩
        (repeat (first | (apply t4_skip rfl (by rfl); try simp only [Act.put, List.setIfInBounds_toArray, List.set_cons_zero, List.set_cons_succ]) | (apply t4_float rfl (by rfl); (· (intro w' hS; go_simp <;> with_reducible rfl)); (try simp only [Act.put, List.setIfInBounds_toArray, List.set_cons_zero, List.set_cons_succ]))))
        refine t4_hard rfl (by rfl) (fun K hK => ?_)
        go_wp2_with fail
        have HOU := Lib.hid (accP_made (α := List Int) wv 25)
        have hs46 := hs44.alloc #[] 25 (n := wv.heap.size) (by simp)
        have HB0_47 := Lib.hid (HB0_45.out.trans (((belowA _ (.cells #[] 25))).mono HB0_45.out.size))
        clear HB0_45
        have hz_wo : wv.heap.size + 1 ≤ ((wv.alloc (.cells #[] 25))).heap.size := by simp
        generalize hgen_wo : (wv.alloc (.cells #[] 25)) = wo at *
        clear hgen_wo
        refine ⟨⟨hs46.cellAt 0 rfl 0 rfl, hs46.cellAt 0 rfl 1 rfl, hs46.cellAt 0 rfl 2 rfl, hs46.cellAt 2 rfl 0 rfl, hs46.cellAt 2 rfl 1 rfl, hs46.cellAt 2 rfl 2 rfl⟩, ?_⟩
        (repeat (first | (apply t4_skip rfl (by rfl); try simp only [Act.put, List.setIfInBounds_toArray, List.set_cons_zero, List.set_cons_succ]) | (apply t4_float rfl (by rfl); (· (intro w' hS; go_simp <;> with_reducible rfl)); (try simp only [Act.put, List.setIfInBounds_toArray, List.set_cons_zero, List.set_cons_succ]))))
        refine t4_hard rfl (by rfl) (fun K hK => ?_)
        go_wp2_with (go_at_call 98; refine (hans.out [] [] _ _ 0 0 0 0 _ (fun k => k = wv.heap.size) (fun _ => False) rfl rfl (by simp) (by simp) (by have := Nat.pow_le_pow_right (n := 3) (by omega) (show U ≤ 12 by omega); simp; omega) HB0_47.out (fun k hk => by subst hk; constructor <;> omega) (ip_nil (by decide)) (fun _ h _ => h) HOU.out).mono ?_; rintro e w9 ⟨a9, _, c9, rfl, rfl, hac9, hbp9⟩)
        have HAC9 := Lib.hid (hac9.ip.fresh (lo := w0.heap.size) (fun z h => by have h2 : z = wv.heap.size ∨ wo.heap.size ≤ z := h; omega))
        clear HOU
        clear HB0_47
        have hs48 := hs46.low (B' := w0.heap.size) (bx' := [(w.heap.size, #[.int .i64 P, .int .i64 U, .slice a l.length c], 31), (w.heap.size + 1, #[.int .i64 0, .slice none 0 0], 58), (w37.heap.size, #[.int .i64 P, .int .i64 U, .slice ar (reducedF ((P : Int), (U : Int), l)).2.2.length cr], 31)]) (by omega) (by (try simp) <;> omega) (fun x hx => by simp only [List.mem_cons, List.not_mem_nil, or_false] at hx; rcases hx with rfl | rfl | rfl <;> (refine ⟨?_, ?_⟩ <;> (try simp) <;> (try omega)))
        have hs9 := hs48.stepB (hbp9.below (B := w0.heap.size) (fun z h => by omega) (by omega))
        clear hac9 hbp9
        rw [List.nil_append] at HAC9
        refine ⟨⟨hs9.cellAt 0 rfl 0 rfl, hs9.cellAt 0 rfl 1 rfl, hs9.cellAt 0 rfl 2 rfl, hs9.cellAt 2 rfl 0 rfl, hs9.cellAt 2 rfl 1 rfl, hs9.cellAt 2 rfl 2 rfl⟩, ?_⟩
        (repeat (first | (apply t4_skip rfl (by rfl); try simp only [Act.put, List.setIfInBounds_toArray, List.set_cons_zero, List.set_cons_succ]) | (apply t4_float rfl (by rfl); (· (intro w' hS; go_simp <;> with_reducible rfl)); (try simp only [Act.put, List.setIfInBounds_toArray, List.set_cons_zero, List.set_cons_succ]))))
        refine t4_hard rfl (by rfl) (fun K hK => ?_)
        have k0_0 := hs9.cellAt 0 rfl 0 rfl
        have k0_1 := hs9.cellAt 0 rfl 1 rfl
        have k0_2 := hs9.cellAt 0 rfl 2 rfl
        have k1_0 := hs9.cellAt 1 rfl 0 rfl
        have k1_1 := hs9.cellAt 1 rfl 1 rfl
        have k2_0 := hs9.cellAt 2 rfl 0 rfl
        have k2_1 := hs9.cellAt 2 rfl 1 rfl
        have k2_2 := hs9.cellAt 2 rfl 2 rfl
        have f1_0 := hs9.freeAt 1 rfl 0
        have f1_1 := hs9.freeAt 1 rfl 1
        go_wp2_with fail
        have hs49 := hs9.set (p := [_]) (by simp <;> omega) 0 (.int .i64 U)
        have hs50 := hs49.set (p := [_]) (by simp <;> omega) 1 (.slice a9 (ansE P (reducedF ((P : Int), (U : Int), l)).2.2 U []).length c9)
        refine ⟨⟨hs50.cellAt 0 rfl 0 rfl, hs50.cellAt 0 rfl 1 rfl, hs50.cellAt 0 rfl 2 rfl, hs50.cellAt 2 rfl 0 rfl, hs50.cellAt 2 rfl 1 rfl, hs50.cellAt 2 rfl 2 rfl⟩, ?_⟩
        (repeat (first | (apply t4_skip rfl (by rfl); try simp only [Act.put, List.setIfInBounds_toArray, List.set_cons_zero, List.set_cons_succ]) | (apply t4_float rfl (by rfl); (· (intro w' hS; go_simp <;> with_reducible rfl)); (try simp only [Act.put, List.setIfInBounds_toArray, List.set_cons_zero, List.set_cons_succ]))))
        clear k0_0 k0_1 k0_2 k1_0 k1_1 k2_0 k2_1 k2_2
        have k0_0 := hs50.cellAt 0 rfl 0 rfl
        have k0_1 := hs50.cellAt 0 rfl 1 rfl
        have k0_2 := hs50.cellAt 0 rfl 2 rfl
        have k1_0 := hs50.cellAt 1 rfl 0 rfl
        have k1_1 := hs50.cellAt 1 rfl 1 rfl
        have k2_0 := hs50.cellAt 2 rfl 0 rfl
        have k2_1 := hs50.cellAt 2 rfl 1 rfl
        have k2_2 := hs50.cellAt 2 rfl 2 rfl
        refine t4_nil (NoPanic.normal ?_)
        go_wp2_with fail
        refine bodyPost_ret (v := .tuple #[.agg #[.int .i64 U, .slice a9 (ansE P (reducedF ((P : Int), (U : Int), l)).2.2 U []).length c9], .int .i64 0]) (by simp [results, Try.results46, go_sem, k1_0, k1_1]) rfl ⟨.int .i64 U, .slice a9 (ansE P (reducedF ((P : Int), (U : Int), l)).2.2 U []).length c9, ?_, ?_, hs50.bel⟩
        · rw [HF.out]
        · rw [HF.out]
          have h9 := HAC9.out
          obtain ⟨ps, h1, h2, h3⟩ := ((h9.setCell (a := ⟨w.heap.size + 1, 0, none⟩) (by simp <;> omega) (.int .i64 U)).setCell (a := ⟨w.heap.size + 1, 1, none⟩) (by simp <;> omega) (.slice a9 (ansE P (reducedF ((P : Int), (U : Int), l)).2.2 U []).length c9)).lower (lo' := w.heap.size) (by omega)
          rw [HRE.out] at h1
          rw [HRE.out]
          exact ⟨[] ++ ps, mk_own ⟨rfl, rfl, hIu⟩ h1, by simpa using h2, by simpa using h3⟩
      · refine t4_hard rfl (by rfl) (fun K hK => ?_)
        go_wp2_with fail
        have HOU := Lib.hid (accP_made (α := List Int) wd43 25)
        have hs51 := hs41.alloc #[] 25 (n := wd43.heap.size) (by simp)
        have HB0_52 := Lib.hid (HB0_42.out.trans (((belowA _ (.cells #[] 25))).mono HB0_42.out.size))
        clear HB0_42
        have hz_wo : wd43.heap.size + 1 ≤ ((wd43.alloc (.cells #[] 25))).heap.size := by simp
        generalize hgen_wo : (wd43.alloc (.cells #[] 25)) = wo at *
        clear hgen_wo
        refine ⟨⟨hs51.cellAt 0 rfl 0 rfl, hs51.cellAt 0 rfl 1 rfl, hs51.cellAt 0 rfl 2 rfl, hs51.cellAt 2 rfl 0 rfl, hs51.cellAt 2 rfl 1 rfl, hs51.cellAt 2 rfl 2 rfl⟩, ?_⟩
        (repeat (first | (apply t4_skip rfl (by rfl); try simp only [Act.put, List.setIfInBounds_toArray, List.set_cons_zero, List.set_cons_succ]) | (apply t4_float rfl (by rfl); (· (intro w' hS; go_simp <;> with_reducible rfl)); (try simp only [Act.put, List.setIfInBounds_toArray, List.set_cons_zero, List.set_cons_succ]))))
        refine t4_hard rfl (by rfl) (fun K hK => ?_)
        go_wp2_with fail
        have hs53 := hs51.alloc #[] 2 (n := wo.heap.size) (by simp)
        have HB0_54 := Lib.hid (HB0_52.out.trans (((belowA _ (.cells #[] 2))).mono HB0_52.out.size))
        clear HB0_52
        have HOU_55 := Lib.hid (AccP.mono HOU.out (belowA _ (.cells #[] 2)))
        clear HOU
        have hz_wv : wo.heap.size + 1 ≤ ((wo.alloc (.cells #[] 2))).heap.size := by simp
        generalize hgen_wv : (wo.alloc (.cells #[] 2)) = wv at *
        clear hgen_wv
        refine ⟨⟨hs53.cellAt 0 rfl 0 rfl, hs53.cellAt 0 rfl 1 rfl, hs53.cellAt 0 rfl 2 rfl, hs53.cellAt 2 rfl 0 rfl, hs53.cellAt 2 rfl 1 rfl, hs53.cellAt 2 rfl 2 rfl⟩, ?_⟩
        (repeat (first | (apply t4_skip rfl (by rfl); try simp only [Act.put, List.setIfInBounds_toArray, List.set_cons_zero, List.set_cons_succ]) | (apply t4_float rfl (by rfl); (· (intro w' hS; go_simp <;> with_reducible rfl)); (try simp only [Act.put, List.setIfInBounds_toArray, List.set_cons_zero, List.set_cons_succ]))))
        refine t4_hard rfl (by rfl) (fun K hK => ?_)
        go_wp2_with (go_at_call 98; refine (hans.out [] [] _ _ 0 0 0 0 _ (fun k => k = wd43.heap.size) (fun _ => False) rfl rfl (by simp) (by simp) (by have := Nat.pow_le_pow_right (n := 3) (by omega) (show U ≤ 12 by omega); simp; omega) HB0_54.out (fun k hk => by subst hk; constructor <;> omega) (ip_nil (by decide)) (fun _ h _ => h) HOU_55.out).mono ?_; rintro e w9 ⟨a9, _, c9, rfl, rfl, hac9, hbp9⟩)
        have HAC9 := Lib.hid (hac9.ip.fresh (lo := w0.heap.size) (fun z h => by have h2 : z = wd43.heap.size ∨ wv.heap.size ≤ z := h; omega))
        clear HOU_55
        clear HB0_54
        have hs56 := hs53.low (B' := w0.heap.size) (bx' := [(w.heap.size, #[.int .i64 P, .int .i64 U, .slice a l.length c], 31), (w.heap.size + 1, #[.int .i64 0, .slice none 0 0], 58), (w37.heap.size, #[.int .i64 P, .int .i64 U, .slice ar (reducedF ((P : Int), (U : Int), l)).2.2.length cr], 31)]) (by omega) (by (try simp) <;> omega) (fun x hx => by simp only [List.mem_cons, List.not_mem_nil, or_false] at hx; rcases hx with rfl | rfl | rfl <;> (refine ⟨?_, ?_⟩ <;> (try simp) <;> (try omega)))
        have hs9 := hs56.stepB (hbp9.below (B := w0.heap.size) (fun z h => by omega) (by omega))
        clear hac9 hbp9
        rw [List.nil_append] at HAC9
        refine ⟨⟨hs9.cellAt 0 rfl 0 rfl, hs9.cellAt 0 rfl 1 rfl, hs9.cellAt 0 rfl 2 rfl, hs9.cellAt 2 rfl 0 rfl, hs9.cellAt 2 rfl 1 rfl, hs9.cellAt 2 rfl 2 rfl⟩, ?_⟩
        (repeat (first | (apply t4_skip rfl (by rfl); try simp only [Act.put, List.setIfInBounds_toArray, List.set_cons_zero, List.set_cons_succ]) | (apply t4_float rfl (by rfl); (· (intro w' hS; go_simp <;> with_reducible rfl)); (try simp only [Act.put, List.setIfInBounds_toArray, List.set_cons_zero, List.set_cons_succ]))))
        refine t4_hard rfl (by rfl) (fun K hK => ?_)
        have k0_0 := hs9.cellAt 0 rfl 0 rfl
        have k0_1 := hs9.cellAt 0 rfl 1 rfl
        have k0_2 := hs9.cellAt 0 rfl 2 rfl
        have k1_0 := hs9.cellAt 1 rfl 0 rfl
        have k1_1 := hs9.cellAt 1 rfl 1 rfl
        have k2_0 := hs9.cellAt 2 rfl 0 rfl
        have k2_1 := hs9.cellAt 2 rfl 1 rfl
        have k2_2 := hs9.cellAt 2 rfl 2 rfl
        have f1_0 := hs9.freeAt 1 rfl 0
        have f1_1 := hs9.freeAt 1 rfl 1
        go_wp2_with fail
        have hs57 := hs9.set (p := [_]) (by simp <;> omega) 0 (.int .i64 U)
        have hs58 := hs57.set (p := [_]) (by simp <;> omega) 1 (.slice a9 (ansE P (reducedF ((P : Int), (U : Int), l)).2.2 U []).length c9)
        refine ⟨⟨hs58.cellAt 0 rfl 0 rfl, hs58.cellAt 0 rfl 1 rfl, hs58.cellAt 0 rfl 2 rfl, hs58.cellAt 2 rfl 0 rfl, hs58.cellAt 2 rfl 1 rfl, hs58.cellAt 2 rfl 2 rfl⟩, ?_⟩
        (repeat (first | (apply t4_skip rfl (by rfl); try simp only [Act.put, List.setIfInBounds_toArray, List.set_cons_zero, List.set_cons_succ]) | (apply t4_float rfl (by rfl); (· (intro w' hS; go_simp <;> with_reducible rfl)); (try simp only [Act.put, List.setIfInBounds_toArray, List.set_cons_zero, List.set_cons_succ]))))
        clear k0_0 k0_1 k0_2 k1_0 k1_1 k2_0 k2_1 k2_2
        have k0_0 := hs58.cellAt 0 rfl 0 rfl
        have k0_1 := hs58.cellAt 0 rfl 1 rfl
        have k0_2 := hs58.cellAt 0 rfl 2 rfl
        have k1_0 := hs58.cellAt 1 rfl 0 rfl
        have k1_1 := hs58.cellAt 1 rfl 1 rfl
        have k2_0 := hs58.cellAt 2 rfl 0 rfl
        have k2_1 := hs58.cellAt 2 rfl 1 rfl
        have k2_2 := hs58.cellAt 2 rfl 2 rfl
        refine t4_nil (NoPanic.normal ?_)
        go_wp2_with fail
        refine bodyPost_ret (v := .tuple #[.agg #[.int .i64 U, .slice a9 (ansE P (reducedF ((P : Int), (U : Int), l)).2.2 U []).length c9], .int .i64 0]) (by simp [results, Try.results46, go_sem, k1_0, k1_1]) rfl ⟨.int .i64 U, .slice a9 (ansE P (reducedF ((P : Int), (U : Int), l)).2.2 U []).length c9, ?_, ?_, hs58.bel⟩
        · rw [HF.out]
        · rw [HF.out]
          have h9 := HAC9.out
          obtain ⟨ps, h1, h2, h3⟩ := ((h9.setCell (a := ⟨w.heap.size + 1, 0, none⟩) (by simp <;> omega) (.int .i64 U)).setCell (a := ⟨w.heap.size + 1, 1, none⟩) (by simp <;> omega) (.slice a9 (ansE P (reducedF ((P : Int), (U : Int), l)).2.2 U []).length c9)).lower (lo' := w.heap.size) (by omega)
          rw [HRE.out] at h1
          rw [HRE.out]
          exact ⟨[] ++ ps, mk_own ⟨rfl, rfl, hIu⟩ h1, by simpa using h2, by simpa using h3⟩

end Go.Proofs.Ytkbeihkjhmillaa
