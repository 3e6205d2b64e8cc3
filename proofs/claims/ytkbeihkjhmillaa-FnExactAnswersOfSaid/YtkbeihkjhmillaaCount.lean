/-
  CONTRACTS: CountAnswers. (Printed by wip/gensys.py.)
-/
import Derived.Test.YtkbeihkjhmillaaRank
namespace Go.Proofs.Ytkbeihkjhmillaa
open Go.RowKit Go.Shelf Go.IntWalk
open Rep (Rd Own sz)
set_option linter.unusedSimpArgs false
set_option linter.unusedVariables false

theorem ElimOk.pow {s : Sys} (h : ElimOk s) : 0 ≤ s.2.1 - ((elimS s).2.length : Int) ∧ s.2.1 - ((elimS s).2.length : Int) ≤ 12 ∧ s.1 ^ (s.2.1 - ((elimS s).2.length : Int)).toNat ≤ 1000000000 := by
  have h1 := h.leU
  have h2 := h.hu
  have h3 : (s.2.1 - ((elimS s).2.length : Int)).toNat ≤ 12 := by omega
  refine ⟨by omega, by omega, ?_⟩
  have h4 : s.1 ^ (s.2.1 - ((elimS s).2.length : Int)).toNat ≤ s.1 ^ 12 := pow_le_of (by have := h.hp; omega) h3
  refine Int.le_trans h4 ?_
  rcases h.hp with hp | hp <;> rw [hp] <;> decide
set_option maxHeartbeats 400000 in
theorem l01Power_c (size many : Int) (w : World) (hs : 1 ≤ size) (hm : 0 ≤ many) (hm2 : many ≤ 1000000) (hp : size ^ many.toNat ≤ 1000000000000) :
    Calls Try.prog 121 #[.int .i64 size, .int .i64 many] w fun e w' => e = .returned (.int .i64 (size ^ many.toNat)) ∧ w = w' := by
  obtain ⟨n, rfl⟩ := Int.eq_ofNat_of_zero_le hm
  rw [Int.toNat_natCast] at hp ⊢
  go_enter Try.func121, Try.ntmps121
  go_wp2
  go_loop [1, 5] (fun i p => ∃ j : Nat, j ≤ n ∧ i = .int .i64 ((n : Int) - j) ∧ ∃ q : Int, 0 ≤ q ∧ q ≤ 1000000000000 ∧ Hid (q = size ^ j) ∧ p = .int .i64 q) (fun i _ => (intOf i).toNat)
  case atStart => exact ⟨0, Nat.zero_le _, by simp, 1, by omega, by omega, by simp [Hid], rfl⟩
  case round =>
    obtain ⟨j, hj, rfl, q, hq0, hq1, hq, rfl⟩ := hrel
    by_cases hlt : j < n
    · have e1 : q * size = size ^ (j + 1) := by rw [hq.out, Int.pow_succ]
      have e2 : q * size ≤ 1000000000000 := by rw [e1]; exact Int.le_trans (pow_le_of hs hlt) hp
      have e3 : 0 ≤ q * size := Int.mul_nonneg hq0 (by omega)
      have E1 := Lib.hid e1
      clear e1
      go_wp2
      go_round
      case rel => exact ⟨j + 1, hlt, by go_num, q * size, e3, e2, E1.out, rfl⟩
      case measure => simp [intOf]; omega
    · obtain rfl : j = n := by omega
      go_wp2
      go_ret
      exact ⟨ret_int hq.out, rfl⟩
set_option maxRecDepth 100000 in
set_option maxHeartbeats 1000000 in
theorem CountAnswers_c (x : Sys) (v0 v1 v2 : Value) (w : World) (hx : Rd w [v0, v1, v2] x) :
    Calls Try.prog 32 #[.agg #[v0, v1, v2]] w fun e w' => e = .returned (.tuple #[.int .i64 (countF x).1, .int .i64 (countF x).2]) ∧ Below w.heap.size w w' := by
  obtain ⟨p, u, l⟩ := x
  have HX := Lib.hid hx
  have z := rd_cons rfl hx
  obtain ⟨rfl, _⟩ := rd_i1 z.1
  have z2 := rd_cons rfl z.2
  obtain ⟨rfl, _⟩ := rd_i1 z2.1
  obtain ⟨a, c, rfl, _⟩ := rd_list z2.2
  clear hx z z2
  have hs := (St.start w).alloc #[.int .i64 p, .int .i64 u, .slice a l.length c] 31 rfl
  have k0 := hs.cellAt 0 rfl 0 rfl
  have k1 := hs.cellAt 0 rfl 1 rfl
  have k2 := hs.cellAt 0 rfl 2 rfl
  go_enter Try.func32, Try.ntmps32
  go_wp2_with fail
  refine (RankOfSystem_c (p, u, l) _ _ _ _ (Rd.mono HX.out hs.bel)).mono ?_
  rintro e w1 ⟨rfl, hb1⟩
  have hs1 := hs.step hb1
  clear k0 k1 k2
  have k0 := hs1.cellAt 0 rfl 0 rfl
  have k1 := hs1.cellAt 0 rfl 1 rfl
  have k2 := hs1.cellAt 0 rfl 2 rfl
  cases hok : validS (p, u, l) with
  | false =>
    have HK := Lib.hid hok
    have hr : rankF (p, u, l) = (0, 1) := by unfold rankF; rw [hok]; rfl
    rw [hr]
    clear hok hr
    go_wp2_with fail
    refine bodyPost_ret (v := .tuple #[.int .i64 0, .int .i64 1]) (by simp [results, Try.results32, go_sem]) rfl ⟨?_, hs1.bel⟩
    unfold countF; rw [HK.out]; rfl
  | true =>
    have HK := Lib.hid hok
    have KO := Lib.hid (elim_ok hok)
    by_cases hf : 0 ≤ falseS (p, u, l)
    · have hr : rankF (p, u, l) = (0, 4) := by unfold rankF; rw [if_pos hok, if_pos hf]
      rw [hr]
      have HF := Lib.hid hf
      clear hok hr hf
      go_wp2_with fail
      refine bodyPost_ret (v := .tuple #[.int .i64 0, .int .i64 0]) (by simp [results, Try.results32, go_sem]) rfl ⟨?_, hs1.bel⟩
      unfold countF; rw [if_pos HK.out, if_pos HF.out]
    · have hr : rankF (p, u, l) = (((elimS (p, u, l)).2.length : Int), 0) := by unfold rankF; rw [if_pos hok, if_neg hf]
      rw [hr]
      have HF := Lib.hid hf
      clear hok hr hf
      have hpw := KO.out.pow
      have hp2 := KO.out.hp
      have hu2 := KO.out.hu
      simp only at hpw hp2 hu2
      generalize hR : (elimS (p, u, l)).2.length = RK at *
      have HR := Lib.hid hR
      clear hR
      have hpn : 2 ≤ p := by omega
      obtain ⟨hp5, hp6, hp7⟩ := hpw
      have HP7 := Lib.hid hp7
      clear hp7
      go_wp2_with (go_at_call 89; refine (power_c p (u - RK) _ (by omega) (by omega) (by omega) (Int.le_trans HP7.out (by decide))).mono ?_; rintro e w2 ⟨rfl, rfl⟩)
      refine bodyPost_ret (v := .tuple #[.int .i64 (p ^ (u - (RK : Int)).toNat), .int .i64 0]) (by simp [results, Try.results32, go_sem]) rfl ⟨?_, hs1.bel⟩
      unfold countF; rw [if_pos HK.out, if_neg (by have := HF.out; omega), HR.out]
set_option maxRecDepth 100000 in
set_option maxHeartbeats 1000000 in
theorem l07Count_c (x : Sys) (sb : Nat) (v0 v1 v2 : Value) (w : World) (hx : Rd w [v0, v1, v2] x) (c0 : w.cell? ⟨sb, 0, none⟩ = some v0) (c1 : w.cell? ⟨sb, 1, none⟩ = some v1) (c2 : w.cell? ⟨sb, 2, none⟩ = some v2) (hok : validS x = true) :
    Calls Try.prog 88 #[.pointer (some ⟨sb, 0, none⟩)] w fun e w' => e = .returned (.int .i64 (countF x).1) ∧ Below w.heap.size w w' := by
  obtain ⟨p, u, l⟩ := x
  have HX := Lib.hid hx
  have z := rd_cons rfl hx
  obtain ⟨rfl, _⟩ := rd_i1 z.1
  have z2 := rd_cons rfl z.2
  obtain ⟨rfl, _⟩ := rd_i1 z2.1
  obtain ⟨a, c, rfl, _⟩ := rd_list z2.2
  clear hx z z2
  have HK := Lib.hid hok
  have KO := Lib.hid (elim_ok hok)
  clear hok
  go_enter Try.func88, Try.ntmps88
  go_wp2_with fail
  refine (l07Rank_c (p, u, l) sb _ _ _ _ HX.out c0 c1 c2 HK.out).mono ?_
  rintro e w1 ⟨rfl, hb1⟩
  have d0 := cellL hb1 c0
  have d1 := cellL hb1 c1
  by_cases hf : falseS (p, u, l) < 0
  · rw [decide_eq_true hf]
    have HF := Lib.hid hf
    have hpw := KO.out.pow
    have hp2 := KO.out.hp
    have hu2 := KO.out.hu
    simp only at hpw hp2 hu2
    generalize hR : (elimS (p, u, l)).2.length = RK at *
    have HR := Lib.hid hR
    obtain ⟨hp5, hp6, hp7⟩ := hpw
    have HP7 := Lib.hid hp7
    clear hR hf hp7
    have hpn : 2 ≤ p := by omega
    go_wp2_with fail
    refine wp_region_noPanic (wp_region_el (fun w' => w'.cell? ⟨sb, 0, none⟩ = some (.int .i64 p) ∧ w'.cell? ⟨sb, 1, none⟩ = some (.int .i64 u)) [(0, 0), (1, 0), (2, 0), (3, 0), (4, 0), (5, 0), (6, 0), (7, 0), (8, 0), (9, 0), (10, 1), (11, 0)] (by kernel_rfl) (by kernel_rfl) (by kernel_rfl) rfl ?_ (fun _ _ _ _ _ h => h) ?_)
    · exact ⟨d0, d1⟩
    (repeat (first | (apply el_skip rfl (by rfl); try simp only [Act.put, List.setIfInBounds_toArray, List.set_cons_zero, List.set_cons_succ]) | (apply el_float rfl (by rfl); (· (intro w' hS; go_simp <;> with_reducible rfl)); (try simp only [Act.put, List.setIfInBounds_toArray, List.set_cons_zero, List.set_cons_succ]))))
    refine el_hard rfl (by rfl) (fun K hK => ?_)
    go_wp2_with (go_at_call 121; refine (l01Power_c p (u - RK) _ (by omega) (by omega) (by omega) (Int.le_trans HP7.out (by decide))).mono ?_; rintro e w2 ⟨rfl, rfl⟩)
    refine ⟨⟨d0, d1⟩, ?_⟩
    (repeat (first | (apply el_skip rfl (by rfl); try simp only [Act.put, List.setIfInBounds_toArray, List.set_cons_zero, List.set_cons_succ]) | (apply el_float rfl (by rfl); (· (intro w' hS; go_simp <;> with_reducible rfl)); (try simp only [Act.put, List.setIfInBounds_toArray, List.set_cons_zero, List.set_cons_succ]))))
    refine el_nil (NoPanic.normal ?_)
    go_wp2_with fail
    go_ret
    exact ⟨ret_int (by unfold countF; rw [if_pos HK.out, if_neg (by have := HF.out; omega), HR.out]; show _ = p ^ (u - (RK : Int)).toNat; congr 1; omega), hb1.trans ((belowD w1).mono hb1.size)⟩
  · rw [decide_eq_false hf]
    have HF := Lib.hid hf
    clear hf
    go_wp2_with fail
    go_ret
    exact ⟨ret_int (by unfold countF; rw [if_pos HK.out, if_pos (by have := HF.out; omega)]), hb1⟩
set_option maxRecDepth 100000 in
set_option maxHeartbeats 1000000 in
theorem sCountAnswers_c (x : Sys) (v0 v1 v2 : Value) (w : World) (hx : Rd w [v0, v1, v2] x) :
    Calls Try.prog 31 #[.agg #[v0, v1, v2]] w fun e w' => e = .returned (.tuple #[.int .i64 (countF x).1, .int .i64 (countF x).2]) ∧ Below w.heap.size w w' := by
  obtain ⟨p, u, l⟩ := x
  have HX := Lib.hid hx
  have z := rd_cons rfl hx
  obtain ⟨rfl, _⟩ := rd_i1 z.1
  have z2 := rd_cons rfl z.2
  obtain ⟨rfl, _⟩ := rd_i1 z2.1
  obtain ⟨a, c, rfl, _⟩ := rd_list z2.2
  clear hx z z2
  have hs := (St.start w).alloc #[.int .i64 p, .int .i64 u, .slice a l.length c] 31 rfl
  go_enter Try.func31, Try.ntmps31
  go_wp2_with fail
  refine (l07Ok_c (p, u, l) _ _ _ _ _ (Rd.mono HX.out hs.bel) (hs.cellAt 0 rfl 0 rfl) (hs.cellAt 0 rfl 1 rfl) (hs.cellAt 0 rfl 2 rfl)).mono ?_
  rintro e w1 ⟨rfl, n1, rfl⟩
  have hs1 := hs.drewN n1
  cases hok : validS (p, u, l) with
  | false =>
    have HK := Lib.hid hok
    clear hok
    go_wp2_with fail
    refine bodyPost_ret (v := .tuple #[.int .i64 0, .int .i64 1]) (by simp [results, Try.results31, go_sem]) rfl ⟨?_, hs1.bel⟩
    unfold countF; rw [HK.out]; rfl
  | true =>
    have HK := Lib.hid hok
    have KO := Lib.hid (elim_ok hok)
    clear hok
    go_wp2_with fail
    refine (l07Count_c (p, u, l) _ _ _ _ _ (Rd.mono HX.out hs1.bel) (hs1.cellAt 0 rfl 0 rfl) (hs1.cellAt 0 rfl 1 rfl) (hs1.cellAt 0 rfl 2 rfl) HK.out).mono ?_
    rintro e w2 ⟨rfl, hb2⟩
    have hs2 := hs1.step hb2
    go_wp2_with fail
    refine bodyPost_ret (v := .tuple #[.int .i64 (countF (p, u, l)).1, .int .i64 0]) (by simp [results, Try.results31, go_sem]) rfl ⟨?_, hs2.bel⟩
    have : (countF (p, u, l)).2 = 0 := by unfold countF; rw [if_pos HK.out]; split <;> rfl
    rw [this]

end Go.Proofs.Ytkbeihkjhmillaa
