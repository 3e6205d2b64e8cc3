/-
  SEVERAL TEXTS IN ONE.
-/
import Derived.Test.YthceklaoikeokaaGreatDoorSysB
import Derived.Test.YthceklaoikeokaaGreatDoorReduced
import Derived.Test.YthceklaoikeokaaGreatDoorRowB
import Derived.Test.YthceklaoikeokaaGreatDoorReduceS
import Derived.Test.YthceklaoikeokaaGreatDoorRowsB
import Derived.Test.YthceklaoikeokaaGreatDoorKinds
import Derived.Test.YthceklaoikeokaaGreatDoorBase

/-
  CONTRACTS: RankOfSystem, CountAnswers. (Printed by wip/gensys.py.)
-/
namespace Go.Proofs.YthceklaoikeokaaGreatDoor
open Go.RowKit Go.Shelf Go.IntWalk
open Rep (Rd Own sz)
set_option linter.unusedSimpArgs false
set_option linter.unusedVariables false

set_option maxRecDepth 100000 in
set_option maxHeartbeats 1000000 in
theorem RankOfSystem_c (x : Sys) (v0 v1 v2 : Value) (w : World) (hx : Rd w [v0, v1, v2] x) :
    Calls Tryz.prog 17 #[.agg #[v0, v1, v2]] w fun e w' => e = .returned (.tuple #[.int .i64 (rankF x).1, .int .i64 (rankF x).2]) ∧ Below w.heap.size w w' := by
  obtain ⟨p, u, l⟩ := x
  have HX := Lib.hid hx
  have z := rd_cons rfl hx
  obtain ⟨rfl, _⟩ := rd_i1 z.1
  have z2 := rd_cons rfl z.2
  obtain ⟨rfl, _⟩ := rd_i1 z2.1
  obtain ⟨a, c, rfl, _⟩ := rd_list z2.2
  clear hx z z2
  have hs := (St.start w).alloc #[.int .i64 p, .int .i64 u, .slice a l.length c] 26 rfl
  have k0 := hs.cellAt 0 rfl 0 rfl
  have k1 := hs.cellAt 0 rfl 1 rfl
  have k2 := hs.cellAt 0 rfl 2 rfl
  go_enter Tryz.func17, Tryz.ntmps17
  go_wp2_with fail
  refine (ValidSystem_c (p, u, l) _ _ _ _ (Rd.mono HX.out hs.bel)).mono ?_
  rintro e w1 ⟨rfl, hb1⟩
  have hs1 := hs.step hb1
  clear k0 k1 k2
  have k0 := hs1.cellAt 0 rfl 0 rfl
  have k1 := hs1.cellAt 0 rfl 1 rfl
  have k2 := hs1.cellAt 0 rfl 2 rfl
  cases hok : validS (p, u, l) with
  | false =>
    have HK := Lib.hid hok
    clear hok
    go_wp2_with fail
    refine bodyPost_ret (v := .tuple #[.int .i64 0, .int .i64 1]) (by simp [results, Tryz.results17, go_sem]) rfl ⟨?_, hs1.bel⟩
    unfold rankF; rw [HK.out]; rfl
  | true =>
    have HK := Lib.hid hok
    have KO := Lib.hid (elim_ok hok)
    clear hok
    go_wp2_with fail
    refine (reduced_c (p, u, l) _ _ _ _ (Rd.mono HX.out hs1.bel) HK.out).mono ?_
    rintro e w2 ⟨vr, vb, rfl, rr, rb, hb2⟩
    obtain ⟨ar, cr, rfl, _⟩ := rd_list rr
    obtain ⟨ab, cb, rfl, _⟩ := rd_list rb
    have RR := Lib.hid rr
    have RB := Lib.hid rb
    have hs2 := hs1.step hb2
    clear rr rb
    clear k0 k1 k2
    have k0 := hs2.cellAt 0 rfl 0 rfl
    have k1 := hs2.cellAt 0 rfl 1 rfl
    have k2 := hs2.cellAt 0 rfl 2 rfl
    go_wp2_with fail
    refine (contradiction_c _ _ _ RR.out KO.out.contr).mono ?_
    rintro e w3 ⟨o0, n0, d0, o1, n1, d1, rfl, hb3, hat⟩
    have HAT := Lib.hid hat
    rw [contrI KO.out]
    have hs3 := hs2.step hb3
    clear hat
    clear k0 k1 k2
    have hs5 := hs3.alloc #[.slice o0 n0 d0, .slice o1 n1 d1] 53 rfl
    have k0 := hs5.cellAt 0 rfl 0 rfl
    have k1 := hs5.cellAt 0 rfl 1 rfl
    have k2 := hs5.cellAt 0 rfl 2 rfl
    have m2 := hs5.cellAt 1 rfl 0 rfl
    have m3 := hs5.cellAt 1 rfl 1 rfl
    by_cases hf : 0 ≤ falseS (p, u, l)
    · rw [decide_eq_true hf]
      have HF := Lib.hid hf
      clear hf
      go_wp2_with fail
      refine bodyPost_ret (v := .tuple #[.int .i64 0, .int .i64 4]) (by simp [results, Tryz.results17, go_sem]) rfl ⟨?_, hs5.bel⟩
      unfold rankF; rw [if_pos HK.out, if_pos HF.out]
    · rw [decide_eq_false hf]
      have HF := Lib.hid hf
      have HFL := Lib.hid KO.out.flat
      clear hf
      go_wp2_with fail
      refine bodyPost_ret (v := .tuple #[.int .i64 (elimI (p, u, l)).2.length, .int .i64 0]) (by simp [results, Tryz.results17, go_sem]) rfl ⟨?_, hs5.bel⟩
      unfold rankF; rw [if_pos HK.out, if_neg (by have := HF.out; omega), HFL.out]

end Go.Proofs.YthceklaoikeokaaGreatDoor

/-
  CONTRACTS: CountAnswers. (Printed by wip/gensys.py.)
-/
namespace Go.Proofs.YthceklaoikeokaaGreatDoor
open Go.RowKit Go.Shelf Go.IntWalk
open Rep (Rd Own sz)
set_option linter.unusedSimpArgs false
set_option linter.unusedVariables false

theorem ElimOk.pow {s : Sys} (h : ElimOk s) : 0 ≤ s.2.1 - ((elimS s).2.length : Int) ∧ s.2.1 - ((elimS s).2.length : Int) ≤ 12 ∧ s.1 ^ (s.2.1 - ((elimS s).2.length : Int)).toNat ≤ 1000000000 := by
  have h1 := h.leU
  have h2 := h.hu
  have h3 : (s.2.1 - ((elimS s).2.length : Int)).toNat ≤ 12 := by omega
  refine ⟨by omega, by omega, ?_⟩
  have h4 : s.1 ^ (s.2.1 - ((elimS s).2.length : Int)).toNat ≤ s.1 ^ 12 := pow_le_of (by have := h.hp; omega) h3
  refine Int.le_trans h4 ?_
  rcases h.hp with hp | hp <;> rw [hp] <;> decide
set_option maxRecDepth 100000 in
set_option maxHeartbeats 1000000 in
theorem CountAnswers_c (x : Sys) (v0 v1 v2 : Value) (w : World) (hx : Rd w [v0, v1, v2] x) :
    Calls Tryz.prog 12 #[.agg #[v0, v1, v2]] w fun e w' => e = .returned (.tuple #[.int .i64 (countF x).1, .int .i64 (countF x).2]) ∧ Below w.heap.size w w' := by
  obtain ⟨p, u, l⟩ := x
  have HX := Lib.hid hx
  have z := rd_cons rfl hx
  obtain ⟨rfl, _⟩ := rd_i1 z.1
  have z2 := rd_cons rfl z.2
  obtain ⟨rfl, _⟩ := rd_i1 z2.1
  obtain ⟨a, c, rfl, _⟩ := rd_list z2.2
  clear hx z z2
  have hs := (St.start w).alloc #[.int .i64 p, .int .i64 u, .slice a l.length c] 26 rfl
  have k0 := hs.cellAt 0 rfl 0 rfl
  have k1 := hs.cellAt 0 rfl 1 rfl
  have k2 := hs.cellAt 0 rfl 2 rfl
  go_enter Tryz.func12, Tryz.ntmps12
  go_wp2_with fail
  refine (RankOfSystem_c (p, u, l) _ _ _ _ (Rd.mono HX.out hs.bel)).mono ?_
  rintro e w1 ⟨rfl, hb1⟩
  have hs1 := hs.step hb1
  clear k0 k1 k2
  have k0 := hs1.cellAt 0 rfl 0 rfl
  have k1 := hs1.cellAt 0 rfl 1 rfl
  have k2 := hs1.cellAt 0 rfl 2 rfl
  cases hok : validS (p, u, l) with
  | false =>
    have HK := Lib.hid hok
    have hr : rankF (p, u, l) = (0, 1) := by unfold rankF; rw [hok]; rfl
    rw [hr]
    clear hok hr
    go_wp2_with fail
    refine bodyPost_ret (v := .tuple #[.int .i64 0, .int .i64 1]) (by simp [results, Tryz.results12, go_sem]) rfl ⟨?_, hs1.bel⟩
    unfold countF; rw [HK.out]; rfl
  | true =>
    have HK := Lib.hid hok
    have KO := Lib.hid (elim_ok hok)
    by_cases hf : 0 ≤ falseS (p, u, l)
    · have hr : rankF (p, u, l) = (0, 4) := by unfold rankF; rw [if_pos hok, if_pos hf]
      rw [hr]
      have HF := Lib.hid hf
      clear hok hr hf
      go_wp2_with fail
      refine bodyPost_ret (v := .tuple #[.int .i64 0, .int .i64 0]) (by simp [results, Tryz.results12, go_sem]) rfl ⟨?_, hs1.bel⟩
      unfold countF; rw [if_pos HK.out, if_pos HF.out]
    · have hr : rankF (p, u, l) = (((elimS (p, u, l)).2.length : Int), 0) := by unfold rankF; rw [if_pos hok, if_neg hf]
      rw [hr]
      have HF := Lib.hid hf
      clear hok hr hf
      have hpw := KO.out.pow
      have hp2 := KO.out.hp
      have hu2 := KO.out.hu
      simp only at hpw hp2 hu2
      generalize hR : (elimS (p, u, l)).2.length = RK at *
      have HR := Lib.hid hR
      clear hR
      have hpn : 2 ≤ p := by omega
      obtain ⟨hp5, hp6, hp7⟩ := hpw
      have HP7 := Lib.hid hp7
      clear hp7
      go_wp2_with (go_at_call 41; refine (power_c p (u - RK) _ (by omega) (by omega) (by omega) (Int.le_trans HP7.out (by decide))).mono ?_; rintro e w2 ⟨rfl, rfl⟩)
      refine bodyPost_ret (v := .tuple #[.int .i64 (p ^ (u - (RK : Int)).toNat), .int .i64 0]) (by simp [results, Tryz.results12, go_sem]) rfl ⟨?_, hs1.bel⟩
      unfold countF; rw [if_pos HK.out, if_neg (by have := HF.out; omega), HR.out]

end Go.Proofs.YthceklaoikeokaaGreatDoor

/-
  CONTRACTS: RefuteSystem. (Printed by wip/gensys.py.)
-/
namespace Go.Proofs.YthceklaoikeokaaGreatDoor
open Go.RowKit Go.Shelf Go.IntWalk
open Rep (Rd Own sz)
set_option linter.unusedSimpArgs false
set_option linter.unusedVariables false

theorem fresh_nil {α : Type} [Rep α] {lo : Nat} {w : World} (a : Option Addr) : Fresh lo w [.slice a 0 0] ([] : List α) :=
  ⟨[], ⟨_, rfl, .inl ⟨rfl, rfl, a, 0, rfl, Nat.zero_le _⟩⟩, by simp, by simp⟩
theorem row_by (a b : Option Addr) (n m c d : Nat) (w : World) : (Instr.field 53 (.agg #[.slice a n c, .slice b m d]) 1).run Tryz.prog w = .ok (.slice b m d) w := by kernel_rfl
theorem falseS_lt {s : Sys} (h : 0 ≤ falseS s) : (falseS s).toNat < (elimS s).1.length ∧ falseS s = (falseS s).toNat := ⟨(falseF_lt h).1, (falseF_lt h).2.1⟩
theorem elim_badI {s : Sys} (K : ElimOk s) (hf : 0 ≤ falseS s) : ∃ h : (falseS s).toNat < (elimI s).1.length, (elimI s).1[(falseS s).toNat] = flat (badS s) := by
  have h1 := (falseS_lt hf).1
  have hlt : (falseS s).toNat < (elimI s).1.length := by rw [K.flat]; simpa using h1
  refine ⟨hlt, ?_⟩
  have : (elimI s).1[(falseS s).toNat]? = some (flat (badS s)) := by
    rw [K.flat]
    unfold badS
    simp only [List.getElem?_map, List.getD, List.getElem?_eq_getElem h1, Option.map_some, Option.getD_some]
  rw [List.getElem?_eq_getElem hlt] at this
  simpa using this
theorem refuteF_small (x : Sys) : (refuteF x).1.length ≤ 1000000 := by
  unfold refuteF
  split
  · rename_i h
    have K := elim_ok h
    split
    · rename_i hf
      have := (K.bad hf).1.by_
      have := K.hl
      simp [scaleS, scaleL]; omega
    · simp
  · simp
set_option maxRecDepth 100000 in
set_option maxHeartbeats 2000000 in
theorem RefuteSystem_c (x : Sys) (v0 v1 v2 : Value) (w : World) (hx : Rd w [v0, v1, v2] x) :
    Calls Tryz.prog 7 #[.agg #[v0, v1, v2]] w fun e w' => ∃ v, e = .returned (.tuple #[v, .int .i64 (refuteF x).2]) ∧ Fresh w.heap.size w' [v] (refuteF x).1 ∧ Below w.heap.size w w' := by
  obtain ⟨p, u, l⟩ := x
  have HX := Lib.hid hx
  have z := rd_cons rfl hx
  obtain ⟨rfl, _⟩ := rd_i1 z.1
  have z2 := rd_cons rfl z.2
  obtain ⟨rfl, _⟩ := rd_i1 z2.1
  obtain ⟨a, c, rfl, _⟩ := rd_list z2.2
  clear hx z z2
  have hs := (St.start w).alloc #[.int .i64 p, .int .i64 u, .slice a l.length c] 26 rfl
  have k0 := hs.cellAt 0 rfl 0 rfl
  have k1 := hs.cellAt 0 rfl 1 rfl
  have k2 := hs.cellAt 0 rfl 2 rfl
  go_enter Tryz.func7, Tryz.ntmps7
  go_wp2_with fail
  refine (ValidSystem_c (p, u, l) _ _ _ _ (Rd.mono HX.out hs.bel)).mono ?_
  rintro e w1 ⟨rfl, hb1⟩
  have hs1 := hs.step hb1
  clear k0 k1 k2
  have k0 := hs1.cellAt 0 rfl 0 rfl
  have k1 := hs1.cellAt 0 rfl 1 rfl
  have k2 := hs1.cellAt 0 rfl 2 rfl
  cases hok : validS (p, u, l) with
  | false =>
    have HK := Lib.hid hok
    clear hok
    go_wp2_with fail
    refine bodyPost_ret (v := .tuple #[.slice none 0 0, .int .i64 1]) (by simp [results, Tryz.results7, go_sem]) rfl ⟨.slice none 0 0, ?_, ?_, hs1.bel⟩
    · unfold refuteF; rw [HK.out]; rfl
    · unfold refuteF; rw [HK.out]; exact fresh_nil none
  | true =>
    have HK := Lib.hid hok
    have KO := Lib.hid (elim_ok hok)
    clear hok
    go_wp2_with fail
    refine (reduced_c (p, u, l) _ _ _ _ (Rd.mono HX.out hs1.bel) HK.out).mono ?_
    rintro e w2 ⟨vr, vb, rfl, rr, rb, hb2⟩
    obtain ⟨ar, cr, rfl, _⟩ := rd_list rr
    obtain ⟨ab, cb, rfl, _⟩ := rd_list rb
    have RR := Lib.hid rr
    have RB := Lib.hid rb
    have hs2 := hs1.step hb2
    clear rr rb
    clear k0 k1 k2
    have k0 := hs2.cellAt 0 rfl 0 rfl
    have k1 := hs2.cellAt 0 rfl 1 rfl
    have k2 := hs2.cellAt 0 rfl 2 rfl
    go_wp2_with fail
    refine (contradiction_c _ _ _ RR.out KO.out.contr).mono ?_
    rintro e w3 ⟨o0, n0, d0, o1, n1, d1, rfl, hb3, hat⟩
    have HAT := Lib.hid hat
    rw [contrI KO.out]
    have hs3 := hs2.step hb3
    clear hat
    clear k0 k1 k2
    have hs5 := hs3.alloc #[.slice o0 n0 d0, .slice o1 n1 d1] 53 rfl
    have k0 := hs5.cellAt 0 rfl 0 rfl
    have k1 := hs5.cellAt 0 rfl 1 rfl
    have k2 := hs5.cellAt 0 rfl 2 rfl
    have m2 := hs5.cellAt 1 rfl 0 rfl
    have m3 := hs5.cellAt 1 rfl 1 rfl
    by_cases hf : 0 ≤ falseS (p, u, l)
    · rw [decide_eq_true hf]
      have HF := Lib.hid hf
      obtain ⟨hlt, hel⟩ := elim_badI KO.out hf
      have hrd := HAT.out _ hlt (by rw [contrI KO.out]; exact (falseS_lt hf).2)
      rw [hel] at hrd
      have HB := Lib.hid (KO.out.bad hf)
      have hN := HB.out.1.right
      have hp2 := KO.out.hp
      have hu2 := KO.out.hu
      have hl2 := KO.out.hl
      have hG := flat_good HB.out.1
      have hR : Hid (rightR (flat (badS (p, u, l))).1 = (badS (p, u, l)).2.1) := by simp [Hid, rightR, flat, List.getD]
      simp only at hN hp2 hu2 hl2
      have HRD := Lib.hid hrd
      have HG := Lib.hid hG
      have HX2 := Lib.hid (show refuteF (p, u, l) = ((timesR p (rightR (flat (badS (p, u, l))).1) (flat (badS (p, u, l)))).2, 0) by
        unfold refuteF; rw [if_pos HK.out, if_pos HF.out, hR.out, ← flat_scale]; rfl)
      rw [← hR.out] at hN
      clear hf hrd hel hG hlt
      generalize flat (badS (p, u, l)) = Y at *
      have HY5 := Lib.hid (Rd.mono HRD.out (belowA _ (.cells #[.slice o0 n0 d0, .slice o1 n1 d1] 53)))
      have z0 := (rd_cons rfl HRD.out).1
      have z1 := (rd_cons rfl HRD.out).2
      obtain ⟨a6, c6, e6, _⟩ := rd_list z0
      obtain ⟨a7, c7, e7, _⟩ := rd_list z1
      simp only [Value.slice.injEq] at e6 e7
      obtain ⟨rfl, rfl, rfl⟩ := e6
      obtain ⟨rfl, rfl, rfl⟩ := e7
      clear z0 z1
      have q0 := hs5.cellAt 1 rfl 0 rfl
      have q1 := hs5.cellAt 1 rfl 1 rfl
      generalize hRR : rightR Y.1 = RV at *
      have HRR := Lib.hid hRR
      clear hRR
      go_wp2_with fail
      refine wp_region_noPanic (wp_region_el (fun w' => w'.cell? ⟨w.heap.size, 0, none⟩ = some (.int .i64 p) ∧ w'.cell? ⟨w3.heap.size, 0, none⟩ = some (.slice o0 Y.1.length d0) ∧ w'.cell? ⟨w3.heap.size, 1, none⟩ = some (.slice o1 Y.2.length d1)) [(0, 0), (1, 0), (2, 0), (3, 0), (4, 1), (5, 1), (6, 1), (7, 0), (8, 0), (9, 0)] (by kernel_rfl) (by kernel_rfl) (by kernel_rfl) rfl ?_ (fun _ _ _ _ _ h => h) ?_)
      · exact ⟨k0, q0, q1⟩
      have hs6 := hs5.drew
      (repeat (first | (apply el_skip rfl (by rfl); try simp only [Act.put, List.setIfInBounds_toArray, List.set_cons_zero, List.set_cons_succ]) | (apply el_float rfl (by rfl); (· (intro w' hS; go_simp <;> with_reducible rfl)); (try simp only [Act.put, List.setIfInBounds_toArray, List.set_cons_zero, List.set_cons_succ]))))
      refine el_hard rfl (by rfl) (fun K hK => ?_)
      go_wp2_with (go_at_call 27; refine (right_c Y _ _ _ (Rd.mono HY5.out (belowD _)) (by rw [HG.out.1]; omega) (by rw [HG.out.1]; omega)).mono ?_; rintro e w5 ⟨rfl, hb5⟩)
      rw [HRR.out]
      have hs7 := hs6.step hb5
      refine ⟨⟨hs7.cellAt 0 rfl 0 rfl, hs7.cellAt 1 rfl 0 rfl, hs7.cellAt 1 rfl 1 rfl⟩, ?_⟩
      (repeat (first | (apply el_skip rfl (by rfl); try simp only [Act.put, List.setIfInBounds_toArray, List.set_cons_zero, List.set_cons_succ]) | (apply el_float rfl (by rfl); (· (intro w' hS; go_simp <;> with_reducible rfl)); (try simp only [Act.put, List.setIfInBounds_toArray, List.set_cons_zero, List.set_cons_succ]))))
      refine el_hard rfl (by rfl) (fun K hK => ?_)
      go_wp2_with (go_at_call 29; refine (inverse_c RV _).mono ?_; rintro e w6 ⟨rfl, rfl⟩)
      refine ⟨⟨hs7.cellAt 0 rfl 0 rfl, hs7.cellAt 1 rfl 0 rfl, hs7.cellAt 1 rfl 1 rfl⟩, ?_⟩
      (repeat (first | (apply el_skip rfl (by rfl); try simp only [Act.put, List.setIfInBounds_toArray, List.set_cons_zero, List.set_cons_succ]) | (apply el_float rfl (by rfl); (· (intro w' hS; go_simp <;> with_reducible rfl)); (try simp only [Act.put, List.setIfInBounds_toArray, List.set_cons_zero, List.set_cons_succ]))))
      refine el_hard rfl (by rfl) (fun K hK => ?_)
      go_wp2_with (go_at_call 28; refine (times_c p RV Y _ _ _ (Rd.mono (Rd.mono HY5.out (belowD _)) hb5) (by rw [HG.out.1]; omega) (by rw [HG.out.2.1]; omega) (by omega) (by omega) (by omega) (by omega) HG.out.2.2.1 HG.out.2.2.2).mono ?_; rintro e w7 ⟨x0, x1, rfl, fr, hb7⟩)
      have hs8 := hs7.step hb7
      have FR := Lib.hid (fresh_snd (α := List Int) (β := List Int) rfl fr)
      obtain ⟨a8, c8, rfl, _⟩ := rd_list FR.out.rd
      obtain ⟨a9, c9, rfl, _⟩ := rd_list (rd_cons rfl fr.rd).1
      clear fr
      have hfd : ∀ w : World, (Instr.field 53 (.agg #[.slice a9 (timesR p RV Y).1.length c9, .slice a8 (timesR p RV Y).2.length c8]) 1).run Tryz.prog w = .ok (.slice a8 (timesR p RV Y).2.length c8) w := fun _ => row_by _ _ _ _ _ _ _
      refine ⟨⟨hs8.cellAt 0 rfl 0 rfl, hs8.cellAt 1 rfl 0 rfl, hs8.cellAt 1 rfl 1 rfl⟩, ?_⟩
      (repeat (first | (apply el_skip rfl (by rfl); try simp only [Act.put, List.setIfInBounds_toArray, List.set_cons_zero, List.set_cons_succ]) | (apply el_float rfl (by rfl); (· (intro w' hS; go_simp <;> with_reducible rfl)); (try simp only [Act.put, List.setIfInBounds_toArray, List.set_cons_zero, List.set_cons_succ]))))
      refine el_nil (NoPanic.normal ?_)
      go_wp2_with fail
      refine bodyPost_ret (v := .tuple #[.slice a8 (timesR p RV Y).2.length c8, .int .i64 0]) (by simp [results, Tryz.results7, go_sem]) rfl ⟨.slice a8 (timesR p RV Y).2.length c8, ?_, ?_, hs8.bel⟩
      · rw [HX2.out]
      · rw [HX2.out]; exact FR.out.lower (by have := hs7.lo; have := hs7.hi; omega)
    · rw [decide_eq_false hf]
      have HF := Lib.hid hf
      clear hf
      go_wp2_with fail
      refine bodyPost_ret (v := .tuple #[.slice none 0 0, .int .i64 6]) (by simp [results, Tryz.results7, go_sem]) rfl ⟨.slice none 0 0, ?_, ?_, hs5.bel⟩
      · unfold refuteF; rw [if_pos HK.out, if_neg (by have := HF.out; omega)]
      · unfold refuteF; rw [if_pos HK.out, if_neg (by have := HF.out; omega)]; exact fresh_nil none
theorem ownInts_nodup {ps : List Nat} {w : World} {v : Value} {l : List Int} (h : OwnSl ps w v l) : ps.Nodup := by
  rcases h with ⟨_, rfl, _⟩ | ⟨g, o, c, cur, e, pss, _, _, _, _, rfl, h5, h6⟩
  · simp
  · have hps : List.flatten pss = [] := by
      rw [List.flatten_eq_nil_iff]
      intro p hp
      obtain ⟨j, hj, rfl⟩ := List.mem_iff_getElem.1 hp
      obtain ⟨p', vs, hp', hO, _⟩ := h6 j (by omega)
      rw [List.getElem?_eq_getElem hj] at hp'
      cases hp'
      exact hO.1
    rw [hps]; simp
set_option maxRecDepth 100000 in
set_option maxHeartbeats 2000000 in
theorem sRefuteSystem_c (x : Sys) (v0 v1 v2 : Value) (w : World) (hx : Rd w [v0, v1, v2] x) :
    Calls Tryz.prog 9 #[.agg #[v0, v1, v2]] w fun e w' => ∃ v, e = .returned (.tuple #[v, .int .i64 (refuteF x).2]) ∧ Fresh w.heap.size w' [v] (refuteF x).1 ∧ Below w.heap.size w w' := by
  obtain ⟨p, u, l⟩ := x
  have HX := Lib.hid hx
  have z := rd_cons rfl hx
  obtain ⟨rfl, _⟩ := rd_i1 z.1
  have z2 := rd_cons rfl z.2
  obtain ⟨rfl, _⟩ := rd_i1 z2.1
  obtain ⟨a, c, rfl, _⟩ := rd_list z2.2
  clear hx z z2
  have hs := (St.start w).alloc #[.int .i64 p, .int .i64 u, .slice a l.length c] 26 rfl
  go_enter Tryz.func9, Tryz.ntmps9
  go_wp2_with fail
  refine (l07Ok_c (p, u, l) _ _ _ _ _ (Rd.mono HX.out hs.bel) (hs.cellAt 0 rfl 0 rfl) (hs.cellAt 0 rfl 1 rfl) (hs.cellAt 0 rfl 2 rfl)).mono ?_
  rintro e w1 ⟨rfl, n1, rfl⟩
  have hs1 := hs.drewN n1
  cases hok : validS (p, u, l) with
  | false =>
    have HK := Lib.hid hok
    clear hok
    have hsz := hs1.alloc #[] 2 rfl
    go_wp2_with fail
    refine bodyPost_ret (v := .tuple #[.slice (some ⟨w.heap.size + 1, 0, none⟩) 0 0, .int .i64 1]) (by simp [results, Tryz.results9, go_sem]) rfl ⟨.slice (some ⟨w.heap.size + 1, 0, none⟩) 0 0, ?_, ?_, hsz.bel⟩
    · unfold refuteF; rw [HK.out]; rfl
    · unfold refuteF; rw [HK.out]; exact fresh_nil _
  | true =>
    have HK := Lib.hid hok
    have KO := Lib.hid (elim_ok hok)
    clear hok
    go_wp2_with fail
    refine (l07Reduce_c (p, u, l) _ _ _ _ _ (Rd.mono HX.out hs1.bel) (hs1.cellAt 0 rfl 0 rfl) (hs1.cellAt 0 rfl 1 rfl) (hs1.cellAt 0 rfl 2 rfl) HK.out).mono ?_
    rintro e w2 ⟨g4, c4, rfl, fr, hb2⟩
    have hs2 := hs1.step hb2
    have FR := Lib.hid fr
    clear fr
    have RR := Lib.hid FR.out.rd
    simp only at RR
    go_wp2_with fail
    refine (l07False_c (elimS (p, u, l)).1 _ _ _ RR.out (by rw [KO.out.len]; exact KO.out.le) (by have := KO.out.len; have := KO.out.hl; omega)).mono ?_
    rintro e w3 ⟨rfl, rfl⟩
    rw [show falseF (elimS (p, u, l)).1 (elimS (p, u, l)).2.length = falseS (p, u, l) from rfl]
    by_cases hf : 0 ≤ falseS (p, u, l)
    · have hlt := (falseS_lt hf).1
      have heq := (falseS_lt hf).2
      have HB := Lib.hid (show GoodS p u.toNat l.length (badS (p, u, l)) ∧ (badS (p, u, l)).2.1 ≠ 0 from KO.out.bad hf)
      have hbad : (elimS (p, u, l)).1[(falseS (p, u, l)).toNat] = badS (p, u, l) := by unfold badS; simp [List.getD, hlt]
      have HX2 := Lib.hid (show refuteF (p, u, l) = ((scaleS p (badS (p, u, l)).2.1 (badS (p, u, l))).2.2, 0) by
        unfold refuteF; rw [if_pos HK.out, if_pos hf])
      have hfr := Lib.hid (show Ip (fun z => w.heap.size ≤ z) w2.drew [.slice (some ⟨g4, 0, none⟩) l.length c4] (elimS (p, u, l)).1 from (Fresh.lower FR.out (by have := hs1.lo; have := hs1.hi; omega)).mono (belowD w2))
      have hlen := KO.out.len
      simp only at hlen
      have hp2 := KO.out.hp
      simp only at hp2
      have hN := HB.out.1.right
      have hp0 : 2 ≤ p := by omega
      have hp3 : p ≤ 3 := by omega
      obtain ⟨cur1, et, p0, p2, v0, v2, hrow, hpA, hgA, -⟩ := ip_row hfr.out (falseS (p, u, l)).toNat hlt
      rw [hbad] at hrow
      generalize badS (p, u, l) = Y at *
      rw [heq]
      generalize (falseS (p, u, l)).toNat = J at *
      have hkl : (J : Int) < l.length := by omega
      obtain ⟨a2, c2, ev2, _⟩ := rd_list (Rep.own_rd (α := List Int) (ps := p2) (vs := [v2]) ⟨v2, rfl, hrow.own2⟩)
      rw [HB.out.1.by_] at ev2
      subst ev2
      have j1 : w2.drew.cell? ⟨g4, J * 3 + 1, none⟩ = some (.int .i64 Y.2.1) := by rw [cell_at_block hrow.blk]; exact hrow.c1
      have k0 := (hs2.drew).cellAt 0 rfl 0 rfl
      have HROW := Lib.hid hrow
      have HPA := Lib.hid hpA
      have HGA := Lib.hid hgA
      clear hrow hpA hbad hf heq hlt hfr hgA hlen
      generalize hRV : Y.2.1 = RV at *
      have HRV := Lib.hid hRV
      clear hRV
      have hK0 : ¬ (J : Int) < 0 := by omega
      go_wp2_with fail
      refine wp_region_noPanic (wp_region_eb (fun w' => w'.cell? ⟨g4, J * 3 + 1, none⟩ = some (.int .i64 RV) ∧ w'.cell? ⟨w.heap.size, 0, none⟩ = some (.int .i64 p)) [0, 1, 2, 3, 4, 5, 6, 8] [(7, 0), (9, 0), (10, 2)] (by kernel_rfl) (by kernel_rfl) (by kernel_rfl) rfl (fun _ _ _ _ _ h => h) ?_)
      (repeat (apply ep_pure rfl (by rfl); (· (intro w'; go_simp <;> with_reducible rfl)); (try simp only [Act.put, List.setIfInBounds_toArray, List.set_cons_zero, List.set_cons_succ])))
      refine ep_nil ?_ ?_
      · exact ⟨j1, k0⟩
      (repeat (first | (apply eb_skip rfl (by rfl); try simp only [Act.put, List.setIfInBounds_toArray, List.set_cons_zero, List.set_cons_succ]) | (apply eb_float rfl (by rfl); (· (intro w' hS; go_simp <;> with_reducible rfl)); (try simp only [Act.put, List.setIfInBounds_toArray, List.set_cons_zero, List.set_cons_succ]))))
      refine eb_last rfl (by rfl) (fun K hK => ?_)
      go_wp2_with (go_at_call 34; refine (scale_c p RV Y g4 (J * 3) cur1 et p0 p2 _ _ _ HROW.out hp0 hp3 hN.1 (by omega) HB.out.1.res HB.out.1.right HB.out.1.resBy).mono ?_; rintro e wS ⟨rfl, hrS, hoS⟩)
      refine ⟨fun _ => True, trivial, ?_⟩
      (repeat (first | (apply eb_skip rfl (by rfl); try simp only [Act.put, List.setIfInBounds_toArray, List.set_cons_zero, List.set_cons_succ]) | (apply eb_float rfl (by rfl); (· (intro w' hS; go_simp <;> with_reducible rfl)); (try simp only [Act.put, List.setIfInBounds_toArray, List.set_cons_zero, List.set_cons_succ]))))
      refine eb_nil (NoPanic.normal ?_)
      have j2 : wS.cell? ⟨g4, J * 3 + 2, none⟩ = some (.slice a2 l.length c2) := by rw [cell_at_block hrS.blk]; exact hrS.c2
      have HRS := Lib.hid hrS.own2
      have hbS := Lib.hid (((hs2.drew).bel).trans (hoS.below (B := w.heap.size) (fun z hz => by
        rcases List.mem_cons.1 hz with rfl | hz
        · have := HGA.out; exact this
        · exact HPA.out z hz)))
      clear hrS hoS HROW
      go_wp2_with fail
      refine bodyPost_ret (v := .tuple #[.slice a2 l.length c2, .int .i64 0]) (by simp [results, Tryz.results9, go_sem]) rfl ⟨.slice a2 l.length c2, ?_, ?_, hbS.out⟩
      · rw [HX2.out]
      · rw [HX2.out]; exact ⟨p2, ⟨_, rfl, HRS.out⟩, ownInts_nodup HRS.out, fun k hk => HPA.out k (by simp [hk])⟩
    · have HF := Lib.hid hf
      have hm1 : falseS (p, u, l) < 0 := by omega
      clear hf
      have hsz := hs2.alloc #[] 2 rfl
      go_wp2_with fail
      refine bodyPost_ret (v := .tuple #[.slice (some ⟨w2.heap.size, 0, none⟩) 0 0, .int .i64 6]) (by simp [results, Tryz.results9, go_sem]) rfl ⟨.slice (some ⟨w2.heap.size, 0, none⟩) 0 0, ?_, ?_, hsz.bel⟩
      · unfold refuteF; rw [if_pos HK.out, if_neg (by have := HF.out; omega)]
      · unfold refuteF; rw [if_pos HK.out, if_neg (by have := HF.out; omega)]; exact fresh_nil _

end Go.Proofs.YthceklaoikeokaaGreatDoor

/-
  CONTRACTS: SolveSystem. (Printed by wip/gensys.py.)
-/
namespace Go.Proofs.YthceklaoikeokaaGreatDoor
open Go.RowKit Go.Shelf Go.IntWalk
open Rep (Rd Own sz)
set_option linter.unusedSimpArgs false
set_option linter.unusedVariables false

theorem solveTo_length (rows : List SRow) (bs : List Int) (U : Nat) : ∀ j, (solveTo rows bs U j).length = U
  | 0 => by simp [solveTo]
  | j + 1 => by rw [solveTo, List.length_set]; exact solveTo_length rows bs U j
theorem solveF_small (x : Sys) : (solveF x).1.length ≤ 1000000 := by
  unfold solveF
  split
  · rename_i h
    have K := elim_ok h
    split
    · simp
    · have := K.hu
      rw [solveTo_length]; omega
  · simp
/-- A row that is done begins where it begins. -/
theorem elim_first {s : Sys} (K : ElimOk s) (j : Nat) (hj : j < (elimS s).2.length) (hr : j < (elimS s).1.length) : firstI (fun a => a != 0) (elimS s).1[j].1 = (elimS s).2[j] := by
  obtain ⟨b, hb, hbU⟩ := K.bs j hj
  have hlen := (K.good _ (List.getElem_mem hr)).len
  have hcol := K.rref.col j _ j _ (List.getElem?_eq_getElem hr) (List.getElem?_eq_getElem hj)
  have hlead := K.rref.lead j _ _ (List.getElem?_eq_getElem hr) (List.getElem?_eq_getElem hj)
  rw [hb] at hcol hlead ⊢
  rw [if_pos rfl, Int.toNat_natCast] at hcol
  have hbl : b < (elimS s).1[j].1.length := by omega
  refine firstI_at hbl (fun i hi hib => ?_) ?_
  · have := hlead i (by omega)
    simp only [List.getD, List.getElem?_eq_getElem hi, Option.getD_some] at this
    simp [this]
  · simp only [List.getD, List.getElem?_eq_getElem hbl, Option.getD_some] at hcol
    simp [hcol]
theorem elim_rowI {s : Sys} (K : ElimOk s) (j : Nat) (hj : j < (elimS s).1.length) (h : j < (elimI s).1.length) : (elimI s).1[j] = flat (elimS s).1[j] := by
  have : (elimI s).1[j]? = some (flat (elimS s).1[j]) := by
    rw [K.flat]
    simp only [List.getElem?_map, List.getElem?_eq_getElem hj, Option.map_some]
  rw [List.getElem?_eq_getElem h] at this
  simpa using this
set_option maxRecDepth 100000 in
set_option maxHeartbeats 4000000 in
theorem SolveSystem_c (x : Sys) (v0 v1 v2 : Value) (w : World) (hx : Rd w [v0, v1, v2] x) :
    Calls Tryz.prog 6 #[.agg #[v0, v1, v2]] w fun e w' => ∃ v, e = .returned (.tuple #[v, .int .i64 (solveF x).2]) ∧ Fresh w.heap.size w' [v] (solveF x).1 ∧ Below w.heap.size w w' := by
  obtain ⟨p, u, l⟩ := x
  have HX := Lib.hid hx
  have z := rd_cons rfl hx
  obtain ⟨rfl, _⟩ := rd_i1 z.1
  have z2 := rd_cons rfl z.2
  obtain ⟨rfl, _⟩ := rd_i1 z2.1
  obtain ⟨a, c, rfl, _⟩ := rd_list z2.2
  clear hx z z2
  have hs := (St.start w).alloc #[.int .i64 p, .int .i64 u, .slice a l.length c] 26 rfl
  have k0 := hs.cellAt 0 rfl 0 rfl
  have k1 := hs.cellAt 0 rfl 1 rfl
  have k2 := hs.cellAt 0 rfl 2 rfl
  go_enter Tryz.func6, Tryz.ntmps6
  go_wp2_with fail
  refine (ValidSystem_c (p, u, l) _ _ _ _ (Rd.mono HX.out hs.bel)).mono ?_
  rintro e w1 ⟨rfl, hb1⟩
  have hs1 := hs.step hb1
  clear k0 k1 k2
  have k0 := hs1.cellAt 0 rfl 0 rfl
  have k1 := hs1.cellAt 0 rfl 1 rfl
  have k2 := hs1.cellAt 0 rfl 2 rfl
  cases hok : validS (p, u, l) with
  | false =>
    have HK := Lib.hid hok
    clear hok
    go_wp2_with fail
    refine bodyPost_ret (v := .tuple #[.slice none 0 0, .int .i64 1]) (by simp [results, Tryz.results6, go_sem]) rfl ⟨.slice none 0 0, ?_, ?_, hs1.bel⟩
    · unfold solveF; rw [HK.out]; rfl
    · unfold solveF; rw [HK.out]; exact fresh_nil none
  | true =>
    have HK := Lib.hid hok
    have KO := Lib.hid (elim_ok hok)
    clear hok
    go_wp2_with fail
    refine (reduced_c (p, u, l) _ _ _ _ (Rd.mono HX.out hs1.bel) HK.out).mono ?_
    rintro e w2 ⟨vr, vb, rfl, rr, rb, hb2⟩
    have hfl := KO.out.flat
    obtain ⟨ar, cr, er, _⟩ := rd_list rr
    rw [show (elimI (p, u, l)).1.length = l.length from KO.out.rowsI.1] at er
    subst er
    obtain ⟨ab, cb, eb, _⟩ := rd_list rb
    rw [show (elimI (p, u, l)).2.length = (elimS (p, u, l)).2.length by rw [hfl]] at eb
    subst eb
    have RR := Lib.hid rr
    have RB := Lib.hid (show Rd w2 [.slice ab (elimS (p, u, l)).2.length cb] (elimS (p, u, l)).2 by
      have h2 : (elimI (p, u, l)).2 = (elimS (p, u, l)).2 := by rw [hfl]
      rw [← h2]; exact (by rw [h2]; rw [h2] at rb; exact rb))
    clear hfl
    have hs2 := hs1.step hb2
    clear rr rb
    clear k0 k1 k2
    have k0 := hs2.cellAt 0 rfl 0 rfl
    have k1 := hs2.cellAt 0 rfl 1 rfl
    have k2 := hs2.cellAt 0 rfl 2 rfl
    go_wp2_with fail
    refine (contradiction_c _ _ _ RR.out KO.out.contr).mono ?_
    rintro e w3 ⟨o0, n0, d0, o1, n1, d1, rfl, hb3, hat⟩
    have HAT := Lib.hid hat
    rw [contrI KO.out]
    have hs3 := hs2.step hb3
    clear hat
    clear k0 k1 k2
    have hs5 := hs3.alloc #[.slice o0 n0 d0, .slice o1 n1 d1] 53 rfl
    have k0 := hs5.cellAt 0 rfl 0 rfl
    have k1 := hs5.cellAt 0 rfl 1 rfl
    have k2 := hs5.cellAt 0 rfl 2 rfl
    have m2 := hs5.cellAt 1 rfl 0 rfl
    have m3 := hs5.cellAt 1 rfl 1 rfl
    by_cases hf : 0 ≤ falseS (p, u, l)
    · rw [decide_eq_true hf]
      have HF := Lib.hid hf
      clear hf
      go_wp2_with fail
      refine bodyPost_ret (v := .tuple #[.slice none 0 0, .int .i64 6]) (by simp [results, Tryz.results6, go_sem]) rfl ⟨.slice none 0 0, ?_, ?_, hs5.bel⟩
      · unfold solveF; rw [if_pos HK.out, if_pos HF.out]
      · unfold solveF; rw [if_pos HK.out, if_pos HF.out]; exact fresh_nil none
    · rw [decide_eq_false hf]
      have HF := Lib.hid hf
      have hu2 := KO.out.hu
      simp only at hu2
      have HSF := Lib.hid (show solveF (p, u, l) = (solveTo (elimS (p, u, l)).1 (elimS (p, u, l)).2 u.toNat (elimS (p, u, l)).2.length, 0) by
        unfold solveF; rw [if_pos HK.out, if_neg (by have := HF.out; omega)])
      obtain ⟨U, hU⟩ : ∃ U : Nat, u = U := ⟨u.toNat, by omega⟩
      subst hU
      have hb4 := Lib.hid (hb3.trans ((belowA w3 (.cells #[.slice o0 n0 d0, .slice o1 n1 d1] 53)).mono hb3.size))
      have RR2 := Lib.hid (Rd.mono RR.out hb4.out)
      have RB2 := Lib.hid (Rd.mono RB.out hb4.out)
      clear hf
      go_wp2_with (at_make; refine wpList_make_rep _ rfl _ _ 28 rfl E_ints (0 : Int) own0_int U (by omega) rfl rfl ?_; intro wM hownM hbM hzM)
      have hz3 : wM.heap.size = w3.heap.size + 1 + 1 := by simpa using hzM
      have hbM1 : Below (w3.heap.size + 1) (w3.alloc (.cells #[.slice o0 n0 d0, .slice o1 n1 d1] 53)) wM := by simpa using hbM
      have HOWN := Lib.hid (show OwnSl [w3.heap.size + 1] wM (.slice (some ⟨w3.heap.size + 1, 0, none⟩) U U) (List.replicate U (0 : Int)) by simpa using hownM)
      have hszA : (w3.alloc (.cells #[.slice o0 n0 d0, .slice o1 n1 d1] 53)).heap.size = w3.heap.size + 1 := by simp
      have HW := Lib.hid hs5.bel
      have hwlo : w.heap.size ≤ w3.heap.size := by have := hs3.lo; have := hs3.hi; omega
      have hle := KO.out.le
      have hll := KO.out.hl
      simp only at hle hll
      have HKO := KO
      clear hownM hbM hzM HF HAT hs hs1 hs2 hs3 hs5 hb1 hb2 hb3 hb4 k0 k1 k2 m2 m3 HX KO RR RB
      generalize hWA : w3.alloc (.cells #[.slice o0 n0 d0, .slice o1 n1 d1] 53) = WA at *
      clear hWA
      go_loopw [30] (fun i wl => ∃ j : Nat, j ≤ (elimS (p, (U : Int), l)).2.length ∧ i = .int .i64 j ∧ Hid (Below (w3.heap.size + 1) WA wl) ∧ Hid (OwnSl [w3.heap.size + 1] wl (.slice (some ⟨w3.heap.size + 1, 0, none⟩) U U) (solveTo (elimS (p, (U : Int), l)).1 (elimS (p, (U : Int), l)).2 U j))) (fun i _ => (elimS (p, (U : Int), l)).2.length - (intOf i).toNat)
      case atStart => exact ⟨0, Nat.zero_le _, rfl, hbM1, HOWN.out⟩
      case round =>
        obtain ⟨j, hj, rfl, hbl, hown⟩ := hrel
        have HBW : Below WA.heap.size WA wr := by rw [hszA]; exact hbl.out
        by_cases hlt : j < (elimS (p, (U : Int), l)).2.length
        · obtain ⟨bq, hbq, hbU⟩ := HKO.out.bs j hlt
          simp only [Int.toNat_natCast] at hbU
          have hjr : j < (elimS (p, (U : Int), l)).1.length := by rw [HKO.out.len]; simp only; omega
          have hjI : j < (elimI (p, (U : Int), l)).1.length := by rw [HKO.out.rowsI.1]; simp only; omega
          obtain ⟨b1, e1, rfl, q0, _⟩ := rd_int_at (Rd.mono RB2.out HBW) j hlt
          rw [hbq] at q0
          obtain ⟨b2, e2, y0, y1, rfl, f0, f1, hrow⟩ := rd_two_at rfl (Rd.mono RR2.out HBW) j hjI
          rw [elim_rowI HKO.out j hjr hjI] at hrow
          have hg := flat_good (HKO.out.good _ (List.getElem_mem hjr))
          have hgr := (HKO.out.good _ (List.getElem_mem hjr)).right
          have hrr : rightR (flat (elimS (p, (U : Int), l)).1[j]).1 = (elimS (p, (U : Int), l)).1[j].2.1 := by simp [rightR, flat, List.getD]
          have hst : solveTo (elimS (p, (U : Int), l)).1 (elimS (p, (U : Int), l)).2 U (j + 1) = (solveTo (elimS (p, (U : Int), l)).1 (elimS (p, (U : Int), l)).2 U j).set bq (elimS (p, (U : Int), l)).1[j].2.1 := by
            rw [solveTo]
            simp only [List.getD, List.getElem?_eq_getElem hlt, List.getElem?_eq_getElem hjr, Option.getD_some, hbq, Int.toNat_natCast]
          have z0 := (rd_cons rfl hrow).1
          have z1 := (rd_cons rfl hrow).2
          obtain ⟨a6, c6, e6, _⟩ := rd_list z0
          obtain ⟨a7, c7, e7, _⟩ := rd_list z1
          subst e6 e7
          have HRW := Lib.hid hrow
          have HST := Lib.hid hst
          have HG := Lib.hid hg
          have HRR := Lib.hid hrr
          clear hrow hst hg hrr z0 z1 hbq
          generalize (elimS (p, (U : Int), l)).1[j].2.1 = RV at *
          generalize flat (elimS (p, (U : Int), l)).1[j] = Y at *
          have hp2 := HKO.out.hp
          simp only at hp2 hgr
          have hjb : (j : Int) < (elimS (p, (U : Int), l)).2.length := by omega
          have hjl : (j : Int) < l.length := by omega
          have hbUi : (bq : Int) < U := by omega
          go_wp2_with fail
          refine (right_c Y _ _ _ HRW.out (by rw [HG.out.1]; omega) (by rw [HG.out.1]; simp only [Int.toNat_natCast]; omega)).mono ?_
          rintro e w5 ⟨rfl, hb5⟩
          rw [HRR.out]
          have hown5 := Lib.hid (ownSl_mono hown.out hb5)
          have hbl5 := Lib.hid (hbl.out.trans (hb5.mono (by have := hbl.out.size; omega)))
          obtain ⟨g', o', c', hv, hps, hc, hf, hI, hset⟩ := own_int_set hown5.out bq (by rw [solveTo_length]; exact hbU)
          rw [solveTo_length] at hv
          simp only [Value.slice.injEq, Option.some.injEq, Addr.mk.injEq, and_true] at hv
          obtain ⟨⟨rfl, rfl⟩, -, rfl⟩ := hv
          rw [Nat.zero_add] at hc hf hset
          have hN := hset RV ⟨by omega, by omega⟩
          rw [← HST.out] at hN
          have HN := Lib.hid hN
          clear hN hset hps HST
          go_wp2_with fail
          go_roundw
          case rel => exact ⟨j + 1, hlt, by go_num, hbl5.out.setCell (by simp) _, HN.out⟩
          case measure => simp [intOf]; omega
        · obtain rfl : j = (elimS (p, (U : Int), l)).2.length := by omega
          go_wp2_with fail
          refine bodyPost_ret (v := .tuple #[.slice (some ⟨w3.heap.size + 1, 0, none⟩) U U, .int .i64 0]) (by simp [results, Tryz.results6, go_sem]) rfl ⟨.slice (some ⟨w3.heap.size + 1, 0, none⟩) U U, ?_, ?_, ?_⟩
          · rw [HSF.out]
          · rw [HSF.out]
            exact ⟨[w3.heap.size + 1], ⟨_, rfl, by simpa using hown.out⟩, by simp, by simp; omega⟩
          · exact HW.out.trans (hbl.out.mono (by omega))
set_option maxRecDepth 100000 in
set_option maxHeartbeats 4000000 in
theorem sSolveSystem_c (x : Sys) (v0 v1 v2 : Value) (w : World) (hx : Rd w [v0, v1, v2] x) :
    Calls Tryz.prog 8 #[.agg #[v0, v1, v2]] w fun e w' => ∃ v, e = .returned (.tuple #[v, .int .i64 (solveF x).2]) ∧ Fresh w.heap.size w' [v] (solveF x).1 ∧ Below w.heap.size w w' := by
  obtain ⟨p, u, l⟩ := x
  have HX := Lib.hid hx
  have z := rd_cons rfl hx
  obtain ⟨rfl, _⟩ := rd_i1 z.1
  have z2 := rd_cons rfl z.2
  obtain ⟨rfl, _⟩ := rd_i1 z2.1
  obtain ⟨a, c, rfl, _⟩ := rd_list z2.2
  clear hx z z2
  have hs := (St.start w).alloc #[.int .i64 p, .int .i64 u, .slice a l.length c] 26 rfl
  go_enter Tryz.func8, Tryz.ntmps8
  go_wp2_with fail
  refine (l07Ok_c (p, u, l) _ _ _ _ _ (Rd.mono HX.out hs.bel) (hs.cellAt 0 rfl 0 rfl) (hs.cellAt 0 rfl 1 rfl) (hs.cellAt 0 rfl 2 rfl)).mono ?_
  rintro e w1 ⟨rfl, n1, rfl⟩
  have hs1 := hs.drewN n1
  cases hok : validS (p, u, l) with
  | false =>
    have HK := Lib.hid hok
    clear hok
    have hsz := hs1.alloc #[] 2 rfl
    go_wp2_with fail
    refine bodyPost_ret (v := .tuple #[.slice (some ⟨w.heap.size + 1, 0, none⟩) 0 0, .int .i64 1]) (by simp [results, Tryz.results8, go_sem]) rfl ⟨.slice (some ⟨w.heap.size + 1, 0, none⟩) 0 0, ?_, ?_, hsz.bel⟩
    · unfold solveF; rw [HK.out]; rfl
    · unfold solveF; rw [HK.out]; exact fresh_nil _
  | true =>
    have HK := Lib.hid hok
    have KO := Lib.hid (elim_ok hok)
    clear hok
    go_wp2_with fail
    refine (l07Reduce_c (p, u, l) _ _ _ _ _ (Rd.mono HX.out hs1.bel) (hs1.cellAt 0 rfl 0 rfl) (hs1.cellAt 0 rfl 1 rfl) (hs1.cellAt 0 rfl 2 rfl) HK.out).mono ?_
    rintro e w2 ⟨g4, c4, rfl, fr, hb2⟩
    have hs2 := hs1.step hb2
    have FR := Lib.hid fr
    clear fr
    have RR := Lib.hid FR.out.rd
    simp only at RR
    go_wp2_with fail
    refine (l07False_c (elimS (p, u, l)).1 _ _ _ RR.out (by rw [KO.out.len]; exact KO.out.le) (by have := KO.out.len; have := KO.out.hl; omega)).mono ?_
    rintro e w3 ⟨rfl, rfl⟩
    rw [show falseF (elimS (p, u, l)).1 (elimS (p, u, l)).2.length = falseS (p, u, l) from rfl]
    by_cases hf : 0 ≤ falseS (p, u, l)
    · have HF := Lib.hid hf
      have hsz := hs2.alloc #[] 2 rfl
      go_wp2_with fail
      refine bodyPost_ret (v := .tuple #[.slice (some ⟨w2.heap.size, 0, none⟩) 0 0, .int .i64 6]) (by simp [results, Tryz.results8, go_sem]) rfl ⟨.slice (some ⟨w2.heap.size, 0, none⟩) 0 0, ?_, ?_, hsz.bel⟩
      · unfold solveF; rw [if_pos HK.out, if_pos HF.out]
      · unfold solveF; rw [if_pos HK.out, if_pos HF.out]; exact fresh_nil _
    · have hm1 : falseS (p, u, l) < 0 := by omega
      have hu2 := KO.out.hu
      simp only at hu2
      have HSF := Lib.hid (show solveF (p, u, l) = (solveTo (elimS (p, u, l)).1 (elimS (p, u, l)).2 u.toNat (elimS (p, u, l)).2.length, 0) by
        unfold solveF; rw [if_pos HK.out, if_neg hf])
      obtain ⟨U, hU⟩ : ∃ U : Nat, u = U := ⟨u.toNat, by omega⟩
      subst hU
      have k1 := hs2.cellAt 0 rfl 1 rfl
      clear hf
      go_wp2_with (at_make; refine wpList_make_rep _ rfl _ _ 28 rfl E_ints (0 : Int) own0_int U (by omega) rfl rfl ?_; intro wM hownM hbM hzM)
      have HOWN := Lib.hid hownM
      have HW := Lib.hid (hs2.bel.trans (hbM.mono (by have := hs2.lo; have := hs2.hi; omega)))
      have hwlo : w.heap.size ≤ w2.heap.size := by have := hs2.lo; have := hs2.hi; omega
      have hle := KO.out.le
      have hll := KO.out.hl
      simp only at hle hll
      have HKO := KO
      have RM := Lib.hid RR
      have HW2 := Lib.hid hs2.bel
      have HBM := Lib.hid hbM
      clear hownM hm1 hs hs1 hs2 hb2 hbM k1 HX KO RR FR HW
      go_wp2_with fail
      go_loopw [7] (fun i wl => ∃ j : Nat, j ≤ (elimS (p, (U : Int), l)).2.length ∧ i = .int .i64 j ∧ Hid (Below w2.heap.size w2 wl) ∧ Hid (OwnSl [w2.heap.size] wl (.slice (some ⟨w2.heap.size, 0, none⟩) U U) (solveTo (elimS (p, (U : Int), l)).1 (elimS (p, (U : Int), l)).2 U j))) (fun i _ => (elimS (p, (U : Int), l)).2.length - (intOf i).toNat)
      case atStart => exact ⟨0, Nat.zero_le _, rfl, HBM.out, HOWN.out⟩
      case round =>
        obtain ⟨j, hj, rfl, hbl, hown⟩ := hrel
        by_cases hlt : j < (elimS (p, (U : Int), l)).2.length
        · obtain ⟨bq, hbq, hbU⟩ := HKO.out.bs j hlt
          simp only [Int.toNat_natCast] at hbU
          have hjr : j < (elimS (p, (U : Int), l)).1.length := by rw [HKO.out.len]; simp only; omega
          have hfi := elim_first HKO.out j hlt hjr
          rw [hbq] at hfi
          obtain ⟨b2, e2, y0, y1, y2, e4, f0, f1, f2, hrow⟩ := rd_three_at rfl (Rd.mono RM.out hbl.out) j hjr
          simp only [Option.some.injEq, Addr.mk.injEq, and_true] at e4
          obtain ⟨rfl, rfl⟩ := e4
          rw [Nat.zero_add] at f0 f1 f2
          have hg := HKO.out.good _ (List.getElem_mem hjr)
          have hgr := hg.right
          have hst : solveTo (elimS (p, (U : Int), l)).1 (elimS (p, (U : Int), l)).2 U (j + 1) = (solveTo (elimS (p, (U : Int), l)).1 (elimS (p, (U : Int), l)).2 U j).set bq (elimS (p, (U : Int), l)).1[j].2.1 := by
            rw [solveTo]
            simp only [List.getD, List.getElem?_eq_getElem hlt, List.getElem?_eq_getElem hjr, Option.getD_some, hbq, Int.toNat_natCast]
          have z0 := (rd_cons rfl hrow).1
          have z1 := (rd_cons rfl (rd_cons rfl hrow).2).1
          obtain ⟨a6, c6, e6, _⟩ := rd_list z0
          rw [hg.len] at e6
          simp only [Int.toNat_natCast] at e6
          subst e6
          obtain ⟨rfl, _⟩ := rd_i1 z1
          have HL := Lib.hid (show Rd wr [.slice a6 U c6] (elimS (p, (U : Int), l)).1[j].1 from z0)
          have HST := Lib.hid hst
          have HFI := Lib.hid hfi
          clear hrow hst hg z0 z1 hbq hfi f2
          generalize (elimS (p, (U : Int), l)).1[j].2.1 = RV at *
          generalize (elimS (p, (U : Int), l)).1[j].1 = Y at *
          have hp2 := HKO.out.hp
          simp only at hp2 hgr
          have hjb : (j : Int) < (elimS (p, (U : Int), l)).2.length := by omega
          have hjl : (j : Int) < l.length := by omega
          have hbUi : (bq : Int) < U := by omega
          obtain ⟨g', o', c', hv, hps, hc, hf, hI, hset⟩ := own_int_set hown.out bq (by rw [solveTo_length]; exact hbU)
          rw [solveTo_length] at hv
          simp only [Value.slice.injEq, Option.some.injEq, Addr.mk.injEq, and_true] at hv
          obtain ⟨⟨rfl, rfl⟩, -, rfl⟩ := hv
          rw [Nat.zero_add] at hc hf hset
          have hN := hset RV ⟨by omega, by omega⟩
          rw [← HST.out] at hN
          have HN := Lib.hid hN
          clear hN hset hps HST
          go_wp2_with fail
          refine wp_region_noPanic (wp_region_el (fun w' => w'.cell? ⟨g4, j * 3, none⟩ = some (.slice a6 U c6) ∧ w'.cell? ⟨g4, j * 3 + 1, none⟩ = some (.int .i64 RV)) [(0, 0), (1, 0), (2, 0), (3, 0), (4, 0), (5, 0), (7, 0), (8, 0), (9, 0), (10, 0), (11, 0), (6, 1), (12, 0), (13, 2)] (by kernel_rfl) (by kernel_rfl) (by kernel_rfl) rfl ?_ (fun _ _ _ _ _ h => h) ?_)
          · exact ⟨f0, f1⟩
          (repeat (first | (apply el_skip rfl (by rfl); try simp only [Act.put, List.setIfInBounds_toArray, List.set_cons_zero, List.set_cons_succ]) | (apply el_float rfl (by rfl); (· (intro w' hS; go_simp <;> with_reducible rfl)); (try simp only [Act.put, List.setIfInBounds_toArray, List.set_cons_zero, List.set_cons_succ]))))
          refine el_hard rfl (by rfl) (fun K hK => ?_)
          go_wp2_with (go_at_call 33; refine (l07First_c Y _ _ (Rd.mono HL.out (belowD _))).mono ?_; rintro e w5 ⟨rfl, rfl⟩)
          rw [HFI.out]
          refine ⟨⟨f0, f1⟩, ?_⟩
          (repeat (first | (apply el_skip rfl (by rfl); try simp only [Act.put, List.setIfInBounds_toArray, List.set_cons_zero, List.set_cons_succ]) | (apply el_float rfl (by rfl); (· (intro w' hS; go_simp <;> with_reducible rfl)); (try simp only [Act.put, List.setIfInBounds_toArray, List.set_cons_zero, List.set_cons_succ]))))
          refine el_last rfl (by rfl) (fun K hK => ?_)
          go_wp2_with fail
          refine el_nil (NoPanic.normal ?_)
          go_wp2_with fail
          go_roundw
          case rel => exact ⟨j + 1, hlt, by go_num, (hbl.out.trans ((belowD wr).mono hbl.out.size)).setCell (by simp) _, ownSl_heap HN.out rfl⟩
          case measure => simp [intOf]; omega
        · obtain rfl : j = (elimS (p, (U : Int), l)).2.length := by omega
          go_wp2_with fail
          refine bodyPost_ret (v := .tuple #[.slice (some ⟨w2.heap.size, 0, none⟩) U U, .int .i64 0]) (by simp [results, Tryz.results8, go_sem]) rfl ⟨.slice (some ⟨w2.heap.size, 0, none⟩) U U, ?_, ?_, ?_⟩
          · rw [HSF.out]
          · rw [HSF.out]
            exact ⟨[w2.heap.size], ⟨_, rfl, by simpa using hown.out⟩, by simp, by simp; omega⟩
          · exact HW2.out.trans (hbl.out.mono hwlo)

end Go.Proofs.YthceklaoikeokaaGreatDoor

/-
  CONTRACTS: ReduceSystem. (Printed by wip/gensys.py.)
-/
namespace Go.Proofs.YthceklaoikeokaaGreatDoor
open Go.RowKit Go.Shelf Go.IntWalk
open Rep (Rd Own sz)
set_option linter.unusedSimpArgs false
set_option linter.unusedVariables false

def eqnOf (r : SRow) : Eqn := (r.1, r.2.1)
def redTo (rows : List SRow) (j : Nat) : List Eqn := (rows.take j).map eqnOf
theorem redTo_succ (rows : List SRow) (j : Nat) (h : j < rows.length) : redTo rows (j + 1) = redTo rows j ++ [eqnOf rows[j]] := by
  unfold redTo; rw [List.take_succ_eq_append_getElem h, List.map_append]; rfl
theorem redTo_length (rows : List SRow) (j : Nat) (h : j ≤ rows.length) : (redTo rows j).length = j := by simp [redTo]; omega
theorem rd_take {α : Type} [Rep α] {w : World} {a : Option Addr} {n c : Nat} {l : List α} (h : Rd w [.slice a n c] l) (m : Nat) (hm : m ≤ l.length) : Rd w [.slice a m c] (l.take m) := by
  obtain ⟨a', c', e, hr⟩ := rd_list h
  simp only [Value.slice.injEq] at e
  obtain ⟨rfl, -, rfl⟩ := e
  have := mk_rd (rdSl_take hr m)
  rw [List.length_take, Nat.min_eq_left hm] at this
  exact this
theorem reducedF_no {s : Sys} (h : ¬ 0 ≤ falseS s) : reducedF s = (s.1, s.2.1, redTo (elimS s).1 (elimS s).2.length) := by
  unfold reducedF; rw [if_neg h]; rfl
theorem reducedF_yes {s : Sys} (h : 0 ≤ falseS s) : reducedF s = (s.1, s.2.1, [(List.replicate s.2.1.toNat 0, 1)]) := by
  unfold reducedF; rw [if_pos h]
/-- One equation in a block of its own. -/
theorem own_eqn1 {w : World} {g c : Nat} {e : TypeId} {v : Value} {n : Int} {l : List Int} {ps : List Nat} (hb : w.heap[g]? = some (.cells #[v, .int .i64 n] e (0, 0))) (ho : OwnSl ps w v l) (hn : I64 n) (hc : 1 ≤ c) (hm : c ≤ maxLen) :
    OwnSl (g :: ps) w (.slice (some ⟨g, 0, none⟩) 1 c) [((l, n) : Eqn)] := by
  refine .inr ⟨g, 0, c, _, e, [ps], rfl, hc, hm, hb, by simp, rfl, fun i hi => ?_⟩
  obtain rfl : i = 0 := by simp at hi; omega
  refine ⟨ps, [v, .int .i64 n], rfl, by have h := mk_own (q := []) (x := l) (y := n) (w := w) (p := ps) ⟨v, rfl, ho⟩ ⟨rfl, rfl, hn⟩; rw [List.append_nil] at h; exact h, fun k hk => ?_⟩
  match k, hk with
  | 0, _ => simp
  | 1, _ => simp
set_option maxRecDepth 100000 in
set_option maxHeartbeats 8000000 in
theorem reducedSystemW_c (x : Sys) (v0 v1 v2 : Value) (w : World) (hx : Rd w [v0, v1, v2] x) (hok : wideS x = true) :
    Calls Tryz.prog 43 #[.agg #[v0, v1, v2]] w fun e w' => ∃ a n c, e = .returned (.agg #[.int .i64 x.1, .int .i64 x.2.1, .slice a n c]) ∧ Fresh w.heap.size w' [.int .i64 x.1, .int .i64 x.2.1, .slice a n c] (reducedF x) ∧ Below w.heap.size w w' := by
  obtain ⟨p, u, l⟩ := x
  have HX := Lib.hid hx
  have z := rd_cons rfl hx
  obtain ⟨rfl, hIp⟩ := rd_i1 z.1
  have z2 := rd_cons rfl z.2
  obtain ⟨rfl, hIu⟩ := rd_i1 z2.1
  obtain ⟨a, c, rfl, _⟩ := rd_list z2.2
  have HK := Lib.hid hok
  have KO := Lib.hid (elimW_ok hok)
  clear hx z z2 hok
  have hu2 := KO.out.hu
  simp only at hu2
  obtain ⟨U, hU⟩ : ∃ U : Nat, u = U := ⟨u.toNat, by omega⟩
  subst hU
  have hs1 := (((St.start w).alloc #[.int .i64 p, .int .i64 U, .slice a l.length c] 26 rfl).alloc #[.int .i64 0, .int .i64 0, .slice none 0 0] 26 (n := w.heap.size + 1) (by simp)).alloc #[.int .i64 p, .int .i64 U, .slice none 0 0] 26 (n := w.heap.size + 1 + 1) (by simp)
  have k0 := hs1.cellAt 0 rfl 0 rfl
  have k1 := hs1.cellAt 0 rfl 1 rfl
  have k2 := hs1.cellAt 0 rfl 2 rfl
  go_enter Tryz.func43, Tryz.ntmps43
  go_wp2_with fail
  refine (reduced_f (p, (U : Int), l) _ _ _ _ (Rd.mono HX.out hs1.bel) HK.out).mono ?_
  rintro e w2 ⟨vr, vb, rfl, frr, frb, hb2⟩
  have rr := frr.rd
  have rb := frb.rd
  have hfl := KO.out.flat
  obtain ⟨ar, cr, er, _⟩ := rd_list rr
  rw [show (elimI (p, (U : Int), l)).1.length = l.length from KO.out.rowsI.1] at er
  subst er
  obtain ⟨ab, cb, eb, _⟩ := rd_list rb
  rw [show (elimI (p, (U : Int), l)).2.length = (elimS (p, (U : Int), l)).2.length by rw [hfl]] at eb
  subst eb
  have RR := Lib.hid rr
  have RB := Lib.hid (show Rd w2 [.slice ab (elimS (p, (U : Int), l)).2.length cb] (elimS (p, (U : Int), l)).2 by
    have h2 : (elimI (p, (U : Int), l)).2 = (elimS (p, (U : Int), l)).2 := by rw [hfl]
    rw [← h2]; exact (by rw [h2]; rw [h2] at rb; exact rb))
  clear hfl
  have hs2 := hs1.step hb2
  have JR := Lib.hid (Fresh.iv (frr.lower (lo' := w.heap.size + 1 + 1 + 1) (by simp)))
  clear rr rb frr frb
  clear k0 k1 k2
  have k0 := hs2.cellAt 0 rfl 0 rfl
  have k1 := hs2.cellAt 0 rfl 1 rfl
  have k2 := hs2.cellAt 0 rfl 2 rfl
  go_wp2_with fail
  refine (contradiction_c _ _ _ RR.out KO.out.contr).mono ?_
  rintro e w3 ⟨o0, n0, d0, o1, n1, d1, rfl, hb3, hat⟩
  have HAT := Lib.hid hat
  rw [contrI KO.out]
  have hs3 := hs2.step hb3
  clear hat
  clear k0 k1 k2
  have hs5 := hs3.alloc #[.slice o0 n0 d0, .slice o1 n1 d1] 53 rfl
  have k0 := hs5.cellAt 0 rfl 0 rfl
  have k1 := hs5.cellAt 0 rfl 1 rfl
  have k2 := hs5.cellAt 0 rfl 2 rfl
  by_cases hf : 0 ≤ falseS (p, (U : Int), l)
  · rw [decide_eq_true hf]
    have HF := Lib.hid hf
    have hlo : w.heap.size + 1 + 1 + 1 ≤ w3.heap.size := by have := hs3.hi; simpa using this
    clear hf
    go_wp2_with (at_make; refine wpList_make_rep _ rfl _ _ 28 rfl E_ints (0 : Int) own0_int U (by omega) rfl rfl ?_; intro wM hownM hbM hzM; (have hzz : wM.heap.size = w3.heap.size + 1 + 1 := by simpa using hzM); have hs6 := hs5.step hbM; have hs7 := hs6.alloc #[.slice (some ⟨w3.heap.size + 1, 0, none⟩) U U, .int .i64 1] 73 (n := w3.heap.size + 1 + 1) hzz.symm; have f2 := hs7.freeAt 2 rfl 2; have t2 := hs7.cellAt 2 rfl 2 rfl; have hs8 := hs7.set (p := [_, _]) (by simp <;> omega) 2 (.slice (some ⟨w3.heap.size + 1 + 1, 0, none⟩) 1 1); have t20 := hs8.cellAt 2 rfl 0 rfl; have t21 := hs8.cellAt 2 rfl 1 rfl; have t22 := hs8.cellAt 2 rfl 2 rfl; have g0 := hs8.freeAt 1 rfl 0; have g1 := hs8.freeAt 1 rfl 1; have g2 := hs8.freeAt 1 rfl 2; have y0 := hs8.cellAt 1 rfl 0 rfl; have y1 := hs8.cellAt 1 rfl 1 rfl; have y2 := hs8.cellAt 1 rfl 2 rfl)
    have hs9 := ((hs8.set (p := [_]) (by simp <;> omega) 0 (.int .i64 p)).set (p := [_]) (by simp <;> omega) 1 (.int .i64 U)).set (p := [_]) (by simp <;> omega) 2 (.slice (some ⟨w3.heap.size + 1 + 1, 0, none⟩) 1 1)
    have x0 := hs9.cellAt 1 rfl 0 rfl
    have x1 := hs9.cellAt 1 rfl 1 rfl
    have x2 := hs9.cellAt 1 rfl 2 rfl
    refine bodyPost_ret (v := .agg #[.int .i64 p, .int .i64 U, .slice (some ⟨w3.heap.size + 1 + 1, 0, none⟩) 1 1]) (by simp [results, Tryz.results43, go_sem, x0, x1, x2]) rfl ⟨_, _, _, rfl, ?_, hs9.bel⟩
    rw [reducedF_yes HF.out]
    have hownM' : OwnSl [w3.heap.size + 1] wM (.slice (some ⟨w3.heap.size + 1, 0, none⟩) U U) (List.replicate U (0 : Int)) := by simpa using hownM
    have h7 := own_eqn1 (c := 1) (n := 1) (heap_alloc_at wM (.cells #[.slice (some ⟨w3.heap.size + 1, 0, none⟩) U U, .int .i64 1] 73) hzz) (ownSl_mono hownM' (belowA wM _)) ⟨by decide, by decide⟩ (Nat.le_refl _) (by decide)
    have ho := ((((OnlyAt.refl [w.heap.size + 1, w.heap.size + 1 + 1] (wM.alloc (.cells #[.slice (some ⟨w3.heap.size + 1, 0, none⟩) U U, .int .i64 1] 73))).setCell (p := ⟨w.heap.size + 1 + 1, 2, none⟩) (by simp) (.slice (some ⟨w3.heap.size + 1 + 1, 0, none⟩) 1 1)).setCell (p := ⟨w.heap.size + 1, 0, none⟩) (by simp) (.int .i64 p)).setCell (p := ⟨w.heap.size + 1, 1, none⟩) (by simp) (.int .i64 U)).setCell (p := ⟨w.heap.size + 1, 2, none⟩) (by simp) (.slice (some ⟨w3.heap.size + 1 + 1, 0, none⟩) 1 1)
    exact ⟨_, mk_own (p := []) ⟨rfl, rfl, hIp⟩ (mk_own (p := []) ⟨rfl, rfl, hIu⟩ ⟨_, rfl, ownSl_only h7 ho (by simp; omega)⟩), by simp, by simp; omega⟩
  · rw [decide_eq_false hf]
    have HF := Lib.hid hf
    have HRF := Lib.hid (reducedF_no hf)
    have hlo : w.heap.size + 1 + 1 + 1 ≤ w3.heap.size := by have := hs3.hi; simpa using this
    have hb4 := Lib.hid (hb3.trans ((belowA w3 (.cells #[.slice o0 n0 d0, .slice o1 n1 d1] 53)).mono hb3.size))
    have RR2 := Lib.hid (Rd.mono RR.out hb4.out)
    have JR2 := Lib.hid (Iv.mono JR.out hb4.out)
    have hz2 : w2.heap.size ≤ w3.heap.size := hb3.size
    have hszA : (w3.alloc (.cells #[.slice o0 n0 d0, .slice o1 n1 d1] 53)).heap.size = w3.heap.size + 1 := by simp
    have HKO := KO
    have hle := KO.out.le
    have hll := KO.out.hl
    have hp2 := KO.out.hp
    simp only at hle hll hp2
    have hs6 := Lib.hid (St.sub (bx' := [(w.heap.size, #[.int .i64 p, .int .i64 U, .slice a l.length c], 26), (w.heap.size + 1, #[.int .i64 0, .int .i64 0, .slice none 0 0], 26), (w.heap.size + 1 + 1, #[.int .i64 p, .int .i64 U, .slice none 0 0], 26)]) hs5 (fun x hx => by simp at hx ⊢; rcases hx with rfl | rfl | rfl <;> simp))
    obtain ⟨_, _, e6, hrr⟩ := rd_list RR2.out
    rw [show (elimI (p, (U : Int), l)).1.length = l.length from HKO.out.rowsI.1] at e6
    simp only [Value.slice.injEq] at e6
    obtain ⟨rfl, -, rfl⟩ := e6
    have hcr : (elimS (p, (U : Int), l)).2.length ≤ cr := by have := (rdSl_len hrr).1; rw [show (elimI (p, (U : Int), l)).1.length = l.length from HKO.out.rowsI.1] at this; omega
    have hcr2 : ((elimS (p, (U : Int), l)).2.length : Int) ≤ cr := by omega
    clear hf JR HAT hs1 hs2 hs3 hs5 hb2 hb3 hb4 k0 k1 k2 HX KO RR RB hrr
    go_wp2_with fail
    generalize hWA : w3.alloc (.cells #[.slice o0 n0 d0, .slice o1 n1 d1] 53) = WA at *
    clear hWA
    go_loopw [38] (fun i wl => ∃ (j : Nat) (va : Option Addr) (vc : Nat), j ≤ (elimS (p, (U : Int), l)).2.length ∧ i = .int .i64 j ∧ Hid (St w (w3.heap.size + 1) wl [(w.heap.size, #[.int .i64 p, .int .i64 U, .slice a l.length c], 26), (w.heap.size + 1, #[.int .i64 0, .int .i64 0, .slice none 0 0], 26), (w.heap.size + 1 + 1, #[.int .i64 p, .int .i64 U, .slice va j vc], 26)]) ∧ Hid (Acc (w3.heap.size + 1) wl.heap.size 73 wl (.slice va j vc) (redTo (elimS (p, (U : Int), l)).1 j)) ∧ Hid (Iv (w.heap.size + 1 + 1 + 1) w2.heap.size wl [.slice ar l.length cr] (elimI (p, (U : Int), l)).1)) (fun i _ => (elimS (p, (U : Int), l)).2.length - (intOf i).toNat)
    case atStart => exact ⟨0, none, 0, Nat.zero_le _, rfl, hs6.out, Acc.nil _ _ _ _, JR2.out⟩
    case round =>
      obtain ⟨j, va, vc, hj, rfl, hst, hac, hbl⟩ := hrel
      have hszw := hst.out.hi
      by_cases hlt : j < (elimS (p, (U : Int), l)).2.length
      · have hjr : j < (elimS (p, (U : Int), l)).1.length := by rw [HKO.out.len]; simp only; omega
        have hjI : j < (elimI (p, (U : Int), l)).1.length := by rw [HKO.out.rowsI.1]; simp only; omega
        have hRT := Lib.hid (Iv.rd hbl.out)
        obtain ⟨b2, e2, y0, y1, rfl, f0, f1, hrow⟩ := rd_two_at rfl hRT.out j hjI
        rw [elim_rowI HKO.out j hjr hjI] at hrow
        have hgd := HKO.out.good _ (List.getElem_mem hjr)
        have hgr := hgd.right
        have hg := flat_good hgd
        have hrr : rightR (flat (elimS (p, (U : Int), l)).1[j]).1 = (elimS (p, (U : Int), l)).1[j].2.1 := by simp [rightR, flat, List.getD]
        have hst2 := redTo_succ (elimS (p, (U : Int), l)).1 j hjr
        have hlj := redTo_length (elimS (p, (U : Int), l)).1 j (by omega)
        have hlen := hgd.len
        have htk : (flat (elimS (p, (U : Int), l)).1[j]).1.take U = (elimS (p, (U : Int), l)).1[j].1 := by
          simp only [Int.toNat_natCast] at hlen
          unfold flat
          rw [List.take_append_of_le_length (by omega), List.take_of_length_le (by omega)]
        simp only [Int.toNat_natCast] at hg hlen
        have z0 := (rd_cons rfl hrow).1
        have z1 := (rd_cons rfl hrow).2
        obtain ⟨a6, c6, e6, hr6⟩ := rd_list z0
        have hcap : U + 1 ≤ c6 := by have := (rdSl_len hr6).1; rw [hg.1] at this; exact this
        rw [hg.1] at e6
        obtain ⟨a7, c7, e7, _⟩ := rd_list z1
        rw [hg.2.1] at e7
        subst e6 e7
        have hl1 := rd_take z0 U (by rw [hg.1]; omega)
        rw [htk] at hl1
        have HL := Lib.hid hl1
        have HRW := Lib.hid hrow
        have HST := Lib.hid hst2
        have HG := Lib.hid hg
        have HRR := Lib.hid hrr
        have HLJ := Lib.hid hlj
        have HLEN := Lib.hid hlen
        clear hrow hst2 hg hrr z0 z1 hr6 hl1 htk hlj hlen hgd
        have heq : eqnOf (elimS (p, (U : Int), l)).1[j] = ((elimS (p, (U : Int), l)).1[j].1, (elimS (p, (U : Int), l)).1[j].2.1) := rfl
        rw [heq] at HST
        clear heq
        generalize flat (elimS (p, (U : Int), l)).1[j] = Y at *
        generalize (elimS (p, (U : Int), l)).1[j].2.1 = RV at *
        generalize (elimS (p, (U : Int), l)).1[j].1 = Y1 at *
        simp only at hgr
        have hjb : (j : Int) < (elimS (p, (U : Int), l)).2.length := by omega
        have hjl : (j : Int) < l.length := by omega
        have hcap2 : (U : Int) ≤ c6 := by omega
        have hIR : I64 RV := ⟨by omega, by omega⟩
        have hq := hst.out.alloc #[.slice a6 (U + 1) c6, .slice a7 l.length c7] 53 rfl
        have hqd := hq.drew
        go_wp2_with fail
        refine wp_region_noPanic (wp_region_el (fun w' => w'.cell? ⟨w.heap.size + 1 + 1, 2, none⟩ = some (.slice va j vc) ∧ w'.cell? ⟨wr.heap.size, 0, none⟩ = some (.slice a6 (U + 1) c6) ∧ w'.cell? ⟨wr.heap.size, 1, none⟩ = some (.slice a7 l.length c7) ∧ w'.cell? ⟨w.heap.size, 1, none⟩ = some (.int .i64 U)) [(0, 0), (1, 0), (2, 0), (3, 0), (4, 0), (5, 0), (6, 0), (8, 0), (7, 1), (9, 1), (10, 0), (11, 1), (12, 1), (13, 0), (14, 2)] (by kernel_rfl) (by kernel_rfl) (by kernel_rfl) rfl ?_ (fun _ _ _ _ _ h => h) ?_)
        · exact ⟨hqd.cellAt 2 rfl 2 rfl, hqd.cellAt 3 rfl 0 rfl, hqd.cellAt 3 rfl 1 rfl, hqd.cellAt 0 rfl 1 rfl⟩
        (repeat (first | (apply el_skip rfl (by rfl); try simp only [Act.put, List.setIfInBounds_toArray, List.set_cons_zero, List.set_cons_succ]) | (apply el_float rfl (by rfl); (· (intro w' hS; go_simp <;> with_reducible rfl)); (try simp only [Act.put, List.setIfInBounds_toArray, List.set_cons_zero, List.set_cons_succ]))))
        refine el_hard rfl (by rfl) (fun K hK => ?_)
        go_wp2_with (go_at_call 47; refine (cloneIntsA_c Y1 _ _ (Rd.mono HL.out ((belowA wr _).trans (belowD _ |>.mono (by simp)))) (by rw [HLEN.out]; omega)).mono ?_; rintro e w4 ⟨b4, rfl, hA4, hb4⟩)
        have hq4 := hqd.step hb4
        obtain ⟨m4, n4, rfl, _⟩ := hA4.len
        have HA4 := Lib.hid hA4
        clear hA4
        refine ⟨⟨hq4.cellAt 2 rfl 2 rfl, hq4.cellAt 3 rfl 0 rfl, hq4.cellAt 3 rfl 1 rfl, hq4.cellAt 0 rfl 1 rfl⟩, ?_⟩
        (repeat (first | (apply el_skip rfl (by rfl); try simp only [Act.put, List.setIfInBounds_toArray, List.set_cons_zero, List.set_cons_succ]) | (apply el_float rfl (by rfl); (· (intro w' hS; go_simp <;> with_reducible rfl)); (try simp only [Act.put, List.setIfInBounds_toArray, List.set_cons_zero, List.set_cons_succ]))))
        refine el_hard rfl (by rfl) (fun K hK => ?_)
        have HRW4 := Lib.hid (Rd.mono HRW.out (((belowA wr (.cells #[.slice a6 (U + 1) c6, .slice a7 l.length c7] 53)).trans (belowD _ |>.mono (by simp))).trans (hb4.mono (by simp))))
        go_wp2_with (go_at_call 27; refine (right_c Y _ _ _ HRW4.out (by rw [HG.out.1]; omega) (by rw [HG.out.1]; omega)).mono ?_; rintro e w5 ⟨rfl, hb5⟩)
        rw [HRR.out]
        have hq5 := hq4.step hb5
        have hz45 := hb5.size
        refine ⟨⟨hq5.cellAt 2 rfl 2 rfl, hq5.cellAt 3 rfl 0 rfl, hq5.cellAt 3 rfl 1 rfl, hq5.cellAt 0 rfl 1 rfl⟩, ?_⟩
        (repeat (first | (apply el_skip rfl (by rfl); try simp only [Act.put, List.setIfInBounds_toArray, List.set_cons_zero, List.set_cons_succ]) | (apply el_float rfl (by rfl); (· (intro w' hS; go_simp <;> with_reducible rfl)); (try simp only [Act.put, List.setIfInBounds_toArray, List.set_cons_zero, List.set_cons_succ]))))
        refine el_hard rfl (by rfl) (fun K hK => ?_)
        go_wp2_with fail
        have hbA := belowA w5 (.cells #[.slice m4 Y1.length n4, .int .i64 RV] 73)
        have hq6 := hq5.step hbA
        refine ⟨⟨hq6.cellAt 2 rfl 2 rfl, hq6.cellAt 3 rfl 0 rfl, hq6.cellAt 3 rfl 1 rfl, hq6.cellAt 0 rfl 1 rfl⟩, ?_⟩
        (repeat (first | (apply el_skip rfl (by rfl); try simp only [Act.put, List.setIfInBounds_toArray, List.set_cons_zero, List.set_cons_succ]) | (apply el_float rfl (by rfl); (· (intro w' hS; go_simp <;> with_reducible rfl)); (try simp only [Act.put, List.setIfInBounds_toArray, List.set_cons_zero, List.set_cons_succ]))))
        refine el_hard rfl (by rfl) (fun K hK => ?_)
        obtain ⟨ps5, ho5, hn5, hk5⟩ := ((HA4.out.mono hb5).mono hbA).ownSl
        have IY : Fresh wr.heap.size (w5.alloc (.cells #[.slice m4 Y1.length n4, .int .i64 RV] 73)) [.slice m4 Y1.length n4, .int .i64 RV] ((Y1, RV) : Eqn) :=
          ⟨ps5 ++ [], mk_own ⟨_, rfl, ho5⟩ ⟨rfl, rfl, hIR⟩, by simpa using hn5, fun k hk => by have h := (hk5 k (by simpa using hk)).1; simp at h; omega⟩
        have hbr : Below wr.heap.size wr (w5.alloc (.cells #[.slice m4 Y1.length n4, .int .i64 RV] 73)) := ((((belowA wr (.cells #[.slice a6 (U + 1) c6, .slice a7 l.length c7] 53)).trans (belowD _ |>.mono (by simp))).trans (hb4.mono (by simp))).trans (hb5.mono (by have := hb4.size; simp at this; omega))).trans (hbA.mono (by have := hb4.size; simp at this; omega))
        have hzw := hbr.size
        refine wp_append_acc _ _ _ _ rfl E_eqns rfl (hac.out.mono hbr) IY (by omega) hzw ⟨w5.heap.size, 0, none⟩ 1 rfl (fun z u hz => by
          match z with
          | 0 => simp at hz; subst hz; exact cell_at_block (heap_alloc_new w5 _)
          | 1 => simp at hz; subst hz; exact cell_at_block (heap_alloc_new w5 _)
          | z + 2 => simp at hz) (by rw [HLJ.out]; omega) ?_
        intro a8 c8 w8 hA8 hB8 hK8
        rw [HLJ.out] at hA8 ⊢
        rw [← HST.out] at hA8
        have hkk := hK8 wr.heap.size (Nat.le_refl _) (by have := hb4.size; simp at this; simp; omega)
        have hq7 := ((hst.out.step hbr).stepB hB8)
        refine hK _ _ ⟨⟨hq7.cellAt 2 rfl 2 rfl, cellK (hq6.cellAt 3 rfl 0 rfl) hkk, cellK (hq6.cellAt 3 rfl 1 rfl) hkk, hq7.cellAt 0 rfl 1 rfl⟩, ?_⟩
        have r2 := hq7.cellAt 2 rfl 2 rfl
        have r3 := hq7.freeAt 2 rfl 2
        have HA8 := Lib.hid hA8
        have HBL8 := Lib.hid ((Iv.mono hbl.out hbr).frame (fun k h1 h2 => hB8.block k (by omega)))
        have HA9 := Lib.hid (show Acc (w3.heap.size + 1) (w8.setCell ⟨w.heap.size + 1 + 1, 2, none⟩ (.slice a8 (j + 1) c8)).heap.size 73 (w8.setCell ⟨w.heap.size + 1 + 1, 2, none⟩ (.slice a8 (j + 1) c8)) (.slice a8 (j + 1) c8) (redTo (elimS (p, (U : Int), l)).1 (j + 1)) from by
          have e : (w8.setCell ⟨w.heap.size + 1 + 1, 2, none⟩ (.slice a8 (j + 1) c8)).heap.size = w8.heap.size := by simp [World.setCell]
          rw [e]; exact hA8.setCell (by simp <;> omega) _)
        have HQ8 := Lib.hid (hq7.set (p := [_, _]) (by simp <;> omega) 2 (.slice a8 (j + 1) c8))
        clear hA8 ho5 hn5 hk5 IY
        (repeat (first | (apply el_skip rfl (by rfl); try simp only [Act.put, List.setIfInBounds_toArray, List.set_cons_zero, List.set_cons_succ]) | (apply el_float rfl (by rfl); (· (intro w' hS; go_simp <;> with_reducible rfl)); (try simp only [Act.put, List.setIfInBounds_toArray, List.set_cons_zero, List.set_cons_succ]))))
        refine el_last rfl (by rfl) (fun K hK => ?_)
        go_wp2_with fail
        refine el_nil (NoPanic.normal ?_)
        go_wp2_with fail
        go_roundw
        case rel => exact ⟨j + 1, a8, c8, hlt, by go_num, HQ8.out, HA9.out, Iv.setOut HBL8.out (.inl (by simp <;> omega)) _⟩
        case measure => simp [intOf]; omega
      · obtain rfl : j = (elimS (p, (U : Int), l)).2.length := by omega
        have hs7 := hst.out
        have t20 := hs7.cellAt 2 rfl 0 rfl
        have t21 := hs7.cellAt 2 rfl 1 rfl
        have t22 := hs7.cellAt 2 rfl 2 rfl
        have g0 := hs7.freeAt 1 rfl 0
        have g1 := hs7.freeAt 1 rfl 1
        have g2 := hs7.freeAt 1 rfl 2
        have y0 := hs7.cellAt 1 rfl 0 rfl
        have y1 := hs7.cellAt 1 rfl 1 rfl
        have y2 := hs7.cellAt 1 rfl 2 rfl
        have hs9 := ((hs7.set (p := [_]) (by simp <;> omega) 0 (.int .i64 p)).set (p := [_]) (by simp <;> omega) 1 (.int .i64 U)).set (p := [_]) (by simp <;> omega) 2 (.slice va (elimS (p, (U : Int), l)).2.length vc)
        have x0 := hs9.cellAt 1 rfl 0 rfl
        have x1 := hs9.cellAt 1 rfl 1 rfl
        have x2 := hs9.cellAt 1 rfl 2 rfl
        go_wp2_with fail
        refine bodyPost_ret (v := .agg #[.int .i64 p, .int .i64 U, .slice va (elimS (p, (U : Int), l)).2.length vc]) (by simp [results, Tryz.results43, go_sem, x0, x1, x2]) rfl ⟨_, _, _, rfl, ?_, hs9.bel⟩
        rw [HRF.out]
        obtain ⟨ps, ho, hn, hk⟩ := hac.out.ownSl
        have hoo := (((OnlyAt.refl [w.heap.size + 1] wr).setCell (p := ⟨w.heap.size + 1, 0, none⟩) (by simp) (.int .i64 p)).setCell (p := ⟨w.heap.size + 1, 1, none⟩) (by simp) (.int .i64 U)).setCell (p := ⟨w.heap.size + 1, 2, none⟩) (by simp) (.slice va (elimS (p, (U : Int), l)).2.length vc)
        exact ⟨[] ++ ([] ++ ps), mk_own (p := []) ⟨rfl, rfl, hIp⟩ (mk_own (p := []) ⟨rfl, rfl, hIu⟩ ⟨_, rfl, ownSl_only ho hoo (fun k h1 h2 => by have := (hk k h1).1; simp at h2; omega)⟩), by simpa using hn, fun k h1 => by have := (hk k (by simpa using h1)).1; omega⟩
theorem reducedSystem_c (x : Sys) (v0 v1 v2 : Value) (w : World) (hx : Rd w [v0, v1, v2] x) (hok : validS x = true) :
    Calls Tryz.prog 43 #[.agg #[v0, v1, v2]] w fun e w' => ∃ a n c, e = .returned (.agg #[.int .i64 x.1, .int .i64 x.2.1, .slice a n c]) ∧ Fresh w.heap.size w' [.int .i64 x.1, .int .i64 x.2.1, .slice a n c] (reducedF x) ∧ Below w.heap.size w w' :=
  reducedSystemW_c x v0 v1 v2 w hx (wideS_of hok)

end Go.Proofs.YthceklaoikeokaaGreatDoor

/-
  CONTRACTS: ReduceSystem, the reference's side; both.
-/
namespace Go.Proofs.YthceklaoikeokaaGreatDoor
open Go.RowKit Go.Shelf Go.IntWalk
open Rep (Rd Own sz)
set_option linter.unusedSimpArgs false
set_option linter.unusedVariables false

/-- The rows as they are owned, one by one. -/
theorem fresh_rows {lo : Nat} {w : World} {g n c : Nat} {R : List SRow} (h : Fresh lo w [.slice (some ⟨g, 0, none⟩) n c] R) :
    ∃ rss : List (List Nat), rss.length = R.length ∧ (List.flatten rss).Nodup ∧ (∀ k, k ∈ List.flatten rss → lo ≤ k ∧ k < w.heap.size) ∧
      ∀ i (hi : i < R.length), ∃ p p1 v0 v2, rss[i]? = some p ∧ (∀ k, k ∈ p1 → k ∈ p) ∧ p1.Nodup ∧ Own p1 w [v0] R[i].1 ∧ I64 R[i].2.1 ∧ w.cell? ⟨g, i * 3, none⟩ = some v0 ∧ w.cell? ⟨g, i * 3 + 1, none⟩ = some (.int .i64 R[i].2.1) ∧ w.cell? ⟨g, i * 3 + 2, none⟩ = some v2 := by
  obtain ⟨ps, ⟨v, e, ho⟩, hnd, hlo⟩ := h
  obtain rfl : .slice (some ⟨g, 0, none⟩) n c = v := by simpa using e
  have hlt := Rep.own_lt (α := List SRow) (ps := ps) (w := w) (vs := [.slice (some ⟨g, 0, none⟩) n c]) (x := R) ⟨_, rfl, ho⟩
  rcases ho with ⟨rfl, rfl, _⟩ | ⟨g', o', c', cur, e', pss, hv, _, _, hh, rfl, h5, h6⟩
  · exact ⟨[], rfl, by simp, by simp, fun i hi => absurd hi (Nat.not_lt_zero _)⟩
  · simp only [Value.slice.injEq, Option.some.injEq, Addr.mk.injEq, and_true] at hv
    obtain ⟨⟨rfl, rfl⟩, rfl, rfl⟩ := hv
    refine ⟨pss, h5, (List.nodup_cons.1 hnd).2, fun k hk => ⟨hlo k (List.mem_cons_of_mem _ hk), hlt k (List.mem_cons_of_mem _ hk)⟩, fun i hi => ?_⟩
    obtain ⟨p, vs, hp, hO, hc⟩ := h6 i hi
    have hl := Rep.rd_len (Rep.own_rd hO)
    match vs, hl with
    | [v0, v1, v2], _ =>
      obtain ⟨p1, q1, rfl, ho1, ho2⟩ := own_cons rfl hO
      obtain ⟨p2, q2, rfl, ho3, _⟩ := own_cons rfl ho2
      obtain ⟨_, e1, hI⟩ := ho3
      obtain rfl : v1 = .int .i64 R[i].2.1 := by simpa using e1
      have hpn : (p1 ++ (p2 ++ q2)).Nodup := by
        have h7 := (List.nodup_cons.1 hnd).2
        exact (List.pairwise_flatten.1 h7).1 _ (List.mem_of_getElem? hp)
      refine ⟨_, p1, v0, v2, hp, fun k hk => by simp [hk], (List.nodup_append.1 hpn).1, ho1, hI, ?_, ?_, ?_⟩
      · rw [cell_at_block hh]; have := hc 0 (by simp); simpa using this
      · rw [cell_at_block hh]; have := hc 1 (by simp); simpa using this
      · rw [cell_at_block hh]; have := hc 2 (by simp); simpa using this
theorem flat_nodup {rss pss : List (List Nat)} (h : (List.flatten rss).Nodup) (hs : ∀ (i : Nat) p, pss[i]? = some p → p.Nodup ∧ ∃ q, rss[i]? = some q ∧ ∀ k, k ∈ p → k ∈ q) : (List.flatten pss).Nodup := by
  refine nodup_of_disj (fun k p hp => (hs k p hp).1) (fun a b p q hab hp hq k hk hkq => ?_)
  obtain ⟨_, p', hp', hs1⟩ := hs a p hp
  obtain ⟨_, q', hq', hs2⟩ := hs b q hq
  have h2 := (List.pairwise_flatten.1 h).2
  rw [List.pairwise_iff_getElem] at h2
  obtain ⟨ha, ea⟩ := List.getElem?_eq_some_iff.1 hp'
  obtain ⟨hb, eb⟩ := List.getElem?_eq_some_iff.1 hq'
  rcases Nat.lt_or_gt_of_ne hab with h3 | h3
  · exact h2 a b ha hb h3 k (by rw [ea]; exact hs1 k hk) k (by rw [eb]; exact hs2 k hkq) rfl
  · exact h2 b a hb ha h3 k (by rw [eb]; exact hs2 k hkq) k (by rw [ea]; exact hs1 k hk) rfl
theorem accP_of_row {α : Type} [Rep α] {A : Nat → Prop} {e : TypeId} {w : World} {v : Value} {l : List α} {xs : List Value} {pss : List (List Nat)} (h : w.ownsRow 0 e (sz α) v l.length xs) (hp : pss.length = l.length)
    (hel : ∀ i (hi : i < l.length), ∃ p vs, pss[i]? = some p ∧ Own p w vs l[i] ∧ ∀ k, k < vs.length → xs[i * sz α + k]? = vs[k]?) (hn : (v.ownBlock.toList ++ List.flatten pss).Nodup) (hA : ∀ k, k ∈ v.ownBlock.toList ++ List.flatten pss → A k) : AccP A e w v l := by
  have ho : Own (v.ownBlock.toList ++ List.flatten pss) w [v] l := ⟨_, rfl, ownSl_of_row h hp hel⟩
  exact ⟨xs, pss, h, hp, hn, fun k hk => ⟨hA k hk, Rep.own_lt ho k hk⟩, hel⟩
theorem own0_sys {w : World} : Own [] w [.int .i64 0, .int .i64 0, .slice none 0 0] ((0, 0, []) : Sys) :=
  mk_own (p := []) ⟨rfl, rfl, ⟨by decide, by decide⟩⟩ (mk_own (p := []) ⟨rfl, rfl, ⟨by decide, by decide⟩⟩ ⟨_, rfl, .inl ⟨rfl, rfl, none, 0, rfl, Nat.zero_le _⟩⟩)
theorem reduceF_ok {x : Sys} (h : validS x = true) : reduceF x = (reducedF x, 0) := by unfold reduceF; rw [if_pos h]
theorem reduceF_bad {x : Sys} (h : validS x = false) : reduceF x = ((0, 0, []), 1) := by unfold reduceF; rw [h]; rfl
set_option maxRecDepth 100000 in
set_option maxHeartbeats 4000000 in
theorem ReduceSystem_c (x : Sys) (v0 v1 v2 : Value) (w : World) (hx : Rd w [v0, v1, v2] x) :
    Calls Tryz.prog 14 #[.agg #[v0, v1, v2]] w fun e w' => ∃ u0 u1 u2, e = .returned (.tuple #[.agg #[u0, u1, u2], .int .i64 (reduceF x).2]) ∧ Fresh w.heap.size w' [u0, u1, u2] (reduceF x).1 ∧ Below w.heap.size w w' := by
  obtain ⟨p, u, l⟩ := x
  have HX := Lib.hid hx
  have z := rd_cons rfl hx
  obtain ⟨rfl, hIp⟩ := rd_i1 z.1
  have z2 := rd_cons rfl z.2
  obtain ⟨rfl, hIu⟩ := rd_i1 z2.1
  obtain ⟨a, c, rfl, _⟩ := rd_list z2.2
  clear hx z z2
  have hs1 := (St.start w).alloc #[.int .i64 p, .int .i64 u, .slice a l.length c] 26 (n := w.heap.size) (by simp)
  have k0_0 := hs1.cellAt 0 rfl 0 rfl
  have k0_1 := hs1.cellAt 0 rfl 1 rfl
  have k0_2 := hs1.cellAt 0 rfl 2 rfl
  have hs2 := hs1.alloc #[.int .i64 0, .int .i64 0, .slice none 0 0] 26 (n := w.heap.size + 1) (by simp)
  clear k0_0 k0_1 k0_2
  have k0_0 := hs2.cellAt 0 rfl 0 rfl
  have k0_1 := hs2.cellAt 0 rfl 1 rfl
  have k0_2 := hs2.cellAt 0 rfl 2 rfl
  have k1_0 := hs2.cellAt 1 rfl 0 rfl
  have k1_1 := hs2.cellAt 1 rfl 1 rfl
  have k1_2 := hs2.cellAt 1 rfl 2 rfl
  go_enter Tryz.func14, Tryz.ntmps14
  go_wp2_with fail
  refine (ValidSystem_c (p, u, l) _ _ _ _ (Rd.mono HX.out hs2.bel)).mono ?_
  rintro e w3 ⟨rfl, hbw3⟩
  have hz_w3 : w.heap.size + 1 + 1 ≤ w3.heap.size := by have h9 := hbw3.size; (try simp at h9); omega
  have hs4 := hs2.step hbw3
  clear k0_0 k0_1 k0_2 k1_0 k1_1 k1_2
  have k0_0 := hs4.cellAt 0 rfl 0 rfl
  have k0_1 := hs4.cellAt 0 rfl 1 rfl
  have k0_2 := hs4.cellAt 0 rfl 2 rfl
  have k1_0 := hs4.cellAt 1 rfl 0 rfl
  have k1_1 := hs4.cellAt 1 rfl 1 rfl
  have k1_2 := hs4.cellAt 1 rfl 2 rfl
  have f0 := (hs4.freeAt 1 rfl 0)
  have f1 := (hs4.freeAt 1 rfl 1)
  have f2 := (hs4.freeAt 1 rfl 2)
  cases hok : validS (p, u, l) with
  | false =>
    have HK := Lib.hid hok
    clear hok
    have hq9 := ((hs4.set (p := [_]) (by simp <;> omega) 0 (.int .i64 0)).set (p := [_]) (by simp <;> omega) 1 (.int .i64 0)).set (p := [_]) (by simp <;> omega) 2 (.slice none 0 0)
    have x0 := hq9.cellAt 1 rfl 0 rfl
    have x1 := hq9.cellAt 1 rfl 1 rfl
    have x2 := hq9.cellAt 1 rfl 2 rfl
    go_wp2_with fail
    refine bodyPost_ret (v := .tuple #[.agg #[.int .i64 0, .int .i64 0, .slice none 0 0], .int .i64 1]) (by simp [results, Tryz.results14, go_sem, x0, x1, x2]) rfl ⟨.int .i64 0, .int .i64 0, .slice none 0 0, ?_, ?_, hq9.bel⟩
    · rw [reduceF_bad HK.out]
    · rw [reduceF_bad HK.out]; exact ⟨[], own0_sys, by simp, by simp⟩
  | true =>
    have HK := Lib.hid hok
    clear hok
    have hlo := hs4.hi
    go_wp2_with fail
    refine (reducedSystem_c (p, u, l) _ _ _ _ (Rd.mono HX.out hs4.bel) HK.out).mono ?_
    rintro e w5 ⟨ar, nr, cr, rfl, frr, hbw5⟩
    have hz_w5 : w3.heap.size ≤ w5.heap.size := by have h9 := hbw5.size; (try simp at h9); omega
    have hs6 := hs4.step hbw5
    clear k0_0 k0_1 k0_2 k1_0 k1_1 k1_2
    have k0_0 := hs6.cellAt 0 rfl 0 rfl
    have k0_1 := hs6.cellAt 0 rfl 1 rfl
    have k0_2 := hs6.cellAt 0 rfl 2 rfl
    have k1_0 := hs6.cellAt 1 rfl 0 rfl
    have k1_1 := hs6.cellAt 1 rfl 1 rfl
    have k1_2 := hs6.cellAt 1 rfl 2 rfl
    have HFR := Lib.hid frr
    clear frr
    have f0 := (hs6.freeAt 1 rfl 0)
    have f1 := (hs6.freeAt 1 rfl 1)
    have f2 := (hs6.freeAt 1 rfl 2)
    have hq9 := ((hs6.set (p := [_]) (by simp <;> omega) 0 (.int .i64 p)).set (p := [_]) (by simp <;> omega) 1 (.int .i64 u)).set (p := [_]) (by simp <;> omega) 2 (.slice ar nr cr)
    have x0 := hq9.cellAt 1 rfl 0 rfl
    have x1 := hq9.cellAt 1 rfl 1 rfl
    have x2 := hq9.cellAt 1 rfl 2 rfl
    go_wp2_with fail
    refine bodyPost_ret (v := .tuple #[.agg #[.int .i64 p, .int .i64 u, .slice ar nr cr], .int .i64 0]) (by simp [results, Tryz.results14, go_sem, x0, x1, x2]) rfl ⟨.int .i64 p, .int .i64 u, .slice ar nr cr, ?_, ?_, hq9.bel⟩
    · rw [reduceF_ok HK.out]
    · rw [reduceF_ok HK.out]
      exact (((HFR.out.setCell (a := ⟨w.heap.size + 1, 0, none⟩) (by (try simp) <;> (try simp at hlo) <;> omega) _).setCell (a := ⟨w.heap.size + 1, 1, none⟩) (by (try simp) <;> (try simp at hlo) <;> omega) _).setCell (a := ⟨w.heap.size + 1, 2, none⟩) (by (try simp) <;> (try simp at hlo) <;> omega) _).lower (by (try simp) <;> (try simp at hlo) <;> omega)

end Go.Proofs.YthceklaoikeokaaGreatDoor
