/-
  CONTRACTS: RankOfSystem, CountAnswers. (Printed by wip/gensys.py.)
-/
import Derived.Test.YtkbeihkjhmillaaSysF
import Derived.Test.YtkbeihkjhmillaaReduced
import Derived.Test.YtkbeihkjhmillaaPredR
import Derived.Test.YtkbeihkjhmillaaReduceS
import Derived.Test.YtkbeihkjhmillaaOwnS
import Derived.Test.YtkbeihkjhmillaaDig
namespace Go.Proofs.Ytkbeihkjhmillaa
open Go.RowKit Go.Shelf Go.IntWalk
open Rep (Rd Own sz)
set_option linter.unusedSimpArgs false
set_option linter.unusedVariables false

set_option maxRecDepth 100000 in
set_option maxHeartbeats 1000000 in
theorem RankOfSystem_c (x : Sys) (v0 v1 v2 : Value) (w : World) (hx : Rd w [v0, v1, v2] x) :
    Calls Try.prog 25 #[.agg #[v0, v1, v2]] w fun e w' => e = .returned (.tuple #[.int .i64 (rankF x).1, .int .i64 (rankF x).2]) ∧ Below w.heap.size w w' := by
  obtain ⟨p, u, l⟩ := x
  have HX := Lib.hid hx
  have z := rd_cons rfl hx
  obtain ⟨rfl, _⟩ := rd_i1 z.1
  have z2 := rd_cons rfl z.2
  obtain ⟨rfl, _⟩ := rd_i1 z2.1
  obtain ⟨a, c, rfl, _⟩ := rd_list z2.2
  clear hx z z2
  have hs := (St.start w).alloc #[.int .i64 p, .int .i64 u, .slice a l.length c] 31 rfl
  have k0 := hs.cellAt 0 rfl 0 rfl
  have k1 := hs.cellAt 0 rfl 1 rfl
  have k2 := hs.cellAt 0 rfl 2 rfl
  go_enter Try.func25, Try.ntmps25
  go_wp2_with fail
  refine (ValidSystem_c (p, u, l) _ _ _ _ (Rd.mono HX.out hs.bel)).mono ?_
  rintro e w1 ⟨rfl, hb1⟩
  have hs1 := hs.step hb1
  clear k0 k1 k2
  have k0 := hs1.cellAt 0 rfl 0 rfl
  have k1 := hs1.cellAt 0 rfl 1 rfl
  have k2 := hs1.cellAt 0 rfl 2 rfl
  cases hok : validS (p, u, l) with
  | false =>
    have HK := Lib.hid hok
    clear hok
    go_wp2_with fail
    refine bodyPost_ret (v := .tuple #[.int .i64 0, .int .i64 1]) (by simp [results, Try.results25, go_sem]) rfl ⟨?_, hs1.bel⟩
    unfold rankF; rw [HK.out]; rfl
  | true =>
    have HK := Lib.hid hok
    have KO := Lib.hid (elim_ok hok)
    clear hok
    go_wp2_with fail
    refine (reduced_c (p, u, l) _ _ _ _ (Rd.mono HX.out hs1.bel) HK.out).mono ?_
    rintro e w2 ⟨vr, vb, rfl, rr, rb, hb2⟩
    obtain ⟨ar, cr, rfl, _⟩ := rd_list rr
    obtain ⟨ab, cb, rfl, _⟩ := rd_list rb
    have RR := Lib.hid rr
    have RB := Lib.hid rb
    have hs2 := hs1.step hb2
    clear rr rb
    clear k0 k1 k2
    have k0 := hs2.cellAt 0 rfl 0 rfl
    have k1 := hs2.cellAt 0 rfl 1 rfl
    have k2 := hs2.cellAt 0 rfl 2 rfl
    go_wp2_with fail
    refine (contradiction_c _ _ _ RR.out KO.out.contr).mono ?_
    rintro e w3 ⟨o0, n0, d0, o1, n1, d1, rfl, hb3, hat⟩
    have HAT := Lib.hid hat
    rw [contrI KO.out]
    have hs3 := hs2.step hb3
    clear hat
    clear k0 k1 k2
    have hs5 := hs3.alloc #[.slice o0 n0 d0, .slice o1 n1 d1] 90 rfl
    have k0 := hs5.cellAt 0 rfl 0 rfl
    have k1 := hs5.cellAt 0 rfl 1 rfl
    have k2 := hs5.cellAt 0 rfl 2 rfl
    have m2 := hs5.cellAt 1 rfl 0 rfl
    have m3 := hs5.cellAt 1 rfl 1 rfl
    by_cases hf : 0 ≤ falseS (p, u, l)
    · rw [decide_eq_true hf]
      have HF := Lib.hid hf
      clear hf
      go_wp2_with fail
      refine bodyPost_ret (v := .tuple #[.int .i64 0, .int .i64 4]) (by simp [results, Try.results25, go_sem]) rfl ⟨?_, hs5.bel⟩
      unfold rankF; rw [if_pos HK.out, if_pos HF.out]
    · rw [decide_eq_false hf]
      have HF := Lib.hid hf
      have HFL := Lib.hid KO.out.flat
      clear hf
      go_wp2_with fail
      refine bodyPost_ret (v := .tuple #[.int .i64 (elimI (p, u, l)).2.length, .int .i64 0]) (by simp [results, Try.results25, go_sem]) rfl ⟨?_, hs5.bel⟩
      unfold rankF; rw [if_pos HK.out, if_neg (by have := HF.out; omega), HFL.out]
set_option maxRecDepth 100000 in
set_option maxHeartbeats 1000000 in
theorem l07Rank_c (x : Sys) (sb : Nat) (v0 v1 v2 : Value) (w : World) (hx : Rd w [v0, v1, v2] x) (c0 : w.cell? ⟨sb, 0, none⟩ = some v0) (c1 : w.cell? ⟨sb, 1, none⟩ = some v1) (c2 : w.cell? ⟨sb, 2, none⟩ = some v2) (hok : validS x = true) :
    Calls Try.prog 79 #[.pointer (some ⟨sb, 0, none⟩)] w fun e w' => e = .returned (.tuple #[.int .i64 (elimS x).2.length, .bool (decide (falseS x < 0))]) ∧ Below w.heap.size w w' := by
  have KO := Lib.hid (elim_ok hok)
  have hle : (elimS x).2.length ≤ 24 := by have := KO.out.le; have := KO.out.hl; omega
  go_enter Try.func79, Try.ntmps79
  go_wp2_with fail
  refine (l07Reduce_c x sb v0 v1 v2 _ hx c0 c1 c2 hok).mono ?_
  rintro e w1 ⟨g, c, rfl, fr, hb1⟩
  have RR := Lib.hid fr.rd
  clear fr hx c0 c1 c2 hok
  go_wp2_with fail
  refine (l07False_c (elimS x).1 _ _ _ RR.out (by rw [KO.out.len]; exact KO.out.le) (by have := KO.out.len; have := KO.out.hl; omega)).mono ?_
  rintro e w2 ⟨rfl, rfl⟩
  go_wp2_with fail
  refine bodyPost_ret (v := .tuple #[.int .i64 (elimS x).2.length, .bool (decide (falseS x < 0))]) (by simp [results, Try.results79, go_sem, falseS] <;> rfl) rfl ⟨rfl, hb1⟩
set_option maxRecDepth 100000 in
set_option maxHeartbeats 1000000 in
theorem sRankOfSystem_c (x : Sys) (v0 v1 v2 : Value) (w : World) (hx : Rd w [v0, v1, v2] x) :
    Calls Try.prog 24 #[.agg #[v0, v1, v2]] w fun e w' => e = .returned (.tuple #[.int .i64 (rankF x).1, .int .i64 (rankF x).2]) ∧ Below w.heap.size w w' := by
  obtain ⟨p, u, l⟩ := x
  have HX := Lib.hid hx
  have z := rd_cons rfl hx
  obtain ⟨rfl, _⟩ := rd_i1 z.1
  have z2 := rd_cons rfl z.2
  obtain ⟨rfl, _⟩ := rd_i1 z2.1
  obtain ⟨a, c, rfl, _⟩ := rd_list z2.2
  clear hx z z2
  have hs := (St.start w).alloc #[.int .i64 p, .int .i64 u, .slice a l.length c] 31 rfl
  go_enter Try.func24, Try.ntmps24
  go_wp2_with fail
  refine (l07Ok_c (p, u, l) _ _ _ _ _ (Rd.mono HX.out hs.bel) (hs.cellAt 0 rfl 0 rfl) (hs.cellAt 0 rfl 1 rfl) (hs.cellAt 0 rfl 2 rfl)).mono ?_
  rintro e w1 ⟨rfl, n1, rfl⟩
  have hs1 := hs.drewN n1
  cases hok : validS (p, u, l) with
  | false =>
    have HK := Lib.hid hok
    clear hok
    go_wp2_with fail
    refine bodyPost_ret (v := .tuple #[.int .i64 0, .int .i64 1]) (by simp [results, Try.results24, go_sem]) rfl ⟨?_, hs1.bel⟩
    unfold rankF; rw [HK.out]; rfl
  | true =>
    have HK := Lib.hid hok
    have KO := Lib.hid (elim_ok hok)
    clear hok
    go_wp2_with fail
    refine (l07Rank_c (p, u, l) _ _ _ _ _ (Rd.mono HX.out hs1.bel) (hs1.cellAt 0 rfl 0 rfl) (hs1.cellAt 0 rfl 1 rfl) (hs1.cellAt 0 rfl 2 rfl) HK.out).mono ?_
    rintro e w2 ⟨rfl, hb2⟩
    have hs2 := hs1.step hb2
    by_cases hf : falseS (p, u, l) < 0
    · rw [decide_eq_true hf]
      have HF := Lib.hid hf
      clear hf
      go_wp2_with fail
      refine bodyPost_ret (v := .tuple #[.int .i64 (elimS (p, u, l)).2.length, .int .i64 0]) (by simp [results, Try.results24, go_sem]) rfl ⟨?_, hs2.bel⟩
      unfold rankF; rw [if_pos HK.out, if_neg (by have := HF.out; omega)]
    · rw [decide_eq_false hf]
      have HF := Lib.hid hf
      clear hf
      go_wp2_with fail
      refine bodyPost_ret (v := .tuple #[.int .i64 0, .int .i64 4]) (by simp [results, Try.results24, go_sem]) rfl ⟨?_, hs2.bel⟩
      unfold rankF; rw [if_pos HK.out, if_pos (by have := HF.out; omega)]

end Go.Proofs.Ytkbeihkjhmillaa
