/-
  CONTRACTS: slices.Equal.
-/
import Derived.Test.YtndpinikniameaaEq
import Derived.Laws.StructEq
namespace Go.Proofs.Ytndpinikniameaa
open Go.RowKit
open Rep (Rd Own sz)
set_option linter.unusedSimpArgs false
set_option linter.unusedVariables false

set_option maxRecDepth 100000 in
set_option maxHeartbeats 1000000 in
theorem equalInts_c (l1 l2 : List Int) (v1 v2 : Value) (w : World) (r1 : Rd w [v1] l1) (r2 : Rd w [v2] l2) :
    Calls Try.prog 58 #[v1, v2] w fun e w' => e = .returned (.bool (decide (l1 = l2))) ∧ Below w.heap.size w w' := by
  obtain ⟨a1, c1, rfl, h1⟩ := rd_list r1
  obtain ⟨a2, c2, rfl, h2⟩ := rd_list r2
  clear r1 r2
  have b1 := (rdSl_len h1).2
  have b2 := (rdSl_len h2).2
  unfold maxLen at b1 b2
  have G1 := Lib.hid h1
  have G2 := Lib.hid h2
  clear h1 h2
  by_cases hl : l1.length = l2.length
  · generalize hn1 : l1.length = n1 at *
    generalize hn2 : l2.length = n2 at *
    have H1 := Lib.hid hn1
    have H2 := Lib.hid hn2
    clear hn1 hn2
    subst hl
    have hl' : ((n1 : Int) != n1) = false := by simp
    go_enter Try.func58, Try.ntmps58
    go_wp2_with fail
    go_loopw [13] (fun i wr => ∃ k : Nat, k ≤ n1 ∧ i = .int .i64 k ∧ Hid (Below w.heap.size w wr) ∧ Hid (l1.take k = l2.take k)) (fun i _ => n1 - (intOf i).toNat)
    case atStart => exact ⟨0, Nat.zero_le _, rfl, Below.refl _ _, by simp [Hid]⟩
    case round =>
      obtain ⟨k, hk, rfl, hbl, hr⟩ := hrel
      by_cases hlt : k < n1
      · have k1 : k < l1.length := by rw [H1.out]; exact hlt
        have k2 : k < l2.length := by rw [H2.out]; exact hlt
        obtain ⟨b1, o1, u0, rfl, q0, hx⟩ := rdSl_one rfl (rdSl_mono hbl.out G1.out) k k1
        obtain ⟨b2, o2, t0, rfl, p0, hy⟩ := rdSl_one rfl (rdSl_mono hbl.out G2.out) k k2
        obtain ⟨rfl, _⟩ := rd_i1 hx
        obtain ⟨rfl, _⟩ := rd_i1 hy
        clear hx hy
        by_cases he : l1[k] = l2[k]
        · have hb : (l1[k] != l2[k]) = false := by simpa using he
          have HE := Lib.hid he
          clear he
          go_wp2_with fail
          go_quiet (fail)
          go_wp2_with fail
          go_roundw
          case rel => exact ⟨k + 1, by omega, by go_num, hbl.out.trans ((drewN_below _ _).mono hbl.out.size), take_succG k1 k2 hr.out HE.out⟩
          case measure => simp [intOf]; omega
        · have hb : (l1[k] != l2[k]) = true := by simpa using he
          have HE := Lib.hid he
          clear he
          go_wp2_with fail
          go_quiet (fail)
          go_wp2_with fail
          go_ret
          exact ⟨ret_bool (by simp [ne_getG k1 k2 HE.out]), hbl.out.trans ((drewN_below _ _).mono hbl.out.size)⟩
      · obtain rfl : k = n1 := by omega
        go_wp2_with fail
        go_ret
        exact ⟨ret_bool (by simp [take_allG H1.out H2.out hr.out]), hbl.out⟩
  · have hl' : ((l1.length : Int) != l2.length) = true := by simp; omega
    have HL := Lib.hid hl
    clear hl
    go_enter Try.func58, Try.ntmps58
    go_wp2_with fail
    go_ret
    refine ⟨ret_bool ?_, Below.refl _ _⟩
    symm
    simp only [decide_eq_false_iff_not]
    rintro rfl
    exact HL.out rfl

theorem arcEq_eq (a b c a' b' c' : Int) (W : World) : (Op.equalIn 10000 94 (.agg #[.int .i64 a, .int .i64 b, .int .i64 c]) (.agg #[.int .i64 a', .int .i64 b', .int .i64 c'])).run Try.prog W = .ok (decide ((a, b, c) = (a', b', c'))) W := by
  have u3 := Try.underlying2
  have a3 := Try.isAgg2
  have z3 := Try.sizeOf2
  have hS : Try.prog.underlying 94 = some (.struct (Try.prog.fieldsOf 94)) := by kernel_rfl
  have hp : Try.prog.stoodInHeld 94 = false := by kernel_rfl
  rw [show (10000 : Nat) = 9999 + 1 from rfl, run_equalIn_agg W 9999 94 _ _ hS hp]
  simp only [Program.fieldsOf, Try.underlying94]
  go_simp
  by_cases h1 : a = a' <;> by_cases h2 : b = b' <;> by_cases h3 : c = c' <;> simp [h1, h2, h3]
theorem arcEq_guard : Try.prog.eqGuardType Try.prog.depth 94 = false := by kernel_rfl
theorem pairEq_eq (a b c a' b' c' : Int) (W : World) : (Op.equalIn 10000 97 (.agg #[.int .i64 a, .int .i64 b, .int .i64 c]) (.agg #[.int .i64 a', .int .i64 b', .int .i64 c'])).run Try.prog W = .ok (decide ((a, b, c) = (a', b', c'))) W := by
  have u3 := Try.underlying2
  have a3 := Try.isAgg2
  have z3 := Try.sizeOf2
  have hS : Try.prog.underlying 97 = some (.struct (Try.prog.fieldsOf 97)) := by kernel_rfl
  have hp : Try.prog.stoodInHeld 97 = false := by kernel_rfl
  rw [show (10000 : Nat) = 9999 + 1 from rfl, run_equalIn_agg W 9999 97 _ _ hS hp]
  simp only [Program.fieldsOf, Try.underlying97]
  go_simp
  by_cases h1 : a = a' <;> by_cases h2 : b = b' <;> by_cases h3 : c = c' <;> simp [h1, h2, h3]
theorem pairEq_guard : Try.prog.eqGuardType Try.prog.depth 97 = false := by kernel_rfl
set_option maxRecDepth 100000 in
set_option maxHeartbeats 1000000 in
theorem equalArcs_c (l1 l2 : List (Int × Int × Int)) (v1 v2 : Value) (w : World) (r1 : Rd w [v1] l1) (r2 : Rd w [v2] l2) :
    Calls Try.prog 59 #[v1, v2] w fun e w' => e = .returned (.bool (decide (l1 = l2))) ∧ Below w.heap.size w w' := by
  obtain ⟨a1, c1, rfl, h1⟩ := rd_list r1
  obtain ⟨a2, c2, rfl, h2⟩ := rd_list r2
  clear r1 r2
  have b1 := (rdSl_len h1).2
  have b2 := (rdSl_len h2).2
  unfold maxLen at b1 b2
  have G1 := Lib.hid h1
  have G2 := Lib.hid h2
  clear h1 h2
  by_cases hl : l1.length = l2.length
  · generalize hn1 : l1.length = n1 at *
    generalize hn2 : l2.length = n2 at *
    have H1 := Lib.hid hn1
    have H2 := Lib.hid hn2
    clear hn1 hn2
    subst hl
    have hl' : ((n1 : Int) != n1) = false := by simp
    go_enter Try.func59, Try.ntmps59
    go_wp2_with fail
    go_loopw [13] (fun i wr => ∃ k : Nat, k ≤ n1 ∧ i = .int .i64 k ∧ Hid (Below w.heap.size w wr) ∧ Hid (l1.take k = l2.take k)) (fun i _ => n1 - (intOf i).toNat)
    case atStart => exact ⟨0, Nat.zero_le _, rfl, Below.refl _ _, by simp [Hid]⟩
    case round =>
      obtain ⟨k, hk, rfl, hbl, hr⟩ := hrel
      by_cases hlt : k < n1
      · have k1 : k < l1.length := by rw [H1.out]; exact hlt
        have k2 : k < l2.length := by rw [H2.out]; exact hlt
        obtain ⟨b1, o1, u0, u1, u2, rfl, q0, q1, q2, hx⟩ := rdSl_three rfl (rdSl_mono hbl.out G1.out) k k1
        obtain ⟨b2, o2, t0, t1, t2, rfl, p0, p1, p2, hy⟩ := rdSl_three rfl (rdSl_mono hbl.out G2.out) k k2
        obtain ⟨rfl, _⟩ := rd_i1 (rd_cons rfl hx).1
        obtain ⟨rfl, _⟩ := rd_i1 (rd_cons rfl (rd_cons rfl hx).2).1
        obtain ⟨rfl, _⟩ := rd_i1 (rd_cons rfl (rd_cons rfl hx).2).2
        obtain ⟨rfl, _⟩ := rd_i1 (rd_cons rfl hy).1
        obtain ⟨rfl, _⟩ := rd_i1 (rd_cons rfl (rd_cons rfl hy).2).1
        obtain ⟨rfl, _⟩ := rd_i1 (rd_cons rfl (rd_cons rfl hy).2).2
        clear hx hy
        by_cases he : l1[k] = l2[k]
        · have hg := arcEq_guard
          have hb : ∀ W, (Op.equalIn 10000 94 (.agg #[.int .i64 l1[k].1, .int .i64 l1[k].2.1, .int .i64 l1[k].2.2]) (.agg #[.int .i64 l2[k].1, .int .i64 l2[k].2.1, .int .i64 l2[k].2.2])).run Try.prog W = .ok true W := fun W => by rw [arcEq_eq]; exact congrArg (fun z => Result.ok z W) (decide_eq_true he)
          have HE := Lib.hid he
          clear he
          go_wp2_with fail
          go_quiet (fail)
          go_wp2_with fail
          go_roundw
          case rel => exact ⟨k + 1, by omega, by go_num, hbl.out.trans ((drewN_below _ _).mono hbl.out.size), take_succG k1 k2 hr.out HE.out⟩
          case measure => simp [intOf]; omega
        · have hg := arcEq_guard
          have hb : ∀ W, (Op.equalIn 10000 94 (.agg #[.int .i64 l1[k].1, .int .i64 l1[k].2.1, .int .i64 l1[k].2.2]) (.agg #[.int .i64 l2[k].1, .int .i64 l2[k].2.1, .int .i64 l2[k].2.2])).run Try.prog W = .ok false W := fun W => by rw [arcEq_eq]; exact congrArg (fun z => Result.ok z W) (decide_eq_false he)
          have HE := Lib.hid he
          clear he
          go_wp2_with fail
          go_quiet (fail)
          go_wp2_with fail
          go_ret
          exact ⟨ret_bool (by simp [ne_getG k1 k2 HE.out]), hbl.out.trans ((drewN_below _ _).mono hbl.out.size)⟩
      · obtain rfl : k = n1 := by omega
        go_wp2_with fail
        go_ret
        exact ⟨ret_bool (by simp [take_allG H1.out H2.out hr.out]), hbl.out⟩
  · have hl' : ((l1.length : Int) != l2.length) = true := by simp; omega
    have HL := Lib.hid hl
    clear hl
    go_enter Try.func59, Try.ntmps59
    go_wp2_with fail
    go_ret
    refine ⟨ret_bool ?_, Below.refl _ _⟩
    symm
    simp only [decide_eq_false_iff_not]
    rintro rfl
    exact HL.out rfl
set_option maxRecDepth 100000 in
set_option maxHeartbeats 1000000 in
theorem equalPairs_c (l1 l2 : List (Int × Int × Int)) (v1 v2 : Value) (w : World) (r1 : Rd w [v1] l1) (r2 : Rd w [v2] l2) :
    Calls Try.prog 60 #[v1, v2] w fun e w' => e = .returned (.bool (decide (l1 = l2))) ∧ Below w.heap.size w w' := by
  obtain ⟨a1, c1, rfl, h1⟩ := rd_list r1
  obtain ⟨a2, c2, rfl, h2⟩ := rd_list r2
  clear r1 r2
  have b1 := (rdSl_len h1).2
  have b2 := (rdSl_len h2).2
  unfold maxLen at b1 b2
  have G1 := Lib.hid h1
  have G2 := Lib.hid h2
  clear h1 h2
  by_cases hl : l1.length = l2.length
  · generalize hn1 : l1.length = n1 at *
    generalize hn2 : l2.length = n2 at *
    have H1 := Lib.hid hn1
    have H2 := Lib.hid hn2
    clear hn1 hn2
    subst hl
    have hl' : ((n1 : Int) != n1) = false := by simp
    go_enter Try.func60, Try.ntmps60
    go_wp2_with fail
    go_loopw [13] (fun i wr => ∃ k : Nat, k ≤ n1 ∧ i = .int .i64 k ∧ Hid (Below w.heap.size w wr) ∧ Hid (l1.take k = l2.take k)) (fun i _ => n1 - (intOf i).toNat)
    case atStart => exact ⟨0, Nat.zero_le _, rfl, Below.refl _ _, by simp [Hid]⟩
    case round =>
      obtain ⟨k, hk, rfl, hbl, hr⟩ := hrel
      by_cases hlt : k < n1
      · have k1 : k < l1.length := by rw [H1.out]; exact hlt
        have k2 : k < l2.length := by rw [H2.out]; exact hlt
        obtain ⟨b1, o1, u0, u1, u2, rfl, q0, q1, q2, hx⟩ := rdSl_three rfl (rdSl_mono hbl.out G1.out) k k1
        obtain ⟨b2, o2, t0, t1, t2, rfl, p0, p1, p2, hy⟩ := rdSl_three rfl (rdSl_mono hbl.out G2.out) k k2
        obtain ⟨rfl, _⟩ := rd_i1 (rd_cons rfl hx).1
        obtain ⟨rfl, _⟩ := rd_i1 (rd_cons rfl (rd_cons rfl hx).2).1
        obtain ⟨rfl, _⟩ := rd_i1 (rd_cons rfl (rd_cons rfl hx).2).2
        obtain ⟨rfl, _⟩ := rd_i1 (rd_cons rfl hy).1
        obtain ⟨rfl, _⟩ := rd_i1 (rd_cons rfl (rd_cons rfl hy).2).1
        obtain ⟨rfl, _⟩ := rd_i1 (rd_cons rfl (rd_cons rfl hy).2).2
        clear hx hy
        by_cases he : l1[k] = l2[k]
        · have hg := pairEq_guard
          have hb : ∀ W, (Op.equalIn 10000 97 (.agg #[.int .i64 l1[k].1, .int .i64 l1[k].2.1, .int .i64 l1[k].2.2]) (.agg #[.int .i64 l2[k].1, .int .i64 l2[k].2.1, .int .i64 l2[k].2.2])).run Try.prog W = .ok true W := fun W => by rw [pairEq_eq]; exact congrArg (fun z => Result.ok z W) (decide_eq_true he)
          have HE := Lib.hid he
          clear he
          go_wp2_with fail
          go_quiet (fail)
          go_wp2_with fail
          go_roundw
          case rel => exact ⟨k + 1, by omega, by go_num, hbl.out.trans ((drewN_below _ _).mono hbl.out.size), take_succG k1 k2 hr.out HE.out⟩
          case measure => simp [intOf]; omega
        · have hg := pairEq_guard
          have hb : ∀ W, (Op.equalIn 10000 97 (.agg #[.int .i64 l1[k].1, .int .i64 l1[k].2.1, .int .i64 l1[k].2.2]) (.agg #[.int .i64 l2[k].1, .int .i64 l2[k].2.1, .int .i64 l2[k].2.2])).run Try.prog W = .ok false W := fun W => by rw [pairEq_eq]; exact congrArg (fun z => Result.ok z W) (decide_eq_false he)
          have HE := Lib.hid he
          clear he
          go_wp2_with fail
          go_quiet (fail)
          go_wp2_with fail
          go_ret
          exact ⟨ret_bool (by simp [ne_getG k1 k2 HE.out]), hbl.out.trans ((drewN_below _ _).mono hbl.out.size)⟩
      · obtain rfl : k = n1 := by omega
        go_wp2_with fail
        go_ret
        exact ⟨ret_bool (by simp [take_allG H1.out H2.out hr.out]), hbl.out⟩
  · have hl' : ((l1.length : Int) != l2.length) = true := by simp; omega
    have HL := Lib.hid hl
    clear hl
    go_enter Try.func60, Try.ntmps60
    go_wp2_with fail
    go_ret
    refine ⟨ret_bool ?_, Below.refl _ _⟩
    symm
    simp only [decide_eq_false_iff_not]
    rintro rfl
    exact HL.out rfl

end Go.Proofs.Ytndpinikniameaa
