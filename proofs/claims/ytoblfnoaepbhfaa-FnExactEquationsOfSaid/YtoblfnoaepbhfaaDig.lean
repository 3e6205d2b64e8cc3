/-
  CONTRACTS: powers; the list of an index.
-/
import Derived.Test.YtoblfnoaepbhfaaBase
namespace Go.Proofs.Ytoblfnoaepbhfaa
open Go.RowKit
open Rep (Rd Own sz)
set_option linter.unusedSimpArgs false
set_option linter.unusedVariables false

/-- The digits of n, m of them. -/
def digs (size : Int) : Nat → Int → List Int
  | 0, _ => []
  | m + 1, n => digs size m (n / size) ++ [n % size]
@[simp] theorem digs_length (size : Int) (m : Nat) (n : Int) : (digs size m n).length = m := by
  induction m generalizing n with
  | zero => rfl
  | succ m ih => simp [digs, ih]
theorem digs_mem (size : Int) (hs : 0 < size) (m : Nat) (n : Int) : ∀ a, a ∈ digs size m n → 0 ≤ a ∧ a < size := by
  induction m generalizing n with
  | zero => intro a ha; cases ha
  | succ m ih =>
    intro a ha
    rcases List.mem_append.1 ha with h | h
    · exact ih _ a h
    · obtain rfl : a = n % size := by simpa using h
      exact ⟨Int.emod_nonneg _ (by omega), Int.emod_lt_of_pos _ hs⟩

theorem dig_set (j : Nat) (t : List Int) (x : Int) (h : 0 < j) : (List.replicate j 0 ++ t).set (j - 1) x = List.replicate (j - 1) 0 ++ x :: t := by
  obtain ⟨k, rfl⟩ : ∃ k, j = k + 1 := ⟨j - 1, by omega⟩
  rw [show List.replicate (k + 1) (0 : Int) = List.replicate k 0 ++ [0] from List.replicate_succ']
  simp [List.set_append]
theorem int_of {n : Nat} {i : Int} (h : i = n) : Value.int .i64 i = .int .i64 n := by rw [h]

set_option maxHeartbeats 400000 in
theorem listOf_c (size many index : Int) (w : World) (hs : 0 < size) (hs2 : size ≤ 1000000) (hm : 0 ≤ many) (hm2 : many ≤ 1000000) (hi : 0 ≤ index) (hi2 : index ≤ 1000000000000) :
    Calls Try.prog 65 #[.int .i64 size, .int .i64 many, .int .i64 index] w fun e w' => ∃ v', e = .returned v' ∧ Fresh w.heap.size w' [v'] (digs size many.toNat index) ∧ Below w.heap.size w w' := by
  obtain ⟨n, rfl⟩ := Int.eq_ofNat_of_zero_le hm
  rw [Int.toNat_natCast]
  go_enter Try.func65, Try.ntmps65
  go_wp2_with (at_make; refine wpList_make_rep w rfl _ _ 104 rfl E_ints (0 : Int) own0_int n (by omega) rfl rfl ?_)
  intro w1 hown hb1 hs1
  have HO := Lib.hid hown
  have HB := Lib.hid hb1
  clear hown hb1
  go_wp2
  go_loopw [2, 8] (fun ix i wr => ∃ (j : Nat) (x : Int) (t : List Int), j ≤ n ∧ 0 ≤ x ∧ x ≤ 1000000000000 ∧ ix = .int .i64 x ∧ i = .int .i64 ((j : Int) - 1) ∧ Hid (t.length = n - j) ∧ Hid (digs size n index = digs size j x ++ t) ∧
    Hid (OnlyAt [w.heap.size] w1 wr) ∧ Hid (OwnSl [w.heap.size] wr (.slice (some ⟨w.heap.size, 0, none⟩) n n) (List.replicate j 0 ++ t))) (fun _ i _ => (intOf i + 1).toNat)
  case atStart => exact ⟨n, index, [], Nat.le_refl _, hi, hi2, rfl, rfl, by simp [Hid], by simp [Hid], OnlyAt.refl _ _, by simpa [Hid] using HO.out⟩
  case round =>
    obtain ⟨j, x, t, hj, hx, hx2, rfl, rfl, ht, hd, ho, hw⟩ := hrel
    by_cases hlt : 0 < j
    · obtain ⟨g, o', c', hv, hps, hcd, hf, hset⟩ := ownSl_int hw.out (j - 1) (by simp; omega)
      simp only [Value.slice.injEq, Option.some.injEq, Addr.mk.injEq] at hv
      obtain ⟨⟨rfl, rfl, _⟩, _, rfl⟩ := hv
      have h1 := Int.emod_nonneg x (by omega : size ≠ 0)
      have h2 := Int.emod_lt_of_pos x hs
      have h3 : 0 ≤ x / size := Int.ediv_nonneg hx (by omega)
      have h4 : x / size ≤ x := Int.ediv_le_self _ hx
      have HS := Lib.hid (hset (x % size) (i64_of _ h1 (by omega)))
      rw [dig_set _ _ _ hlt] at HS
      rw [Nat.zero_add] at hcd hf HS
      have ej : ((j : Int) - 1).toNat = j - 1 := by omega
      have e1 : 0 ≤ (j : Int) - 1 := by omega
      have e2 : (j : Int) - 1 < n := by omega
      clear hset hw hps
      go_wp2
      go_roundw
      case rel =>
        refine ⟨j - 1, x / size, x % size :: t, by omega, h3, by omega, rfl, ?_, ?_, ?_, ?_, ?_⟩
        · congr 1; omega
        · have := ht.out; simp only [Hid, List.length_cons]; omega
        · have := hd.out
          obtain ⟨k, rfl⟩ : ∃ k, j = k + 1 := ⟨j - 1, by omega⟩
          simp only [digs, List.append_assoc, List.cons_append, List.nil_append] at this
          exact this
        · exact OnlyAt.setCell ho.out (by simp) _
        · exact HS.out
      case measure => simp [intOf]; omega
    · obtain rfl : j = 0 := by omega
      go_wp2
      go_ret
      refine ⟨_, rfl, ⟨[w.heap.size], ⟨_, rfl, ?_⟩, by simp, by simp⟩, HB.out.trans (ho.out.below (by simp))⟩
      have h5 := hw.out
      have h6 := hd.out
      simp only [digs, List.nil_append] at h6
      rw [h6]
      simpa using h5
set_option maxHeartbeats 400000 in
theorem l01Digits_c (size many index : Int) (w : World) (hs : 0 < size) (hs2 : size ≤ 1000000) (hm : 0 ≤ many) (hm2 : many ≤ 1000000) (hi : 0 ≤ index) (hi2 : index ≤ 1000000000000) :
    Calls Try.prog 55 #[.int .i64 size, .int .i64 many, .int .i64 index] w fun e w' => ∃ v', e = .returned v' ∧ Fresh w.heap.size w' [v'] (digs size many.toNat index) ∧ Below w.heap.size w w' := by
  obtain ⟨n, rfl⟩ := Int.eq_ofNat_of_zero_le hm
  rw [Int.toNat_natCast]
  go_enter Try.func55, Try.ntmps55
  go_wp2_with (at_make; refine wpList_make_rep w rfl _ _ 104 rfl E_ints (0 : Int) own0_int n (by omega) rfl rfl ?_)
  intro w1 hown hb1 hs1
  have HO := Lib.hid hown
  have HB := Lib.hid hb1
  clear hown hb1
  go_wp2
  go_loopw [2, 8] (fun ix i wr => ∃ (j : Nat) (x : Int) (t : List Int), j ≤ n ∧ 0 ≤ x ∧ x ≤ 1000000000000 ∧ ix = .int .i64 x ∧ i = .int .i64 ((j : Int) - 1) ∧ Hid (t.length = n - j) ∧ Hid (digs size n index = digs size j x ++ t) ∧
    Hid (OnlyAt [w.heap.size] w1 wr) ∧ Hid (OwnSl [w.heap.size] wr (.slice (some ⟨w.heap.size, 0, none⟩) n n) (List.replicate j 0 ++ t))) (fun _ i _ => (intOf i + 1).toNat)
  case atStart => exact ⟨n, index, [], Nat.le_refl _, hi, hi2, rfl, rfl, by simp [Hid], by simp [Hid], OnlyAt.refl _ _, by simpa [Hid] using HO.out⟩
  case round =>
    obtain ⟨j, x, t, hj, hx, hx2, rfl, rfl, ht, hd, ho, hw⟩ := hrel
    by_cases hlt : 0 < j
    · obtain ⟨g, o', c', hv, hps, hcd, hf, hset⟩ := ownSl_int hw.out (j - 1) (by simp; omega)
      simp only [Value.slice.injEq, Option.some.injEq, Addr.mk.injEq] at hv
      obtain ⟨⟨rfl, rfl, _⟩, _, rfl⟩ := hv
      have h1 := Int.emod_nonneg x (by omega : size ≠ 0)
      have h2 := Int.emod_lt_of_pos x hs
      have h3 : 0 ≤ x / size := Int.ediv_nonneg hx (by omega)
      have h4 : x / size ≤ x := Int.ediv_le_self _ hx
      have HS := Lib.hid (hset (x % size) (i64_of _ h1 (by omega)))
      rw [dig_set _ _ _ hlt] at HS
      rw [Nat.zero_add] at hcd hf HS
      have ej : ((j : Int) - 1).toNat = j - 1 := by omega
      have e1 : 0 ≤ (j : Int) - 1 := by omega
      have e2 : (j : Int) - 1 < n := by omega
      clear hset hw hps
      go_wp2
      go_roundw
      case rel =>
        refine ⟨j - 1, x / size, x % size :: t, by omega, h3, by omega, rfl, ?_, ?_, ?_, ?_, ?_⟩
        · congr 1; omega
        · have := ht.out; simp only [Hid, List.length_cons]; omega
        · have := hd.out
          obtain ⟨k, rfl⟩ : ∃ k, j = k + 1 := ⟨j - 1, by omega⟩
          simp only [digs, List.append_assoc, List.cons_append, List.nil_append] at this
          exact this
        · exact OnlyAt.setCell ho.out (by simp) _
        · exact HS.out
      case measure => simp [intOf]; omega
    · obtain rfl : j = 0 := by omega
      go_wp2
      go_ret
      refine ⟨_, rfl, ⟨[w.heap.size], ⟨_, rfl, ?_⟩, by simp, by simp⟩, HB.out.trans (ho.out.below (by simp))⟩
      have h5 := hw.out
      have h6 := hd.out
      simp only [digs, List.nil_append] at h6
      rw [h6]
      simpa using h5

theorem pow_le_of {s : Int} {a b : Nat} (hs : 1 ≤ s) (h : a ≤ b) : s ^ a ≤ s ^ b := by
  induction b with
  | zero => obtain rfl : a = 0 := by omega
            exact Int.le_refl _
  | succ b ih =>
    by_cases hab : a = b + 1
    · rw [hab]; exact Int.le_refl _
    · have := ih (by omega)
      have h2 : (0 : Int) ≤ s ^ b := Int.pow_nonneg (by omega)
      calc s ^ a ≤ s ^ b := this
        _ = s ^ b * 1 := by omega
        _ ≤ s ^ b * s := Int.mul_le_mul_of_nonneg_left hs h2
        _ = s ^ (b + 1) := (Int.pow_succ _ _).symm
set_option maxHeartbeats 400000 in
theorem power_c (size many : Int) (w : World) (hs : 0 ≤ size) (hm : 0 ≤ many) (hm2 : many ≤ 1000000) (hp : size ^ many.toNat ≤ 1000000000000) :
    Calls Try.prog 64 #[.int .i64 size, .int .i64 many] w fun e w' => e = .returned (.int .i64 (size ^ many.toNat)) ∧ w = w' := by
  obtain ⟨n, rfl⟩ := Int.eq_ofNat_of_zero_le hm
  rw [Int.toNat_natCast] at hp ⊢
  go_enter Try.func64, Try.ntmps64
  go_wp2
  go_loop [5, 7] (fun p i => ∃ j : Nat, j ≤ n ∧ i = .int .i64 j ∧ ∃ q : Int, 0 ≤ q ∧ q ≤ 1000000000000 ∧ Hid (q = size ^ j) ∧ p = .int .i64 q) (fun _ i => n - (intOf i).toNat)
  case atStart => exact ⟨0, Nat.zero_le _, rfl, 1, by omega, by omega, by simp [Hid], rfl⟩
  case round =>
    obtain ⟨j, hj, rfl, q, hq0, hq1, hq, rfl⟩ := hrel
    by_cases hlt : j < n
    · have e1 : q * size = size ^ (j + 1) := by rw [hq.out, Int.pow_succ]
      have e2 : q * size ≤ 1000000000000 := by
        rcases (show size = 0 ∨ 1 ≤ size by omega) with h0 | h0
        · rw [h0]; omega
        · rw [e1]; exact Int.le_trans (pow_le_of h0 hlt) hp
      have e3 : 0 ≤ q * size := Int.mul_nonneg hq0 (by omega)
      have E1 := Lib.hid e1
      clear e1
      go_wp2
      go_round
      case rel => exact ⟨j + 1, by omega, by go_num, q * size, e3, e2, E1.out, rfl⟩
      case measure => simp [intOf]; omega
    · obtain rfl : j = n := by omega
      go_wp2
      go_ret
      exact ⟨ret_int hq.out, rfl⟩
set_option maxHeartbeats 400000 in
theorem l01Power_c (size many : Int) (w : World) (hs : 0 ≤ size) (hm : 0 ≤ many) (hm2 : many ≤ 1000000) (hp : size ^ many.toNat ≤ 1000000000000) :
    Calls Try.prog 54 #[.int .i64 size, .int .i64 many] w fun e w' => e = .returned (.int .i64 (size ^ many.toNat)) ∧ w = w' := by
  obtain ⟨n, rfl⟩ := Int.eq_ofNat_of_zero_le hm
  rw [Int.toNat_natCast] at hp ⊢
  go_enter Try.func54, Try.ntmps54
  go_wp2
  go_loop [1, 5] (fun i p => ∃ j : Nat, j ≤ n ∧ i = .int .i64 ((n : Int) - j) ∧ ∃ q : Int, 0 ≤ q ∧ q ≤ 1000000000000 ∧ Hid (q = size ^ j) ∧ p = .int .i64 q) (fun i _ => (intOf i).toNat)
  case atStart => exact ⟨0, Nat.zero_le _, by simp, 1, by omega, by omega, by simp [Hid], rfl⟩
  case round =>
    obtain ⟨j, hj, rfl, q, hq0, hq1, hq, rfl⟩ := hrel
    by_cases hlt : j < n
    · have e1 : q * size = size ^ (j + 1) := by rw [hq.out, Int.pow_succ]
      have e2 : q * size ≤ 1000000000000 := by
        rcases (show size = 0 ∨ 1 ≤ size by omega) with h0 | h0
        · rw [h0]; omega
        · rw [e1]; exact Int.le_trans (pow_le_of h0 hlt) hp
      have e3 : 0 ≤ q * size := Int.mul_nonneg hq0 (by omega)
      have E1 := Lib.hid e1
      clear e1
      go_wp2
      go_round
      case rel => exact ⟨j + 1, hlt, by go_num, q * size, e3, e2, E1.out, rfl⟩
      case measure => simp [intOf]; omega
    · obtain rfl : j = n := by omega
      go_wp2
      go_ret
      exact ⟨ret_int hq.out, rfl⟩

end Go.Proofs.Ytoblfnoaepbhfaa
