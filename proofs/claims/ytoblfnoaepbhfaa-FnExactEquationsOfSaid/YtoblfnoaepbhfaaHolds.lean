/-
  CONTRACTS: HoldsIn of the program and of the reference.
-/
import Derived.Test.YtoblfnoaepbhfaaValidS
namespace Go.Proofs.Ytoblfnoaepbhfaa
open Go.RowKit Go.Shelf
open Rep (Rd Own sz)
set_option linter.unusedSimpArgs false
set_option linter.unusedVariables false

def dotI (l vs : List Int) : Int := (List.zipWith (· * ·) l vs).sum
theorem dotI_succ {l vs : List Int} {k : Nat} (h : k < l.length) (h2 : k < vs.length) : dotI (l.take (k + 1)) (vs.take (k + 1)) = dotI (l.take k) (vs.take k) + l[k] * vs[k] := by
  unfold dotI
  rw [List.take_succ_eq_append_getElem h, List.take_succ_eq_append_getElem h2, List.zipWith_append (by simp; omega), List.sum_append]
  simp
def holdsE (p : Int) (vs : List Int) (e : Eqn) : Bool := decide (dotI e.1 vs % p = e.2)
def holdsF (s : Sys) (vs : List Int) : Bool × Int :=
  if validS s = true then (if valsOk s.1 vs s.2.1 = true then (s.2.2.all (holdsE s.1 vs), 0) else (false, 2)) else (false, 1)
theorem valsOk_get {p n : Int} {l : List Int} (h : valsOk p l n = true) : (l.length : Int) = n ∧ ∀ k (hk : k < l.length), 0 ≤ l[k] ∧ l[k] ≤ p - 1 := by
  simp only [valsOk, Bool.and_eq_true, decide_eq_true_eq, List.all_eq_true] at h
  exact ⟨h.1, fun k hk => inB_true (h.2 _ (List.getElem_mem hk))⟩
theorem mul_small {a b p : Int} (ha : 0 ≤ a ∧ a ≤ p - 1) (hb : 0 ≤ b ∧ b ≤ p - 1) (hp : p ≤ 3) : 0 ≤ a * b ∧ a * b ≤ 4 := by
  refine ⟨Int.mul_nonneg ha.1 hb.1, ?_⟩
  have h1 : a * b ≤ 2 * b := Int.mul_le_mul_of_nonneg_right (by omega) hb.1
  omega

set_option maxRecDepth 100000 in
set_option maxHeartbeats 1000000 in
theorem isTrue_c (p u : Int) (x : Eqn) (vs : List Int) (v0 v1 v2 : Value) (w : World) (hx : Rd w [v0, v1] x) (hv : Rd w [v2] vs) (hp0 : 1 ≤ p) (hp : p ≤ 3) (hu : u ≤ 1000) (he : eqnOk p u x = true) (ho : valsOk p vs u = true) :
    Calls Try.prog 68 #[.int .i64 p, .agg #[v0, v1], v2] w fun e w' => e = .returned (.bool (holdsE p vs x)) ∧ Below w.heap.size w w' := by
  obtain ⟨l, n⟩ := x
  have z := rd_cons rfl hx
  obtain ⟨a, c, rfl, hr⟩ := rd_list z.1
  obtain ⟨rfl, _⟩ := rd_i1 z.2
  obtain ⟨a', c', rfl, hr'⟩ := rd_list hv
  simp only [eqnOk, Bool.and_eq_true] at he
  obtain ⟨l1, l2⟩ := valsOk_get he.1
  obtain ⟨o1, o2⟩ := valsOk_get ho
  have HR := Lib.hid hr
  have HR' := Lib.hid hr'
  have L2 := Lib.hid l2
  have O2 := Lib.hid o2
  have HLEN := Lib.hid (show l.length = vs.length by omega)
  have hlen : l.length ≤ 1000 := by omega
  clear hx z hr hv hr' he ho l2 o2 l1 o1
  have hs := (St.start w).alloc #[.slice a l.length c, .int .i64 n] 114 rfl
  go_enter Try.func68, Try.ntmps68
  go_wp2_with fail
  go_loopw [7, 13] (fun s i wr => ∃ (k : Nat) (S : Int), k ≤ l.length ∧ s = .int .i64 S ∧ i = .int .i64 k ∧ 0 ≤ S ∧ S ≤ 4 * k ∧ wr = (w.alloc (.cells #[.slice a l.length c, .int .i64 n] 114)) ∧ Hid (S = dotI (l.take k) (vs.take k))) (fun _ i _ => l.length - (intOf i).toNat)
  case atStart => exact ⟨0, 0, Nat.zero_le _, rfl, rfl, by omega, by omega, rfl, by simp [Hid, dotI]⟩
  case round =>
    obtain ⟨k, S, hk, rfl, rfl, S0, S1, rfl, hS⟩ := hrel
    by_cases hlt : k < l.length
    · have k2 : k < vs.length := by rw [← HLEN.out]; exact hlt
      have hm := mul_small (L2.out k hlt) (O2.out k k2) hp
      have hd := Lib.hid (dotI_succ hlt k2)
      have iA := L2.out k hlt
      have iB := O2.out k k2
      obtain ⟨b1, o1, rfl, f1, _⟩ := rdSl_int HR.out k hlt
      obtain ⟨b2, o2, rfl, f2, _⟩ := rdSl_int HR'.out k k2
      have g1 : w.cell? ⟨b1, o1 + k, none⟩ = some (.int .i64 l[k]) := by simpa [List.getD, hlt] using f1
      have g2 : w.cell? ⟨b2, o2 + k, none⟩ = some (.int .i64 vs[k]) := by simpa [List.getD, k2] using f2
      have h1 := cellL (belowA w (.cells #[.slice (some ⟨b1, o1, none⟩) l.length c, .int .i64 n] 114)) g1
      have h2 := cellL (belowA w (.cells #[.slice (some ⟨b1, o1, none⟩) l.length c, .int .i64 n] 114)) g2
      clear f1 f2 g1 g2
      have kv : (k : Int) < vs.length := by omega
      generalize l[k] = A at *
      generalize vs[k] = B at *
      go_wp2_with fail
      go_roundw
      case rel => exact ⟨k + 1, S + A * B, by omega, rfl, by go_num, by omega, by omega, trivial, by simp only [Hid]; rw [hd.out, ← hS.out]⟩
      case measure => simp [intOf]; omega
    · obtain rfl : k = l.length := by omega
      have q1 := hs.cellAt 0 rfl 1 rfl
      have hp1 : p ≠ 0 := by omega
      have hT : S.tmod p = S % p := Int.tmod_eq_emod_of_nonneg S0
      have hb0 := Int.emod_nonneg S hp1
      have hb1 := Int.emod_lt_of_pos S (show 0 < p by omega)
      go_wp2_with fail
      go_quiet (fail)
      go_wp2_with fail
      go_ret
      refine ⟨ret_bool ?_, hs.bel.trans ((drewN_below _ _).mono hs.bel.size)⟩
      have h1 := hS.out
      rw [List.take_of_length_le (Nat.le_refl _), List.take_of_length_le (by rw [HLEN.out]; exact Nat.le_refl _)] at h1
      simp only [holdsE, ← h1]
      first | rfl | (rw [hT]; by_cases hq : S % p = n <;> simp [hq]) | (by_cases hq : S % p = n <;> simp [hq])
theorem holds_mod {S n p : Int} (h0 : 0 ≤ n) (h1 : n ≤ p - 1) : ((S - n) % p == 0) = decide (S % p = n) := by
  have e : (S - n) % p = 0 ↔ S % p = n := by
    rw [← Int.emod_eq_emod_iff_emod_sub_eq_zero, Int.emod_eq_of_lt h0 (by omega : n < p)]
  by_cases h : S % p = n
  · rw [decide_eq_true h, beq_iff_eq]; exact e.2 h
  · rw [decide_eq_false h, beq_eq_false_iff_ne]; exact fun h' => h (e.1 h')
set_option maxRecDepth 100000 in
set_option maxHeartbeats 1000000 in
theorem l07Holds_c (p u : Int) (x : Eqn) (vs : List Int) (b o : Nat) (v0 v1 v2 : Value) (w : World) (hx : Rd w [v0, v1] x) (hv : Rd w [v2] vs) (c0 : w.cell? ⟨b, o, none⟩ = some v0) (c1 : w.cell? ⟨b, o + 1, none⟩ = some v1) (hp0 : 1 ≤ p) (hp : p ≤ 3) (hu : u ≤ 1000) (he : eqnOk p u x = true) (ho : valsOk p vs u = true) :
    Calls Try.prog 57 #[.int .i64 p, .pointer (some ⟨b, o, none⟩), v2] w fun e w' => e = .returned (.bool (holdsE p vs x)) ∧ ∃ n, w' = w.drewN n := by
  obtain ⟨l, n⟩ := x
  have z := rd_cons rfl hx
  obtain ⟨a, c, rfl, hr⟩ := rd_list z.1
  obtain ⟨rfl, _⟩ := rd_i1 z.2
  obtain ⟨a', c', rfl, hr'⟩ := rd_list hv
  simp only [eqnOk, Bool.and_eq_true] at he
  obtain ⟨l1, l2⟩ := valsOk_get he.1
  obtain ⟨o1, o2⟩ := valsOk_get ho
  have hn := inB_true he.2
  have HR := Lib.hid hr
  have HR' := Lib.hid hr'
  have L2 := Lib.hid l2
  have O2 := Lib.hid o2
  have HLEN := Lib.hid (show l.length = vs.length by omega)
  have hlen : vs.length ≤ 1000 := by omega
  have hlen2 : l.length ≤ 1000 := by omega
  clear hx z hr hv hr' he ho l2 o2 l1 o1
  go_enter Try.func57, Try.ntmps57
  go_wp2_with fail
  go_loopw [7, 8] (fun s i wr => ∃ (k m : Nat) (S : Int), k ≤ vs.length ∧ s = .int .i64 S ∧ i = .int .i64 k ∧ 0 ≤ S ∧ S ≤ 4 * k ∧ wr = w.drewN m ∧ Hid (S = dotI (l.take k) (vs.take k))) (fun _ i _ => vs.length - (intOf i).toNat)
  case atStart => exact ⟨0, 0, 0, Nat.zero_le _, rfl, rfl, by omega, by omega, rfl, by simp [Hid, dotI]⟩
  case round =>
    obtain ⟨k, m, S, hk, rfl, rfl, S0, S1, rfl, hS⟩ := hrel
    by_cases hlt : k < vs.length
    · have k2 : k < l.length := by rw [HLEN.out]; exact hlt
      have hm := mul_small (L2.out k k2) (O2.out k hlt) hp
      have hd := Lib.hid (dotI_succ k2 hlt)
      have iA := L2.out k k2
      have iB := O2.out k hlt
      obtain ⟨b1, o1, rfl, f1, _⟩ := rdSl_int HR.out k k2
      obtain ⟨b2, o2, rfl, f2, _⟩ := rdSl_int HR'.out k hlt
      have g1 : w.cell? ⟨b1, o1 + k, none⟩ = some (.int .i64 l[k]) := by simpa [List.getD, k2] using f1
      have g2 : w.cell? ⟨b2, o2 + k, none⟩ = some (.int .i64 vs[k]) := by simpa [List.getD, hlt] using f2
      clear f1 f2
      have kv : (k : Int) < l.length := by omega
      generalize l[k] = A at *
      generalize vs[k] = B at *
      go_wp2_with fail
      go_quiet (fail)
      go_wp2_with fail
      go_roundw
      case rel => exact ⟨k + 1, _, S + A * B, by omega, rfl, by go_num, by omega, by omega, rfl, by simp only [Hid]; rw [hd.out, ← hS.out]⟩
      case measure => simp [intOf]; omega
    · obtain rfl : k = vs.length := by omega
      go_wp2_with fail
      refine (l07Mod_c _ _ _ (by omega) (by omega)).mono ?_
      rintro e w2 ⟨rfl, rfl⟩
      go_wp2_with fail
      go_ret
      refine ⟨ret_bool ?_, m, rfl⟩
      have h1 := hS.out
      rw [List.take_of_length_le (by rw [HLEN.out]; exact Nat.le_refl _), List.take_of_length_le (Nat.le_refl _)] at h1
      rw [holds_mod hn.1 hn.2]
      simp only [holdsE, ← h1]

end Go.Proofs.Ytoblfnoaepbhfaa
