import Derived.Test.YtpkdiiagnplpkaaGreatKindPQm
import Derived.Test.YtpkdiiagnplpkaaGreatRelOfQm
import Derived.Test.YtpkdiiagnplpkaaGreatFailBQm
import Derived.Test.YtpkdiiagnplpkaaGreatDomBQm
set_option linter.unusedSimpArgs false
set_option linter.unusedVariables false
set_option maxHeartbeats 4000000
set_option maxRecDepth 100000
namespace Go.Proofs.YtpkdiiagnplpkaaGreat
open Go.RowKit Go.Shelf Go.IntWalk
open Rep (Rd Own sz)
theorem allLists_c (size : Int) (m : Nat) (g : Nat) (cb : Array Value) (q : List Int → Bool) (N : Nat) (w : World) (hs : 1 ≤ size) (hs2 : size ≤ 1000000) (hm2 : m ≤ 1000) (hN : size ^ m = (N : Int)) (hN2 : N ≤ 1000000)
 (eg : ∀ args w, (callFunc g args).run Tryz.prog w = .ok (.enter g args) w) (hby : RelC g cb w size m q) :
 Calls Tryz.prog 124 #[.int .i64 size, .int .i64 m, .func (.func g) #[] cb] w fun e w' => e = .returned (.bool (allL size m N q)) ∧ Below w.heap.size w w' := by
 have HBY := qH hby
 have HN := qH hN
 clear hby hN
 go_enter Tryz.func124, Tryz.ntmps124
 go_wp2_with fail
 refine (power_c size m _ (by omega) (by omega) (by omega) (by rw [Int.toNat_natCast, HN.out]; omega)).mono ?_
 rintro e w0 ⟨rfl, rfl⟩
 rw [Int.toNat_natCast, HN.out]
 go_wp2_with fail
 go_loopw [11] (fun i wr => ∃ k : Nat, k ≤ N ∧ i = .int .i64 k ∧ Hid (Below w.heap.size w wr) ∧ Hid (∀ n : Nat, n < k → q (digs size m (n : Int)) = true)) (fun i _ => N - (intOf i).toNat)
 case atStart => exact ⟨0, Nat.zero_le _, rfl, Below.refl _ _, fun n hn => absurd hn (Nat.not_lt_zero _)⟩
 case round =>
  obtain ⟨k, hk, rfl, hbl, hr⟩ := hrel
  by_cases hlt : k < N
  · have hkI : (k : Int) < N := by omega
    go_wp2_with fail
    refine (listOf_c size m k _ (by omega) (by omega) (by omega) (by omega) (by omega) (by omega)).mono ?_
    rintro e w1 ⟨v1, rfl, fr1, hb1⟩
    rw [Int.toNat_natCast] at fr1
    obtain ⟨a1, c1, e1, _⟩ := rd_list fr1.rd
    rw [digs_length] at e1
    subst e1
    have HFR := qH fr1
    have HB1 := qH (hbl.out.trans (hb1.mono hbl.out.size))
    clear fr1 hb1
    go_wp2_with fail
    go_at_fn g
    refine (HBY.out _ (digs size m k) _ HB1.out HFR.out.rd (digs_length _ _ _) (digs_mem _ (by omega) _ _)).mono ?_
    rintro e w2 ⟨rfl, hb2⟩
    have HB2 := qH (HB1.out.trans (hb2.mono HB1.out.size))
    clear hb2
    cases hq : q (digs size m k) with
    | false =>
     have H9 := qH (allL_no hlt hq)
     clear hq
     go_wp2_with fail
     go_ret
     exact ⟨ret_bool H9.out.symm, HB2.out⟩
    | true =>
     have H9 := qH (show ∀ n : Nat, n < k + 1 → q (digs size m (n : Int)) = true from fun n hn => by
      rcases Nat.lt_or_ge n k with h1 | h1
      · exact hr.out n h1
      · obtain rfl : n = k := by omega
        exact hq)
     clear hq
     go_wp2_with fail
     go_roundw
     case rel => exact ⟨k + 1, by omega, by go_num, HB2.out, H9.out⟩
     case measure => simp [intOf]; omega
  · obtain rfl : k = N := by omega
    have hnl : ¬ ((k : Int) < k) := by omega
    have H9 := qH (allL_yes hr.out)
    go_wp2_with fail
    go_ret
    exact ⟨ret_bool H9.out.symm, hbl.out⟩
end Go.Proofs.YtpkdiiagnplpkaaGreat
