/-
  CONTRACTS: small functions on rows: the first number other than 0; none.
-/
import Derived.Test.YtkbeihkjhmillaaPred
import Derived.Test.YtkbeihkjhmillaaBase
namespace Go.Proofs.Ytkbeihkjhmillaa
open Go.RowKit Go.Shelf
open Rep (Rd Own sz)
set_option linter.unusedSimpArgs false
set_option linter.unusedVariables false

set_option maxRecDepth 100000 in
set_option maxHeartbeats 1000000 in
theorem l07First_c (l : List Int) (v : Value) (w : World) (r : Rd w [v] l) :
    Calls Try.prog 74 #[v] w fun e w' => e = .returned (.int .i64 (firstI (fun a => a != 0) l)) ∧ w = w' := by
  obtain ⟨a, c, rfl, h⟩ := rd_list r
  have hb := (rdSl_len h).2
  unfold maxLen at hb
  have HR := Lib.hid h
  clear r h
  go_enter Try.func74, Try.ntmps74
  go_wp2_with fail
  go_loopw [3] (fun i wr => ∃ k : Nat, k ≤ l.length ∧ i = .int .i64 k ∧ wr = w ∧ Hid (∀ j (hj : j < l.length), j < k → (l[j] != 0) = false)) (fun i _ => l.length - (intOf i).toNat)
  case atStart => exact ⟨0, Nat.zero_le _, rfl, rfl, fun j _ hj => absurd hj (Nat.not_lt_zero _)⟩
  case round =>
    obtain ⟨k, hk, rfl, rfl, hr⟩ := hrel
    by_cases hlt : k < l.length
    · obtain ⟨b', o', rfl, hc, _⟩ := rdSl_int HR.out k hlt
      have hc' : wr.cell? ⟨b', o' + k, none⟩ = some (.int .i64 l[k]) := by simpa [List.getD, hlt] using hc
      clear hc
      cases hq : (l[k] != 0) with
      | true =>
        have HQ := Lib.hid hq
        go_wp2_with fail
        go_ret
        exact ⟨ret_int (firstI_at (q := fun a => a != 0) hlt (fun j hj h => hr.out j hj h) HQ.out).symm, rfl⟩
      | false =>
        have HQ := Lib.hid hq
        go_wp2_with fail
        go_roundw
        case rel =>
          refine ⟨k + 1, by omega, by go_num, trivial, ?_⟩
          intro j hj hjk
          rcases Nat.lt_or_ge j k with h | h
          · exact hr.out j hj h
          · obtain rfl : j = k := by omega
            exact HQ.out
        case measure => simp [intOf]; omega
    · obtain rfl : k = l.length := by omega
      go_wp2_with fail
      go_ret
      refine ⟨ret_int ?_, rfl⟩
      rw [firstI_no (q := fun a => a != 0) (fun j hj _ => hr.out j hj hj)]

end Go.Proofs.Ytkbeihkjhmillaa
