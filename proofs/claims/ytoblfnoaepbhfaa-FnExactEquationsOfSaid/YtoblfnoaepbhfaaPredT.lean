/-
  CONTRACTS: slices.IndexFunc, slices.ContainsFunc at lists, relations, constraints.
-/
import Derived.Test.YtoblfnoaepbhfaaPred
namespace Go.Proofs.Ytoblfnoaepbhfaa
open Go.RowKit Go.Shelf
open Rep (Rd Own sz)
set_option linter.unusedSimpArgs false
set_option linter.unusedVariables false

def PredL (g : Nat) (cb : Array Value) (w : World) (l : List (List Int)) (q : List Int → Bool) : Prop :=
  ∀ (W : World) (x : List Int) (u0 : Value), Below w.heap.size w W → Rd W [u0] x → x ∈ l → Calls Try.prog g (#[u0] ++ cb) W fun e w' => e = .returned (.bool (q x)) ∧ Below W.heap.size W w'
def PredRl (g : Nat) (cb : Array Value) (w : World) (l : List RelT) (q : RelT → Bool) : Prop :=
  ∀ (W : World) (x : RelT) (u0 u1 : Value), Below w.heap.size w W → Rd W [u0, u1] x → x ∈ l → Calls Try.prog g (#[.agg #[u0, u1]] ++ cb) W fun e w' => e = .returned (.bool (q x)) ∧ Below W.heap.size W w'
def PredC (g : Nat) (cb : Array Value) (w : World) (l : List OpT) (q : OpT → Bool) : Prop :=
  ∀ (W : World) (x : OpT) (u0 u1 : Value), Below w.heap.size w W → Rd W [u0, u1] x → x ∈ l → Calls Try.prog g (#[.agg #[u0, u1]] ++ cb) W fun e w' => e = .returned (.bool (q x)) ∧ Below W.heap.size W w'

set_option maxRecDepth 100000 in
set_option maxHeartbeats 1000000 in
theorem indexLists_c (l : List (List Int)) (v : Value) (g : Nat) (cb : Array Value) (q : (List Int) → Bool) (w : World) (r : Rd w [v] l)
    (eg : ∀ args w, (callFunc g args).run Try.prog w = .ok (.enter g args) w) (hby : PredL g cb w l q) :
    Calls Try.prog 97 #[v, .func (.func g) #[] cb] w fun e w' => e = .returned (.int .i64 (firstI q l)) ∧ Below w.heap.size w w' := by
  obtain ⟨a, c, rfl, h⟩ := rd_list r
  clear r
  have hb := (rdSl_len h).2
  unfold maxLen at hb
  generalize hn : l.length = n at *
  have HN := Lib.hid hn
  have HH := Lib.hid h
  have HBY := Lib.hid hby
  clear hn h hby
  go_enter Try.func97, Try.ntmps97
  go_wp2_with fail
  go_loopw [8] (fun i wr => ∃ k : Nat, k ≤ n ∧ i = .int .i64 k ∧ Hid (Below w.heap.size w wr) ∧ Hid (∀ j (hj : j < l.length), j < k → q l[j] = false)) (fun i _ => n - (intOf i).toNat)
  case atStart => exact ⟨0, Nat.zero_le _, rfl, Below.refl _ _, fun j _ hj => absurd hj (Nat.not_lt_zero _)⟩
  case round =>
    obtain ⟨k, hk, rfl, hbl, hr⟩ := hrel
    by_cases hlt : k < n
    · have k1 : k < l.length := by rw [HN.out]; exact hlt
      obtain ⟨b, o, u0, rfl, q0, hx⟩ := rdSl_one rfl (rdSl_mono hbl.out HH.out) k k1
      have HX := Lib.hid hx
      clear hx
      go_wp2_with fail
      go_at_fn g
      refine (HBY.out _ l[k] _ hbl.out HX.out (List.getElem_mem k1)).mono ?_
      rintro e w1 ⟨rfl, hb1⟩
      cases hq : q l[k] with
      | true =>
        have HQ := Lib.hid hq
        clear hq
        go_wp2_with fail
        go_ret
        exact ⟨ret_int (firstI_at k1 (fun j hj h => hr.out j hj h) HQ.out).symm, hbl.out.trans (hb1.mono hbl.out.size)⟩
      | false =>
        have HQ := Lib.hid hq
        clear hq
        go_wp2_with fail
        go_roundw
        case rel =>
          refine ⟨k + 1, by omega, by go_num, hbl.out.trans (hb1.mono hbl.out.size), ?_⟩
          intro j hj hjk
          rcases Nat.lt_or_ge j k with h | h
          · exact hr.out j hj h
          · obtain rfl : j = k := by omega
            exact HQ.out
        case measure => simp [intOf]; omega
    · obtain rfl : k = n := by omega
      go_wp2_with fail
      go_ret
      refine ⟨ret_int ?_, hbl.out⟩
      rw [firstI_no (fun j hj _ => hr.out j hj (by have := HN.out; omega))]
set_option maxRecDepth 100000 in
set_option maxHeartbeats 1000000 in
theorem indexRels_c (l : List (RelT)) (v : Value) (g : Nat) (cb : Array Value) (q : (RelT) → Bool) (w : World) (r : Rd w [v] l)
    (eg : ∀ args w, (callFunc g args).run Try.prog w = .ok (.enter g args) w) (hby : PredRl g cb w l q) :
    Calls Try.prog 159 #[v, .func (.func g) #[] cb] w fun e w' => e = .returned (.int .i64 (firstI q l)) ∧ Below w.heap.size w w' := by
  obtain ⟨a, c, rfl, h⟩ := rd_list r
  clear r
  have hb := (rdSl_len h).2
  unfold maxLen at hb
  generalize hn : l.length = n at *
  have HN := Lib.hid hn
  have HH := Lib.hid h
  have HBY := Lib.hid hby
  clear hn h hby
  go_enter Try.func159, Try.ntmps159
  go_wp2_with fail
  go_loopw [8] (fun i wr => ∃ k : Nat, k ≤ n ∧ i = .int .i64 k ∧ Hid (Below w.heap.size w wr) ∧ Hid (∀ j (hj : j < l.length), j < k → q l[j] = false)) (fun i _ => n - (intOf i).toNat)
  case atStart => exact ⟨0, Nat.zero_le _, rfl, Below.refl _ _, fun j _ hj => absurd hj (Nat.not_lt_zero _)⟩
  case round =>
    obtain ⟨k, hk, rfl, hbl, hr⟩ := hrel
    by_cases hlt : k < n
    · have k1 : k < l.length := by rw [HN.out]; exact hlt
      obtain ⟨b, o, u0, u1, rfl, q0, q1, hx⟩ := rdSl_two rfl (rdSl_mono hbl.out HH.out) k k1
      have HX := Lib.hid hx
      clear hx
      go_wp2_with fail
      go_at_fn g
      refine (HBY.out _ l[k] _ _ hbl.out HX.out (List.getElem_mem k1)).mono ?_
      rintro e w1 ⟨rfl, hb1⟩
      cases hq : q l[k] with
      | true =>
        have HQ := Lib.hid hq
        clear hq
        go_wp2_with fail
        go_ret
        exact ⟨ret_int (firstI_at k1 (fun j hj h => hr.out j hj h) HQ.out).symm, hbl.out.trans (hb1.mono hbl.out.size)⟩
      | false =>
        have HQ := Lib.hid hq
        clear hq
        go_wp2_with fail
        go_roundw
        case rel =>
          refine ⟨k + 1, by omega, by go_num, hbl.out.trans (hb1.mono hbl.out.size), ?_⟩
          intro j hj hjk
          rcases Nat.lt_or_ge j k with h | h
          · exact hr.out j hj h
          · obtain rfl : j = k := by omega
            exact HQ.out
        case measure => simp [intOf]; omega
    · obtain rfl : k = n := by omega
      go_wp2_with fail
      go_ret
      refine ⟨ret_int ?_, hbl.out⟩
      rw [firstI_no (fun j hj _ => hr.out j hj (by have := HN.out; omega))]
set_option maxRecDepth 100000 in
set_option maxHeartbeats 1000000 in
theorem indexCons_c (l : List (OpT)) (v : Value) (g : Nat) (cb : Array Value) (q : (OpT) → Bool) (w : World) (r : Rd w [v] l)
    (eg : ∀ args w, (callFunc g args).run Try.prog w = .ok (.enter g args) w) (hby : PredC g cb w l q) :
    Calls Try.prog 147 #[v, .func (.func g) #[] cb] w fun e w' => e = .returned (.int .i64 (firstI q l)) ∧ Below w.heap.size w w' := by
  obtain ⟨a, c, rfl, h⟩ := rd_list r
  clear r
  have hb := (rdSl_len h).2
  unfold maxLen at hb
  generalize hn : l.length = n at *
  have HN := Lib.hid hn
  have HH := Lib.hid h
  have HBY := Lib.hid hby
  clear hn h hby
  go_enter Try.func147, Try.ntmps147
  go_wp2_with fail
  go_loopw [8] (fun i wr => ∃ k : Nat, k ≤ n ∧ i = .int .i64 k ∧ Hid (Below w.heap.size w wr) ∧ Hid (∀ j (hj : j < l.length), j < k → q l[j] = false)) (fun i _ => n - (intOf i).toNat)
  case atStart => exact ⟨0, Nat.zero_le _, rfl, Below.refl _ _, fun j _ hj => absurd hj (Nat.not_lt_zero _)⟩
  case round =>
    obtain ⟨k, hk, rfl, hbl, hr⟩ := hrel
    by_cases hlt : k < n
    · have k1 : k < l.length := by rw [HN.out]; exact hlt
      obtain ⟨b, o, u0, u1, rfl, q0, q1, hx⟩ := rdSl_two rfl (rdSl_mono hbl.out HH.out) k k1
      have HX := Lib.hid hx
      clear hx
      go_wp2_with fail
      go_at_fn g
      refine (HBY.out _ l[k] _ _ hbl.out HX.out (List.getElem_mem k1)).mono ?_
      rintro e w1 ⟨rfl, hb1⟩
      cases hq : q l[k] with
      | true =>
        have HQ := Lib.hid hq
        clear hq
        go_wp2_with fail
        go_ret
        exact ⟨ret_int (firstI_at k1 (fun j hj h => hr.out j hj h) HQ.out).symm, hbl.out.trans (hb1.mono hbl.out.size)⟩
      | false =>
        have HQ := Lib.hid hq
        clear hq
        go_wp2_with fail
        go_roundw
        case rel =>
          refine ⟨k + 1, by omega, by go_num, hbl.out.trans (hb1.mono hbl.out.size), ?_⟩
          intro j hj hjk
          rcases Nat.lt_or_ge j k with h | h
          · exact hr.out j hj h
          · obtain rfl : j = k := by omega
            exact HQ.out
        case measure => simp [intOf]; omega
    · obtain rfl : k = n := by omega
      go_wp2_with fail
      go_ret
      refine ⟨ret_int ?_, hbl.out⟩
      rw [firstI_no (fun j hj _ => hr.out j hj (by have := HN.out; omega))]
set_option maxRecDepth 100000 in
theorem containsLists_c (l : List (List Int)) (v : Value) (g : Nat) (cb : Array Value) (q : (List Int) → Bool) (w : World) (r : Rd w [v] l)
    (eg : ∀ args w, (callFunc g args).run Try.prog w = .ok (.enter g args) w) (hby : PredL g cb w l q) :
    Calls Try.prog 66 #[v, .func (.func g) #[] cb] w fun e w' => e = .returned (.bool (l.any q)) ∧ Below w.heap.size w w' := by
  obtain ⟨a, c, rfl, _⟩ := rd_list r
  have HR := Lib.hid r
  have HBY := Lib.hid hby
  clear r hby
  go_enter Try.func66, Try.ntmps66
  go_wp2_with fail
  refine (indexLists_c l _ g cb q _ HR.out eg HBY.out).mono ?_
  rintro e w1 ⟨rfl, hb1⟩
  have hlo := firstI_lo q l
  go_wp2_with fail
  go_ret
  exact ⟨ret_bool (firstI_any q l), hb1⟩
set_option maxRecDepth 100000 in
theorem containsRels_c (l : List (RelT)) (v : Value) (g : Nat) (cb : Array Value) (q : (RelT) → Bool) (w : World) (r : Rd w [v] l)
    (eg : ∀ args w, (callFunc g args).run Try.prog w = .ok (.enter g args) w) (hby : PredRl g cb w l q) :
    Calls Try.prog 145 #[v, .func (.func g) #[] cb] w fun e w' => e = .returned (.bool (l.any q)) ∧ Below w.heap.size w w' := by
  obtain ⟨a, c, rfl, _⟩ := rd_list r
  have HR := Lib.hid r
  have HBY := Lib.hid hby
  clear r hby
  go_enter Try.func145, Try.ntmps145
  go_wp2_with fail
  refine (indexRels_c l _ g cb q _ HR.out eg HBY.out).mono ?_
  rintro e w1 ⟨rfl, hb1⟩
  have hlo := firstI_lo q l
  go_wp2_with fail
  go_ret
  exact ⟨ret_bool (firstI_any q l), hb1⟩
set_option maxRecDepth 100000 in
theorem containsCons_c (l : List (OpT)) (v : Value) (g : Nat) (cb : Array Value) (q : (OpT) → Bool) (w : World) (r : Rd w [v] l)
    (eg : ∀ args w, (callFunc g args).run Try.prog w = .ok (.enter g args) w) (hby : PredC g cb w l q) :
    Calls Try.prog 113 #[v, .func (.func g) #[] cb] w fun e w' => e = .returned (.bool (l.any q)) ∧ Below w.heap.size w w' := by
  obtain ⟨a, c, rfl, _⟩ := rd_list r
  have HR := Lib.hid r
  have HBY := Lib.hid hby
  clear r hby
  go_enter Try.func113, Try.ntmps113
  go_wp2_with fail
  refine (indexCons_c l _ g cb q _ HR.out eg HBY.out).mono ?_
  rintro e w1 ⟨rfl, hb1⟩
  have hlo := firstI_lo q l
  go_wp2_with fail
  go_ret
  exact ⟨ret_bool (firstI_any q l), hb1⟩

end Go.Proofs.Ytoblfnoaepbhfaa
