/-
  CONTRACTS: slices.IndexFunc, slices.ContainsFunc with a function that is handed over.
-/
import Derived.Test.YtoblfnoaepbhfaaKinds
import Derived.Shelf.Abstract
namespace Go.Proofs.Ytoblfnoaepbhfaa
open Go.RowKit Go.Shelf
open Rep (Rd Own sz)
set_option linter.unusedSimpArgs false
set_option linter.unusedVariables false

def firstI {α : Type} (q : α → Bool) (l : List α) : Int := match l.findIdx? q with | some i => (i : Int) | none => -1
theorem firstI_at {α : Type} {q : α → Bool} {l : List α} {k : Nat} (h : k < l.length) (h0 : ∀ j (hj : j < l.length), j < k → q l[j] = false) (h1 : q l[k] = true) : firstI q l = k := by
  have : l.findIdx? q = some k := by
    rw [List.findIdx?_eq_some_iff_getElem]
    exact ⟨h, h1, fun j hj => by simpa using h0 j (by omega) hj⟩
  unfold firstI; rw [this]
theorem firstI_no {α : Type} {q : α → Bool} {l : List α} (h0 : ∀ j (hj : j < l.length), j < l.length → q l[j] = false) : firstI q l = -1 := by
  have : l.findIdx? q = none := by
    rw [List.findIdx?_eq_none_iff]
    intro x hx
    obtain ⟨j, hj, rfl⟩ := List.getElem_of_mem hx
    exact h0 j hj hj
  unfold firstI; rw [this]
theorem firstI_any {α : Type} (q : α → Bool) (l : List α) : decide (0 ≤ firstI q l) = l.any q := by
  unfold firstI
  cases h : l.findIdx? q with
  | none =>
    rw [List.findIdx?_eq_none_iff] at h
    simp
    exact h
  | some i =>
    rw [List.findIdx?_eq_some_iff_getElem] at h
    obtain ⟨h1, h2, _⟩ := h
    simp
    exact ⟨_, List.getElem_mem h1, h2⟩
theorem firstI_lo {α : Type} (q : α → Bool) (l : List α) : -1 ≤ firstI q l := by unfold firstI; split <;> omega

def PredI (g : Nat) (cb : Array Value) (w : World) (l : List Int) (q : Int → Bool) : Prop :=
  ∀ (W : World) (x : Int) (u0 : Value), Below w.heap.size w W → Rd W [u0] x → x ∈ l → Calls Try.prog g (#[u0] ++ cb) W fun e w' => e = .returned (.bool (q x)) ∧ Below W.heap.size W w'
def PredE (g : Nat) (cb : Array Value) (w : World) (l : List Eqn) (q : Eqn → Bool) : Prop :=
  ∀ (W : World) (x : Eqn) (u0 u1 : Value), Below w.heap.size w W → Rd W [u0, u1] x → x ∈ l → Calls Try.prog g (#[.agg #[u0, u1]] ++ cb) W fun e w' => e = .returned (.bool (q x)) ∧ Below W.heap.size W w'

set_option maxRecDepth 100000 in
set_option maxHeartbeats 1000000 in
theorem indexInts_c (l : List Int) (v : Value) (g : Nat) (cb : Array Value) (q : Int → Bool) (w : World) (r : Rd w [v] l)
    (eg : ∀ args w, (callFunc g args).run Try.prog w = .ok (.enter g args) w) (hby : PredI g cb w l q) :
    Calls Try.prog 155 #[v, .func (.func g) #[] cb] w fun e w' => e = .returned (.int .i64 (firstI q l)) ∧ Below w.heap.size w w' := by
  obtain ⟨a, c, rfl, h⟩ := rd_list r
  clear r
  have hb := (rdSl_len h).2
  unfold maxLen at hb
  generalize hn : l.length = n at *
  have HN := Lib.hid hn
  have HH := Lib.hid h
  have HBY := Lib.hid hby
  clear hn h hby
  go_enter Try.func155, Try.ntmps155
  go_wp2_with fail
  go_loopw [8] (fun i wr => ∃ k : Nat, k ≤ n ∧ i = .int .i64 k ∧ Hid (Below w.heap.size w wr) ∧ Hid (∀ j (hj : j < l.length), j < k → q l[j] = false)) (fun i _ => n - (intOf i).toNat)
  case atStart => exact ⟨0, Nat.zero_le _, rfl, Below.refl _ _, fun j _ hj => absurd hj (Nat.not_lt_zero _)⟩
  case round =>
    obtain ⟨k, hk, rfl, hbl, hr⟩ := hrel
    by_cases hlt : k < n
    · have k1 : k < l.length := by rw [HN.out]; exact hlt
      obtain ⟨b, o, u0, rfl, q0, hx⟩ := rdSl_one rfl (rdSl_mono hbl.out HH.out) k k1
      have HX := Lib.hid hx
      clear hx
      go_wp2_with fail
      go_at_fn g
      refine (HBY.out _ l[k] _ hbl.out HX.out (List.getElem_mem k1)).mono ?_
      rintro e w1 ⟨rfl, hb1⟩
      cases hq : q l[k] with
      | true =>
        have HQ := Lib.hid hq
        clear hq
        go_wp2_with fail
        go_ret
        exact ⟨ret_int (firstI_at k1 (fun j hj h => hr.out j hj h) HQ.out).symm, hbl.out.trans (hb1.mono hbl.out.size)⟩
      | false =>
        have HQ := Lib.hid hq
        clear hq
        go_wp2_with fail
        go_roundw
        case rel =>
          refine ⟨k + 1, by omega, by go_num, hbl.out.trans (hb1.mono hbl.out.size), ?_⟩
          intro j hj hjk
          rcases Nat.lt_or_ge j k with h | h
          · exact hr.out j hj h
          · obtain rfl : j = k := by omega
            exact HQ.out
        case measure => simp [intOf]; omega
    · obtain rfl : k = n := by omega
      go_wp2_with fail
      go_ret
      refine ⟨ret_int ?_, hbl.out⟩
      rw [firstI_no (fun j hj _ => hr.out j hj (by have := HN.out; omega))]
set_option maxRecDepth 100000 in
theorem containsInts_c (l : List Int) (v : Value) (g : Nat) (cb : Array Value) (q : Int → Bool) (w : World) (r : Rd w [v] l)
    (eg : ∀ args w, (callFunc g args).run Try.prog w = .ok (.enter g args) w) (hby : PredI g cb w l q) :
    Calls Try.prog 128 #[v, .func (.func g) #[] cb] w fun e w' => e = .returned (.bool (l.any q)) ∧ Below w.heap.size w w' := by
  obtain ⟨a, c, rfl, _⟩ := rd_list r
  have HR := Lib.hid r
  have HBY := Lib.hid hby
  clear r hby
  go_enter Try.func128, Try.ntmps128
  go_wp2_with fail
  refine (indexInts_c l _ g cb q _ HR.out eg HBY.out).mono ?_
  rintro e w1 ⟨rfl, hb1⟩
  have hlo := firstI_lo q l
  go_wp2_with fail
  go_ret
  exact ⟨ret_bool (firstI_any q l), hb1⟩

end Go.Proofs.Ytoblfnoaepbhfaa
