/-
  CONTRACTS: ValidSystem of the program and of the reference.
-/
import Derived.Test.YtoblfnoaepbhfaaPred
import Derived.Test.YtoblfnoaepbhfaaBase
import Derived.Deep.RegionHeld3
namespace Go.Proofs.Ytoblfnoaepbhfaa
open Go.RowKit Go.Shelf
open Rep (Rd Own sz)
set_option linter.unusedSimpArgs false
set_option linter.unusedVariables false

def valsOk (size : Int) (l : List Int) (n : Int) : Bool := decide ((l.length : Int) = n) && l.all (fun a => inB a 0 (size - 1))
def eqnOk (p u : Int) (e : Eqn) : Bool := valsOk p e.1 u && inB e.2 0 (p - 1)
def validS (s : Sys) : Bool := isPr s.1 && inB s.2.1 1 12 && decide (s.2.2.length ≤ 24) && s.2.2.all (eqnOk s.1 s.2.1)
theorem all_of_any {α : Type} (l : List α) (q : α → Bool) : (!l.any fun a => !q a) = l.all q := by
  induction l with
  | nil => rfl
  | cons x xs ih => simp [← ih]

theorem validS_get {p u : Int} {l : List Eqn} (h : validS (p, u, l) = true) : (p = 2 ∨ p = 3) ∧ (1 ≤ u ∧ u ≤ 12) ∧ l.length ≤ 24 ∧ ∀ e, e ∈ l → eqnOk p u e = true := by
  simp only [validS, Bool.and_eq_true, decide_eq_true_eq, List.all_eq_true] at h
  exact ⟨isPr_true h.1.1.1, inB_true h.1.1.2, h.1.2, h.2⟩
/-- Valid but for the number of equations. -/
def wideS (s : Sys) : Bool := isPr s.1 && inB s.2.1 1 12 && decide (s.2.2.length ≤ 1000) && s.2.2.all (eqnOk s.1 s.2.1)
theorem wideS_get {p u : Int} {l : List Eqn} (h : wideS (p, u, l) = true) : (p = 2 ∨ p = 3) ∧ (1 ≤ u ∧ u ≤ 12) ∧ l.length ≤ 1000 ∧ ∀ e, e ∈ l → eqnOk p u e = true := by
  simp only [wideS, Bool.and_eq_true, decide_eq_true_eq, List.all_eq_true] at h
  exact ⟨isPr_true h.1.1.1, inB_true h.1.1.2, h.1.2, h.2⟩
theorem wideS_of {s : Sys} (h : validS s = true) : wideS s = true := by
  simp only [validS, wideS, Bool.and_eq_true, decide_eq_true_eq] at h ⊢
  exact ⟨⟨h.1.1, by omega⟩, h.2⟩

set_option maxHeartbeats 400000 in
theorem isValue_c (size v : Int) (w : World) (h0 : -1000 ≤ size) (h1 : size ≤ 1000000000) :
    Calls Try.prog 130 #[.int .i64 size, .int .i64 v] w fun e w' => e = .returned (.bool (inB v 0 (size - 1))) ∧ w = w' := by
  go_enter Try.func130, Try.ntmps130
  go_wp2_with fail
  refine (within_c _ _ _ _).mono ?_
  rintro e w1 ⟨rfl, rfl⟩
  go_wp2_with fail
  go_ret
  exact ⟨rfl, rfl⟩
set_option maxHeartbeats 400000 in
theorem areValues1_by (size : Int) (b : Nat) (w : World) (l : List Int) (h0 : -1000 ≤ size) (h1 : size ≤ 1000000000) (hc : w.cell? ⟨b, 0, none⟩ = some (.int .i64 size)) :
    PredI 129 #[.pointer (some ⟨b, 0, none⟩)] w l (fun a => !inB a 0 (size - 1)) := by
  intro W x u0 hb hr _
  obtain ⟨rfl, _⟩ := rd_i1 hr
  have hc' := cellL hb hc
  show Calls Try.prog 129 #[_, .pointer (some ⟨b, 0, none⟩)] W _
  go_enter Try.func129, Try.ntmps129
  go_wp2_with fail
  refine (isValue_c size x _ h0 h1).mono ?_
  rintro e w1 ⟨rfl, rfl⟩
  go_wp2_with fail
  go_ret
  exact ⟨rfl, Below.refl _ _⟩
set_option maxRecDepth 100000 in
set_option maxHeartbeats 1000000 in
theorem areValues_c (size : Int) (l : List Int) (v : Value) (n : Int) (w : World) (r : Rd w [v] l) (h0 : -1000 ≤ size) (h1 : size ≤ 1000000000) :
    Calls Try.prog 92 #[.int .i64 size, v, .int .i64 n] w fun e w' => e = .returned (.bool (valsOk size l n)) ∧ Below w.heap.size w w' := by
  obtain ⟨a, c, rfl, hr⟩ := rd_list r
  have hb := (rdSl_len hr).2
  unfold maxLen at hb
  have HR := Lib.hid r
  clear r hr
  have hs := (St.start w).alloc #[.int .i64 size] 2 rfl
  have eg : ∀ args w, (callFunc 129 args).run Try.prog w = .ok (.enter 129 args) w := enters_of Try.func129 (by kernel_rfl) rfl
  by_cases hn : (l.length : Int) = n
  · have hn1 : ((l.length : Int) == n) = true := by simpa using hn
    have HN := Lib.hid hn
    clear hn
    go_enter Try.func92, Try.ntmps92
    go_wp2_with fail
    refine (containsInts_c l _ 129 _ _ _ (Rd.mono HR.out hs.bel) eg (areValues1_by size w.heap.size _ l h0 h1 (hs.cellAt 0 rfl 0 rfl))).mono ?_
    rintro e w1 ⟨rfl, hb1⟩
    go_wp2_with fail
    go_ret
    refine ⟨ret_bool ?_, (hs.step hb1).bel⟩
    unfold valsOk
    rw [decide_eq_true HN.out, Bool.true_and, ← all_of_any]
  · have hn1 : ((l.length : Int) == n) = false := by simpa using hn
    have HN := Lib.hid hn
    clear hn
    go_enter Try.func92, Try.ntmps92
    go_wp2_with fail
    go_ret
    refine ⟨ret_bool ?_, hs.bel⟩
    unfold valsOk
    rw [decide_eq_false HN.out, Bool.false_and]

end Go.Proofs.Ytoblfnoaepbhfaa
