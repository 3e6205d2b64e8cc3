/-
  CONTRACTS of the laws' functions on types: sz. (Printed by wip/gentypes.py.)
-/
import Derived.Test.YtkbeihkjhmillaaPut
import Derived.Test.YtkbeihkjhmillaaInts
namespace Go.Proofs.Ytkbeihkjhmillaa
open Go.RowKit
open Rep (Rd Own sz)
set_option linter.unusedSimpArgs false
set_option linter.unusedVariables false


abbrev Vdct := Int × List Int × List (Int × Int × Int) × List (Int × Int × Int) × List Int
theorem rd_i1 {w : World} {v : Value} {n : Int} (h : Rd w [v] n) : v = .int .i64 n ∧ I64 n := ⟨by simpa using h.1, h.2⟩
/-- What sz takes off the budget: all lengths. -/
def cL {α : Type} (c : α → Nat) (l : List α) : Nat := l.length + (l.map c).sum
def sumTo {α : Type} (c : α → Nat) (l : List α) (j : Nat) : Nat := ((l.take j).map c).sum
theorem sumTo_succ {α : Type} (c : α → Nat) (l : List α) (j : Nat) (h : j < l.length) : sumTo c l (j + 1) = sumTo c l j + c l[j] := by
  rw [sumTo, sumTo, List.take_succ_eq_append_getElem h, List.map_append, List.sum_append]; rfl
theorem sumTo_all {α : Type} (c : α → Nat) (l : List α) : sumTo c l l.length = (l.map c).sum := by simp [sumTo]
theorem sumTo_le {α : Type} (c : α → Nat) (l : List α) (j : Nat) : sumTo c l j ≤ (l.map c).sum := by
  have : (l.map c).sum = ((l.take j).map c).sum + ((l.drop j).map c).sum := by rw [← List.sum_append, ← List.map_append, List.take_append_drop]
  unfold sumTo; omega
theorem cL_mem {α : Type} (c : α → Nat) (l : List α) (j : Nat) (h : j < l.length) : c l[j] + l.length ≤ cL c l := by
  have h1 := sumTo_succ c l j h
  have h2 := sumTo_le c l (j + 1)
  unfold cL; omega
theorem less_cases (L : Int) (c : Nat) : (less L c = -1 ∧ L - c < 0) ∨ (less L c = L - c ∧ 0 ≤ L - c) := by
  unfold less; split
  · exact .inl ⟨rfl, by assumption⟩
  · exact .inr ⟨rfl, by omega⟩
theorem less_no {L : Int} {c : Nat} (h : L - c < 0) : less L c = -1 := by unfold less; rw [if_pos h]
theorem less_yes {L : Int} {c : Nat} (h : 0 ≤ L - c) : less L c = L - c := by unfold less; rw [if_neg (by omega)]
theorem rdSl_four {α : Type} [Rep α] (hα : sz α = 4) {w : World} {a : Option Addr} {c : Nat} {l : List α} (h : RdSl w a c l) (i : Nat) (hi : i < l.length) :
    ∃ b o v0 v1 v2 v3, a = some ⟨b, o, none⟩ ∧ w.cell? ⟨b, o + i * 4, none⟩ = some v0 ∧ w.cell? ⟨b, o + i * 4 + 1, none⟩ = some v1 ∧ w.cell? ⟨b, o + i * 4 + 2, none⟩ = some v2 ∧ w.cell? ⟨b, o + i * 4 + 3, none⟩ = some v3 ∧ Rd w [v0, v1, v2, v3] l[i] := by
  obtain ⟨b, o, vs, ha, hr, hc⟩ := h.2.2 i hi
  have hl := Rep.rd_len hr
  rw [hα] at hl hc
  match vs, hl with
  | [v0, v1, v2, v3], _ =>
    exact ⟨b, o, v0, v1, v2, v3, ha, by have := hc 0 (by simp); simpa using this, by have := hc 1 (by simp); simpa using this, by have := hc 2 (by simp); simpa using this, by have := hc 3 (by simp); simpa using this, hr⟩

def cost_Int64SS : List (List Int) → Nat := cL List.length
def cost_Equation (x : Eqn) : Nat := List.length (x.1)
def cost_Op (x : OpT) : Nat := List.length (x.2)
def cost_Con (x : OpT) : Nat := List.length (x.2)
def cost_Rel (x : RelT) : Nat := cost_Int64SS (x.2)
def cost_EquationS : List (Eqn) → Nat := cL cost_Equation
def cost_OpS : List (OpT) → Nat := cL cost_Op
def cost_ConS : List (OpT) → Nat := cL cost_Con
def cost_RelS : List (RelT) → Nat := cL cost_Rel
def cost_ArcStepS : List ((Int × Int × Int)) → Nat := List.length
def cost_PairStepS : List ((Int × Int × Int)) → Nat := List.length
def cost_LineS : List ((Int × Int × Int × Int)) → Nat := List.length
def cost_System (x : Sys) : Nat := cost_EquationS (x.2.2)
def cost_Template (x : Tmpl) : Nat := cost_RelS (x.2)
def cost_Instance (x : Inst) : Nat := cost_ConS (x.2)
def cost_Verdict (x : Vdct) : Nat := List.length (x.2.1) + cost_ArcStepS (x.2.2.1) + cost_PairStepS (x.2.2.2.1) + List.length (x.2.2.2.2)

theorem szInt64S_b (l : List Int) (v : Value) (left : Int) (w : World) (r : Rd w [v] l) (h0 : 0 ≤ left) (h1 : left ≤ 1048576) :
    Calls Try.prog 90 #[v, .int .i64 left] w fun e w' => e = .returned (.int .i64 (less left (l.length : Nat))) ∧ Below w.heap.size w w' :=
  (szInt64S_c l v left w r h0 h1).mono fun e w' ⟨he, hw⟩ => ⟨he, hw ▸ Below.refl _ _⟩
set_option maxRecDepth 100000 in
set_option maxHeartbeats 1000000 in
theorem szEquation_b (x : Eqn) (v0 v1 : Value) (left : Int) (w : World) (hx : Rd w [v0, v1] x) (h0 : 0 ≤ left) (h1 : left ≤ 1048576) :
    Calls Try.prog 35 #[.agg #[v0, v1], .int .i64 left] w fun e w' => e = .returned (.int .i64 (less left (cost_Equation x : Nat))) ∧ Below w.heap.size w w' := by
  obtain ⟨x0, x1⟩ := x
  have tx0 := rd_cons rfl hx
  have Rx0 := Lib.hid tx0.1
  obtain ⟨ax0, cx0, rfl, _⟩ := rd_list Rx0.out
  obtain ⟨rfl, Ix1⟩ := rd_i1 tx0.2
  clear hx tx0
  have hs := (St.start w).alloc #[.slice ax0 x0.length cx0, .int .i64 x1] 45 rfl
  go_enter Try.func35, Try.ntmps35
  go_wp2_with fail
  refine (szInt64S_b x0 _ (left) _ (Rd.mono Rx0.out hs.bel) (by omega) (by omega)).mono ?_
  rintro e w1 ⟨rfl, hb1⟩
  have hs1 := hs.step hb1
  rcases less_cases (left) (List.length x0) with ⟨e1, g0⟩ | ⟨e1, g0⟩
  · rw [e1]
    clear e1
    go_wp2_with fail
    go_ret
    exact ⟨ret_int (less_no (by simp only [cost_Equation]; omega)).symm, hs1.bel⟩
  · rw [e1]
    clear e1
    go_wp2_with fail
    go_ret
    exact ⟨ret_int (by rw [less_yes (by simp only [cost_Equation]; omega)] <;> (simp only [cost_Equation] <;> omega)), hs1.bel⟩
set_option maxRecDepth 100000 in
set_option maxHeartbeats 1000000 in
theorem szEquationS_b (l : List (Eqn)) (v : Value) (left : Int) (w : World) (r : Rd w [v] l) (h0 : 0 ≤ left) (h1 : left ≤ 1048576) :
    Calls Try.prog 61 #[v, .int .i64 left] w fun e w' => e = .returned (.int .i64 (less left (cost_EquationS l : Nat))) ∧ Below w.heap.size w w' := by
  obtain ⟨a, c, rfl, h⟩ := rd_list r
  have hb := (rdSl_len h).2
  unfold maxLen at hb
  clear r
  generalize hn : l.length = n at *
  have HN := Lib.hid hn
  have HH := Lib.hid h
  clear hn h
  by_cases hl : left - n < 0
  · go_enter Try.func61, Try.ntmps61
    go_wp2_with fail
    go_ret
    refine ⟨ret_int (less_no ?_).symm, Below.refl _ _⟩
    unfold cost_EquationS cL
    rw [HN.out]; omega
  · go_enter Try.func61, Try.ntmps61
    go_wp2_with fail
    go_loopw [1, 5] (fun lf i wr => ∃ (j : Nat) (L : Int), j ≤ n ∧ i = .int .i64 j ∧ lf = .int .i64 L ∧ 0 ≤ L ∧ L ≤ 1048576 ∧ Hid (L = left - n - (sumTo cost_Equation l j : Nat)) ∧ Hid (Below w.heap.size w wr)) (fun _ i _ => n - (intOf i).toNat)
    case atStart => exact ⟨0, _, Nat.zero_le _, rfl, rfl, by omega, by omega, by simp [Hid, sumTo], Below.refl _ _⟩
    case round =>
      obtain ⟨j, L, hj, rfl, rfl, hL0, hL1, hL, hbl⟩ := hrel
      by_cases hlt : j < n
      · have hjl : j < l.length := by rw [HN.out]; exact hlt
        obtain ⟨b, o, u0, u1, rfl, q0, q1, hx⟩ := rdSl_two rfl (rdSl_mono hbl.out HH.out) j hjl
        have HX := Lib.hid hx
        have hs := sumTo_succ cost_Equation l j hjl
        have hle := sumTo_le cost_Equation l (j + 1)
        generalize hcv : cost_Equation l[j] = cv at hs
        have HC := Lib.hid hcv
        have HS := Lib.hid hs
        have HLe := Lib.hid hle
        clear hx hs hle hcv
        go_wp2_with fail
        refine (szEquation_b l[j] _ _ L _ HX.out hL0 hL1).mono ?_
        rintro e w1 ⟨rfl, hb1⟩
        rw [HC.out]
        rcases less_cases L cv with ⟨e1, g1⟩ | ⟨e1, g1⟩
        · rw [e1]
          clear e1
          go_wp2_with fail
          go_ret
          refine ⟨ret_int (less_no ?_).symm, hbl.out.trans (hb1.mono hbl.out.size)⟩
          have := hL.out; have := HS.out; have := HLe.out; have := HN.out
          unfold cost_EquationS cL
          omega
        · rw [e1]
          clear e1
          go_wp2_with fail
          go_roundw
          case rel =>
            refine ⟨j + 1, L - cv, by omega, by go_num, rfl, by omega, by omega, ?_, hbl.out.trans (hb1.mono hbl.out.size)⟩
            have := hL.out; have := HS.out
            simp only [Hid]; omega
          case measure => simp [intOf]; omega
      · obtain rfl : j = n := by omega
        go_wp2_with fail
        go_ret
        refine ⟨ret_int ?_, hbl.out⟩
        have h2 := hL.out
        have h3 := sumTo_all cost_Equation l
        rw [HN.out] at h3
        have e3 : (cost_EquationS l : Int) = j + (sumTo cost_Equation l j : Nat) := by
          unfold cost_EquationS cL
          rw [h3, HN.out]; omega
        rw [less_yes (by omega)]; omega
set_option maxRecDepth 100000 in
set_option maxHeartbeats 1000000 in
theorem szSystem_b (x : Sys) (v0 v1 v2 : Value) (left : Int) (w : World) (hx : Rd w [v0, v1, v2] x) (h0 : 0 ≤ left) (h1 : left ≤ 1048576) :
    Calls Try.prog 15 #[.agg #[v0, v1, v2], .int .i64 left] w fun e w' => e = .returned (.int .i64 (less left (cost_System x : Nat))) ∧ Below w.heap.size w w' := by
  obtain ⟨x0, x1, x2⟩ := x
  have tx0 := rd_cons rfl hx
  obtain ⟨rfl, Ix0⟩ := rd_i1 tx0.1
  have tx1 := rd_cons rfl tx0.2
  obtain ⟨rfl, Ix1⟩ := rd_i1 tx1.1
  have Rx2 := Lib.hid tx1.2
  obtain ⟨ax2, cx2, rfl, _⟩ := rd_list Rx2.out
  clear hx tx0 tx1
  have hs := (St.start w).alloc #[.int .i64 x0, .int .i64 x1, .slice ax2 x2.length cx2] 24 rfl
  go_enter Try.func15, Try.ntmps15
  go_wp2_with fail
  refine (szEquationS_b x2 _ (left) _ (Rd.mono Rx2.out hs.bel) (by omega) (by omega)).mono ?_
  rintro e w1 ⟨rfl, hb1⟩
  have hs1 := hs.step hb1
  rcases less_cases (left) (cost_EquationS x2) with ⟨e1, g2⟩ | ⟨e1, g2⟩
  · rw [e1]
    clear e1
    go_wp2_with fail
    go_ret
    exact ⟨ret_int (less_no (by simp only [cost_System]; omega)).symm, hs1.bel⟩
  · rw [e1]
    clear e1
    go_wp2_with fail
    go_ret
    exact ⟨ret_int (by rw [less_yes (by simp only [cost_System]; omega)] <;> (simp only [cost_System] <;> omega)), hs1.bel⟩

end Go.Proofs.Ytkbeihkjhmillaa
