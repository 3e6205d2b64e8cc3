/-
  SEVERAL TEXTS IN ONE.
-/
import Derived.Test.YtjnkkjgkinmhkaaDoorBase
import Derived.Shelf.Abstract
import Derived.Deep.RegionHeld3
import Derived.Lib.SmallJoins
import Derived.Deep.Slices
import Derived.Deep.Fields
import Derived.ChangeSame

/-
  CONTRACTS of the laws' functions on types: sz. (Printed by wip/gentypes.py.)
-/
namespace Go.Proofs.YtjnkkjgkinmhkaaDoor
open Go.RowKit
open Rep (Rd Own sz)
set_option linter.unusedSimpArgs false
set_option linter.unusedVariables false


abbrev Fml := Int × Int × List OpT
abbrev Vdct := Int × List Int × List (Int × Int × Int) × List (Int × Int × Int) × List Int
theorem rd_i1 {w : World} {v : Value} {n : Int} (h : Rd w [v] n) : v = .int .i64 n ∧ I64 n := ⟨by simpa using h.1, h.2⟩
/-- What sz takes off the budget: all lengths. -/
def cL {α : Type} (c : α → Nat) (l : List α) : Nat := l.length + (l.map c).sum
def sumTo {α : Type} (c : α → Nat) (l : List α) (j : Nat) : Nat := ((l.take j).map c).sum
theorem sumTo_succ {α : Type} (c : α → Nat) (l : List α) (j : Nat) (h : j < l.length) : sumTo c l (j + 1) = sumTo c l j + c l[j] := by
  rw [sumTo, sumTo, List.take_succ_eq_append_getElem h, List.map_append, List.sum_append]; rfl
theorem sumTo_all {α : Type} (c : α → Nat) (l : List α) : sumTo c l l.length = (l.map c).sum := by simp [sumTo]
theorem sumTo_le {α : Type} (c : α → Nat) (l : List α) (j : Nat) : sumTo c l j ≤ (l.map c).sum := by
  have : (l.map c).sum = ((l.take j).map c).sum + ((l.drop j).map c).sum := by rw [← List.sum_append, ← List.map_append, List.take_append_drop]
  unfold sumTo; omega
theorem cL_mem {α : Type} (c : α → Nat) (l : List α) (j : Nat) (h : j < l.length) : c l[j] + l.length ≤ cL c l := by
  have h1 := sumTo_succ c l j h
  have h2 := sumTo_le c l (j + 1)
  unfold cL; omega
theorem less_cases (L : Int) (c : Nat) : (less L c = -1 ∧ L - c < 0) ∨ (less L c = L - c ∧ 0 ≤ L - c) := by
  unfold less; split
  · exact .inl ⟨rfl, by assumption⟩
  · exact .inr ⟨rfl, by omega⟩
theorem less_no {L : Int} {c : Nat} (h : L - c < 0) : less L c = -1 := by unfold less; rw [if_pos h]
theorem less_yes {L : Int} {c : Nat} (h : 0 ≤ L - c) : less L c = L - c := by unfold less; rw [if_neg (by omega)]
theorem rdSl_four {α : Type} [Rep α] (hα : sz α = 4) {w : World} {a : Option Addr} {c : Nat} {l : List α} (h : RdSl w a c l) (i : Nat) (hi : i < l.length) :
    ∃ b o v0 v1 v2 v3, a = some ⟨b, o, none⟩ ∧ w.cell? ⟨b, o + i * 4, none⟩ = some v0 ∧ w.cell? ⟨b, o + i * 4 + 1, none⟩ = some v1 ∧ w.cell? ⟨b, o + i * 4 + 2, none⟩ = some v2 ∧ w.cell? ⟨b, o + i * 4 + 3, none⟩ = some v3 ∧ Rd w [v0, v1, v2, v3] l[i] := by
  obtain ⟨b, o, vs, ha, hr, hc⟩ := h.2.2 i hi
  have hl := Rep.rd_len hr
  rw [hα] at hl hc
  match vs, hl with
  | [v0, v1, v2, v3], _ =>
    exact ⟨b, o, v0, v1, v2, v3, ha, by have := hc 0 (by simp); simpa using this, by have := hc 1 (by simp); simpa using this, by have := hc 2 (by simp); simpa using this, by have := hc 3 (by simp); simpa using this, hr⟩

def cost_Int64SS : List (List Int) → Nat := cL List.length
def cost_Equation (x : Eqn) : Nat := List.length (x.1)
def cost_Op (x : OpT) : Nat := List.length (x.2)
def cost_Con (x : OpT) : Nat := List.length (x.2)
def cost_Rel (x : RelT) : Nat := cost_Int64SS (x.2)
def cost_EquationS : List (Eqn) → Nat := cL cost_Equation
def cost_OpS : List (OpT) → Nat := cL cost_Op
def cost_ConS : List (OpT) → Nat := cL cost_Con
def cost_RelS : List (RelT) → Nat := cL cost_Rel
def cost_ArcStepS : List ((Int × Int × Int)) → Nat := List.length
def cost_PairStepS : List ((Int × Int × Int)) → Nat := List.length
def cost_LineS : List ((Int × Int × Int × Int)) → Nat := List.length
def cost_System (x : Sys) : Nat := cost_EquationS (x.2.2)
def cost_Template (x : Tmpl) : Nat := cost_RelS (x.2)
def cost_Instance (x : Inst) : Nat := cost_ConS (x.2)
def cost_Verdict (x : Vdct) : Nat := List.length (x.2.1) + cost_ArcStepS (x.2.2.1) + cost_PairStepS (x.2.2.2.1) + List.length (x.2.2.2.2)
def cost_Atom (x : OpT) : Nat := List.length (x.2)
def cost_AtomS : List (OpT) → Nat := cL cost_Atom
def cost_Formula (x : Fml) : Nat := cost_AtomS (x.2.2)


end Go.Proofs.YtjnkkjgkinmhkaaDoor

/-
  CONTRACTS of the laws' functions on types: to. (Printed by wip/gentypes.py.)
-/
namespace Go.Proofs.YtjnkkjgkinmhkaaDoor
open Go.RowKit
open Rep (Rd Own sz)
set_option linter.unusedSimpArgs false
set_option linter.unusedVariables false


theorem size_setCell (w : World) (a : Addr) (v : Value) : (w.setCell a v).heap.size = w.heap.size := by simp [World.setCell]

end Go.Proofs.YtjnkkjgkinmhkaaDoor

/-
  CONTRACTS of the laws' functions on types: eq. (Printed by wip/gentypes.py.)
-/
namespace Go.Proofs.YtjnkkjgkinmhkaaDoor
open Go.RowKit
open Rep (Rd Own sz)
set_option linter.unusedSimpArgs false
set_option linter.unusedVariables false


instance decI3 : DecidableEq (List (Int × Int × Int)) := inferInstance
instance decV4 : DecidableEq (List (Int × Int × Int) × List Int) := instDecidableEqProd
instance decV3 : DecidableEq (List (Int × Int × Int) × List (Int × Int × Int) × List Int) := instDecidableEqProd
instance decV2 : DecidableEq (List Int × List (Int × Int × Int) × List (Int × Int × Int) × List Int) := instDecidableEqProd
instance decV1 : DecidableEq Vdct := instDecidableEqProd
theorem take_succG {α : Type} {l1 l2 : List α} {k : Nat} (h1 : k < l1.length) (h2 : k < l2.length) (h : l1.take k = l2.take k) (e : l1[k] = l2[k]) : l1.take (k + 1) = l2.take (k + 1) := by
  rw [List.take_succ_eq_append_getElem h1, List.take_succ_eq_append_getElem h2, h, e]
theorem ne_getG {α : Type} {l1 l2 : List α} {k : Nat} (h1 : k < l1.length) (h2 : k < l2.length) (e : ¬ l1[k] = l2[k]) : ¬ l1 = l2 := by rintro rfl; exact e rfl
theorem take_allG {α : Type} {l1 l2 : List α} {n : Nat} (h1 : l1.length = n) (h2 : l2.length = n) (h : l1.take n = l2.take n) : l1 = l2 := by
  rwa [List.take_of_length_le (by omega), List.take_of_length_le (by omega)] at h
theorem eqInt64S_b (l1 l2 : List Int) (v1 v2 : Value) (w : World) (r1 : Rd w [v1] l1) (r2 : Rd w [v2] l2) :
    Calls Tryd.prog 74 #[v1, v2] w fun e w' => e = .returned (.bool (decide (l1 = l2))) ∧ Below w.heap.size w w' :=
  (eqInt64S_c l1 l2 v1 v2 w r1 r2).mono fun e w' ⟨he, n, hw⟩ => ⟨he, hw ▸ drewN_below _ _⟩
set_option maxRecDepth 100000 in
set_option maxHeartbeats 1000000 in
theorem eqEquation_b (x y : Eqn) (v0 v1 u0 u1 : Value) (w : World) (hx : Rd w [v0, v1] x) (hy : Rd w [u0, u1] y) :
    Calls Tryd.prog 48 #[.agg #[v0, v1], .agg #[u0, u1]] w fun e w' => e = .returned (.bool (decide (x = y))) ∧ Below w.heap.size w w' := by
  obtain ⟨x0, x1⟩ := x
  obtain ⟨y0, y1⟩ := y
  have tx0 := rd_cons rfl hx
  have Rx0 := Lib.hid tx0.1
  obtain ⟨ax0, cx0, rfl, _⟩ := rd_list Rx0.out
  obtain ⟨rfl, Ix1⟩ := rd_i1 tx0.2
  clear hx tx0
  have ty0 := rd_cons rfl hy
  have Ry0 := Lib.hid ty0.1
  obtain ⟨ay0, cy0, rfl, _⟩ := rd_list Ry0.out
  obtain ⟨rfl, Iy1⟩ := rd_i1 ty0.2
  clear hy ty0
  have hs := ((St.start w).alloc #[.slice ax0 x0.length cx0, .int .i64 x1] 43 rfl).alloc #[.slice ay0 y0.length cy0, .int .i64 y1] 43 (n := w.heap.size + 1) (by simp)
  go_enter Tryd.func48, Tryd.ntmps48
  go_wp2_with fail
  refine (eqInt64S_b x0 y0 _ _ _ (Rd.mono Rx0.out hs.bel) (Rd.mono Ry0.out hs.bel)).mono ?_
  rintro e w1 ⟨rfl, hc1⟩
  have hs1 := hs.step hc1
  by_cases E0 : x0 = y0
  rotate_left
  · rw [decide_eq_false E0]
    have F := Lib.hid E0
    clear E0
    go_wp2_with fail
    go_ret
    exact ⟨ret_bool (by simp [F.out]), hs1.bel⟩
  rw [decide_eq_true E0]
  have G0 := Lib.hid E0
  clear E0
  have p0 := hs1.cellAt 0 rfl 0 rfl
  have q0 := hs1.cellAt 1 rfl 0 rfl
  have p1 := hs1.cellAt 0 rfl 1 rfl
  have q1 := hs1.cellAt 1 rfl 1 rfl
  by_cases E1 : x1 = y1
  rotate_left
  · have hb1 : (x1 != y1) = true := by simpa using E1
    have F := Lib.hid E1
    clear E1
    go_wp2_with fail
    go_ret
    exact ⟨ret_bool (by simp [F.out]), hs1.bel⟩
  subst E1
  have hb1 : (x1 != x1) = false := by simp
  go_wp2_with fail
  go_ret
  exact ⟨ret_bool (by simp [G0.out]), hs1.bel⟩
set_option maxRecDepth 100000 in
set_option maxHeartbeats 1000000 in
theorem eqCon_b (x y : OpT) (v0 v1 u0 u1 : Value) (w : World) (hx : Rd w [v0, v1] x) (hy : Rd w [u0, u1] y) :
    Calls Tryd.prog 61 #[.agg #[v0, v1], .agg #[u0, u1]] w fun e w' => e = .returned (.bool (decide (x = y))) ∧ Below w.heap.size w w' := by
  obtain ⟨x0, x1⟩ := x
  obtain ⟨y0, y1⟩ := y
  have tx0 := rd_cons rfl hx
  obtain ⟨rfl, Ix0⟩ := rd_i1 tx0.1
  have Rx1 := Lib.hid tx0.2
  obtain ⟨ax1, cx1, rfl, _⟩ := rd_list Rx1.out
  clear hx tx0
  have ty0 := rd_cons rfl hy
  obtain ⟨rfl, Iy0⟩ := rd_i1 ty0.1
  have Ry1 := Lib.hid ty0.2
  obtain ⟨ay1, cy1, rfl, _⟩ := rd_list Ry1.out
  clear hy ty0
  have hs := ((St.start w).alloc #[.int .i64 x0, .slice ax1 x1.length cx1] 61 rfl).alloc #[.int .i64 y0, .slice ay1 y1.length cy1] 61 (n := w.heap.size + 1) (by simp)
  go_enter Tryd.func61, Tryd.ntmps61
  by_cases E0 : x0 = y0
  rotate_left
  · have hb0 : (x0 != y0) = true := by simpa using E0
    have F := Lib.hid E0
    clear E0
    go_wp2_with fail
    go_ret
    exact ⟨ret_bool (by simp [F.out]), hs.bel⟩
  subst E0
  have hb0 : (x0 != x0) = false := by simp
  go_wp2_with fail
  refine (eqInt64S_b x1 y1 _ _ _ (Rd.mono Rx1.out hs.bel) (Rd.mono Ry1.out hs.bel)).mono ?_
  rintro e w1 ⟨rfl, hc1⟩
  have hs1 := hs.step hc1
  by_cases E1 : x1 = y1
  rotate_left
  · rw [decide_eq_false E1]
    have F := Lib.hid E1
    clear E1
    go_wp2_with fail
    go_ret
    exact ⟨ret_bool (by simp [F.out]), hs1.bel⟩
  rw [decide_eq_true E1]
  have G1 := Lib.hid E1
  clear E1
  have p0 := hs1.cellAt 0 rfl 0 rfl
  have q0 := hs1.cellAt 1 rfl 0 rfl
  have p1 := hs1.cellAt 0 rfl 1 rfl
  have q1 := hs1.cellAt 1 rfl 1 rfl
  go_wp2_with fail
  go_ret
  exact ⟨ret_bool (by simp [G1.out]), hs1.bel⟩
set_option maxRecDepth 100000 in
set_option maxHeartbeats 1000000 in
theorem eqEquationS_b (l1 l2 : List (Eqn)) (v1 v2 : Value) (w : World) (r1 : Rd w [v1] l1) (r2 : Rd w [v2] l2) :
    Calls Tryd.prog 26 #[v1, v2] w fun e w' => e = .returned (.bool (decide (l1 = l2))) ∧ Below w.heap.size w w' := by
  obtain ⟨a1, c1, rfl, h1⟩ := rd_list r1
  obtain ⟨a2, c2, rfl, h2⟩ := rd_list r2
  clear r1 r2
  have b1 := (rdSl_len h1).2
  have b2 := (rdSl_len h2).2
  unfold maxLen at b1 b2
  have G1 := Lib.hid h1
  have G2 := Lib.hid h2
  clear h1 h2
  by_cases hl : l1.length = l2.length
  · generalize hn1 : l1.length = n1 at *
    generalize hn2 : l2.length = n2 at *
    have H1 := Lib.hid hn1
    have H2 := Lib.hid hn2
    clear hn1 hn2
    subst hl
    have hl' : ((n1 : Int) != n1) = false := by simp
    go_enter Tryd.func26, Tryd.ntmps26
    go_wp2_with fail
    go_loopw [5] (fun i wr => ∃ k : Nat, k ≤ n1 ∧ i = .int .i64 k ∧ Hid (Below w.heap.size w wr) ∧ Hid (l1.take k = l2.take k)) (fun i _ => n1 - (intOf i).toNat)
    case atStart => exact ⟨0, Nat.zero_le _, rfl, Below.refl _ _, by simp [Hid]⟩
    case round =>
      obtain ⟨k, hk, rfl, hbl, hr⟩ := hrel
      by_cases hlt : k < n1
      · have k1 : k < l1.length := by rw [H1.out]; exact hlt
        have k2 : k < l2.length := by rw [H2.out]; exact hlt
        obtain ⟨b1, o1, u0, u1, rfl, q0, q1, hx⟩ := rdSl_two rfl (rdSl_mono hbl.out G1.out) k k1
        obtain ⟨b2, o2, t0, t1, rfl, p0, p1, hy⟩ := rdSl_two rfl (rdSl_mono hbl.out G2.out) k k2
        have HX := Lib.hid hx
        have HY := Lib.hid hy
        clear hx hy
        by_cases he : l1[k] = l2[k]
        · have HE := Lib.hid he
          clear he
          go_wp2_with fail
          refine wp_region_noPanic (wp_region_el (fun w' => w'.cell? ⟨b1, o1 + k * 2, none⟩ = some u0 ∧ w'.cell? ⟨b1, o1 + k * 2 + 1, none⟩ = some u1 ∧ w'.cell? ⟨b2, o2 + k * 2, none⟩ = some t0 ∧ w'.cell? ⟨b2, o2 + k * 2 + 1, none⟩ = some t1) [(0, 0), (1, 0), (2, 0), (3, 0), (4, 0), (5, 0), (6, 0), (7, 0), (8, 1), (9, 0)] (by kernel_rfl) (by kernel_rfl) (by kernel_rfl) rfl ?_ (fun _ _ _ _ _ h => h) ?_)
          · exact ⟨q0, q1, p0, p1⟩
          (repeat (first | (apply el_skip rfl (by rfl); try simp only [Act.put, List.setIfInBounds_toArray, List.set_cons_zero, List.set_cons_succ]) | (apply el_float rfl (by rfl); (· (intro w' hS; go_simp <;> with_reducible rfl)); (try simp only [Act.put, List.setIfInBounds_toArray, List.set_cons_zero, List.set_cons_succ]))))
          refine el_hard rfl (by rfl) (fun K hK => ?_)
          go_wp2_with (go_at_call 48; refine (eqEquation_b l1[k] l2[k] _ _ _ _ _ (Rd.mono HX.out (belowD _)) (Rd.mono HY.out (belowD _))).mono ?_; rintro e w1 ⟨rfl, hb1⟩)
          rw [decide_eq_true HE.out]
          refine ⟨⟨cellL hb1 q0, cellL hb1 q1, cellL hb1 p0, cellL hb1 p1⟩, ?_⟩
          (repeat (first | (apply el_skip rfl (by rfl); try simp only [Act.put, List.setIfInBounds_toArray, List.set_cons_zero, List.set_cons_succ]) | (apply el_float rfl (by rfl); (· (intro w' hS; go_simp <;> with_reducible rfl)); (try simp only [Act.put, List.setIfInBounds_toArray, List.set_cons_zero, List.set_cons_succ]))))
          refine el_nil (NoPanic.normal ?_)
          go_wp2_with fail
          go_roundw
          case rel => exact ⟨k + 1, by omega, by go_num, hbl.out.drew.trans (hb1.mono hbl.out.size), take_succG k1 k2 hr.out HE.out⟩
          case measure => simp [intOf]; omega
        · have HE := Lib.hid he
          clear he
          go_wp2_with fail
          refine wp_region_noPanic (wp_region_el (fun w' => w'.cell? ⟨b1, o1 + k * 2, none⟩ = some u0 ∧ w'.cell? ⟨b1, o1 + k * 2 + 1, none⟩ = some u1 ∧ w'.cell? ⟨b2, o2 + k * 2, none⟩ = some t0 ∧ w'.cell? ⟨b2, o2 + k * 2 + 1, none⟩ = some t1) [(0, 0), (1, 0), (2, 0), (3, 0), (4, 0), (5, 0), (6, 0), (7, 0), (8, 1), (9, 0)] (by kernel_rfl) (by kernel_rfl) (by kernel_rfl) rfl ?_ (fun _ _ _ _ _ h => h) ?_)
          · exact ⟨q0, q1, p0, p1⟩
          (repeat (first | (apply el_skip rfl (by rfl); try simp only [Act.put, List.setIfInBounds_toArray, List.set_cons_zero, List.set_cons_succ]) | (apply el_float rfl (by rfl); (· (intro w' hS; go_simp <;> with_reducible rfl)); (try simp only [Act.put, List.setIfInBounds_toArray, List.set_cons_zero, List.set_cons_succ]))))
          refine el_hard rfl (by rfl) (fun K hK => ?_)
          go_wp2_with (go_at_call 48; refine (eqEquation_b l1[k] l2[k] _ _ _ _ _ (Rd.mono HX.out (belowD _)) (Rd.mono HY.out (belowD _))).mono ?_; rintro e w1 ⟨rfl, hb1⟩)
          rw [decide_eq_false HE.out]
          refine ⟨⟨cellL hb1 q0, cellL hb1 q1, cellL hb1 p0, cellL hb1 p1⟩, ?_⟩
          (repeat (first | (apply el_skip rfl (by rfl); try simp only [Act.put, List.setIfInBounds_toArray, List.set_cons_zero, List.set_cons_succ]) | (apply el_float rfl (by rfl); (· (intro w' hS; go_simp <;> with_reducible rfl)); (try simp only [Act.put, List.setIfInBounds_toArray, List.set_cons_zero, List.set_cons_succ]))))
          refine el_nil (NoPanic.normal ?_)
          go_wp2_with fail
          go_ret
          exact ⟨ret_bool (by simp [ne_getG k1 k2 HE.out]), hbl.out.drew.trans (hb1.mono hbl.out.size)⟩
      · obtain rfl : k = n1 := by omega
        go_wp2_with fail
        go_ret
        exact ⟨ret_bool (by simp [take_allG H1.out H2.out hr.out]), hbl.out⟩
  · have hl' : ((l1.length : Int) != l2.length) = true := by simp; omega
    have HL := Lib.hid hl
    clear hl
    go_enter Tryd.func26, Tryd.ntmps26
    go_wp2_with fail
    go_ret
    refine ⟨ret_bool ?_, Below.refl _ _⟩
    symm
    simp only [decide_eq_false_iff_not]
    rintro rfl
    exact HL.out rfl
set_option maxRecDepth 100000 in
set_option maxHeartbeats 1000000 in
theorem eqConS_b (l1 l2 : List (OpT)) (v1 v2 : Value) (w : World) (r1 : Rd w [v1] l1) (r2 : Rd w [v2] l2) :
    Calls Tryd.prog 34 #[v1, v2] w fun e w' => e = .returned (.bool (decide (l1 = l2))) ∧ Below w.heap.size w w' := by
  obtain ⟨a1, c1, rfl, h1⟩ := rd_list r1
  obtain ⟨a2, c2, rfl, h2⟩ := rd_list r2
  clear r1 r2
  have b1 := (rdSl_len h1).2
  have b2 := (rdSl_len h2).2
  unfold maxLen at b1 b2
  have G1 := Lib.hid h1
  have G2 := Lib.hid h2
  clear h1 h2
  by_cases hl : l1.length = l2.length
  · generalize hn1 : l1.length = n1 at *
    generalize hn2 : l2.length = n2 at *
    have H1 := Lib.hid hn1
    have H2 := Lib.hid hn2
    clear hn1 hn2
    subst hl
    have hl' : ((n1 : Int) != n1) = false := by simp
    go_enter Tryd.func34, Tryd.ntmps34
    go_wp2_with fail
    go_loopw [5] (fun i wr => ∃ k : Nat, k ≤ n1 ∧ i = .int .i64 k ∧ Hid (Below w.heap.size w wr) ∧ Hid (l1.take k = l2.take k)) (fun i _ => n1 - (intOf i).toNat)
    case atStart => exact ⟨0, Nat.zero_le _, rfl, Below.refl _ _, by simp [Hid]⟩
    case round =>
      obtain ⟨k, hk, rfl, hbl, hr⟩ := hrel
      by_cases hlt : k < n1
      · have k1 : k < l1.length := by rw [H1.out]; exact hlt
        have k2 : k < l2.length := by rw [H2.out]; exact hlt
        obtain ⟨b1, o1, u0, u1, rfl, q0, q1, hx⟩ := rdSl_two rfl (rdSl_mono hbl.out G1.out) k k1
        obtain ⟨b2, o2, t0, t1, rfl, p0, p1, hy⟩ := rdSl_two rfl (rdSl_mono hbl.out G2.out) k k2
        have HX := Lib.hid hx
        have HY := Lib.hid hy
        clear hx hy
        by_cases he : l1[k] = l2[k]
        · have HE := Lib.hid he
          clear he
          go_wp2_with fail
          refine wp_region_noPanic (wp_region_el (fun w' => w'.cell? ⟨b1, o1 + k * 2, none⟩ = some u0 ∧ w'.cell? ⟨b1, o1 + k * 2 + 1, none⟩ = some u1 ∧ w'.cell? ⟨b2, o2 + k * 2, none⟩ = some t0 ∧ w'.cell? ⟨b2, o2 + k * 2 + 1, none⟩ = some t1) [(0, 0), (1, 0), (2, 0), (3, 0), (4, 0), (5, 0), (6, 0), (7, 0), (8, 1), (9, 0)] (by kernel_rfl) (by kernel_rfl) (by kernel_rfl) rfl ?_ (fun _ _ _ _ _ h => h) ?_)
          · exact ⟨q0, q1, p0, p1⟩
          (repeat (first | (apply el_skip rfl (by rfl); try simp only [Act.put, List.setIfInBounds_toArray, List.set_cons_zero, List.set_cons_succ]) | (apply el_float rfl (by rfl); (· (intro w' hS; go_simp <;> with_reducible rfl)); (try simp only [Act.put, List.setIfInBounds_toArray, List.set_cons_zero, List.set_cons_succ]))))
          refine el_hard rfl (by rfl) (fun K hK => ?_)
          go_wp2_with (go_at_call 61; refine (eqCon_b l1[k] l2[k] _ _ _ _ _ (Rd.mono HX.out (belowD _)) (Rd.mono HY.out (belowD _))).mono ?_; rintro e w1 ⟨rfl, hb1⟩)
          rw [decide_eq_true HE.out]
          refine ⟨⟨cellL hb1 q0, cellL hb1 q1, cellL hb1 p0, cellL hb1 p1⟩, ?_⟩
          (repeat (first | (apply el_skip rfl (by rfl); try simp only [Act.put, List.setIfInBounds_toArray, List.set_cons_zero, List.set_cons_succ]) | (apply el_float rfl (by rfl); (· (intro w' hS; go_simp <;> with_reducible rfl)); (try simp only [Act.put, List.setIfInBounds_toArray, List.set_cons_zero, List.set_cons_succ]))))
          refine el_nil (NoPanic.normal ?_)
          go_wp2_with fail
          go_roundw
          case rel => exact ⟨k + 1, by omega, by go_num, hbl.out.drew.trans (hb1.mono hbl.out.size), take_succG k1 k2 hr.out HE.out⟩
          case measure => simp [intOf]; omega
        · have HE := Lib.hid he
          clear he
          go_wp2_with fail
          refine wp_region_noPanic (wp_region_el (fun w' => w'.cell? ⟨b1, o1 + k * 2, none⟩ = some u0 ∧ w'.cell? ⟨b1, o1 + k * 2 + 1, none⟩ = some u1 ∧ w'.cell? ⟨b2, o2 + k * 2, none⟩ = some t0 ∧ w'.cell? ⟨b2, o2 + k * 2 + 1, none⟩ = some t1) [(0, 0), (1, 0), (2, 0), (3, 0), (4, 0), (5, 0), (6, 0), (7, 0), (8, 1), (9, 0)] (by kernel_rfl) (by kernel_rfl) (by kernel_rfl) rfl ?_ (fun _ _ _ _ _ h => h) ?_)
          · exact ⟨q0, q1, p0, p1⟩
          (repeat (first | (apply el_skip rfl (by rfl); try simp only [Act.put, List.setIfInBounds_toArray, List.set_cons_zero, List.set_cons_succ]) | (apply el_float rfl (by rfl); (· (intro w' hS; go_simp <;> with_reducible rfl)); (try simp only [Act.put, List.setIfInBounds_toArray, List.set_cons_zero, List.set_cons_succ]))))
          refine el_hard rfl (by rfl) (fun K hK => ?_)
          go_wp2_with (go_at_call 61; refine (eqCon_b l1[k] l2[k] _ _ _ _ _ (Rd.mono HX.out (belowD _)) (Rd.mono HY.out (belowD _))).mono ?_; rintro e w1 ⟨rfl, hb1⟩)
          rw [decide_eq_false HE.out]
          refine ⟨⟨cellL hb1 q0, cellL hb1 q1, cellL hb1 p0, cellL hb1 p1⟩, ?_⟩
          (repeat (first | (apply el_skip rfl (by rfl); try simp only [Act.put, List.setIfInBounds_toArray, List.set_cons_zero, List.set_cons_succ]) | (apply el_float rfl (by rfl); (· (intro w' hS; go_simp <;> with_reducible rfl)); (try simp only [Act.put, List.setIfInBounds_toArray, List.set_cons_zero, List.set_cons_succ]))))
          refine el_nil (NoPanic.normal ?_)
          go_wp2_with fail
          go_ret
          exact ⟨ret_bool (by simp [ne_getG k1 k2 HE.out]), hbl.out.drew.trans (hb1.mono hbl.out.size)⟩
      · obtain rfl : k = n1 := by omega
        go_wp2_with fail
        go_ret
        exact ⟨ret_bool (by simp [take_allG H1.out H2.out hr.out]), hbl.out⟩
  · have hl' : ((l1.length : Int) != l2.length) = true := by simp; omega
    have HL := Lib.hid hl
    clear hl
    go_enter Tryd.func34, Tryd.ntmps34
    go_wp2_with fail
    go_ret
    refine ⟨ret_bool ?_, Below.refl _ _⟩
    symm
    simp only [decide_eq_false_iff_not]
    rintro rfl
    exact HL.out rfl
set_option maxRecDepth 100000 in
set_option maxHeartbeats 1000000 in
theorem eqSystem_b (x y : Sys) (v0 v1 v2 u0 u1 u2 : Value) (w : World) (hx : Rd w [v0, v1, v2] x) (hy : Rd w [u0, u1, u2] y) :
    Calls Tryd.prog 7 #[.agg #[v0, v1, v2], .agg #[u0, u1, u2]] w fun e w' => e = .returned (.bool (decide (x = y))) ∧ Below w.heap.size w w' := by
  obtain ⟨x0, x1, x2⟩ := x
  obtain ⟨y0, y1, y2⟩ := y
  have tx0 := rd_cons rfl hx
  obtain ⟨rfl, Ix0⟩ := rd_i1 tx0.1
  have tx1 := rd_cons rfl tx0.2
  obtain ⟨rfl, Ix1⟩ := rd_i1 tx1.1
  have Rx2 := Lib.hid tx1.2
  obtain ⟨ax2, cx2, rfl, _⟩ := rd_list Rx2.out
  clear hx tx0 tx1
  have ty0 := rd_cons rfl hy
  obtain ⟨rfl, Iy0⟩ := rd_i1 ty0.1
  have ty1 := rd_cons rfl ty0.2
  obtain ⟨rfl, Iy1⟩ := rd_i1 ty1.1
  have Ry2 := Lib.hid ty1.2
  obtain ⟨ay2, cy2, rfl, _⟩ := rd_list Ry2.out
  clear hy ty0 ty1
  have hs := ((St.start w).alloc #[.int .i64 x0, .int .i64 x1, .slice ax2 x2.length cx2] 24 rfl).alloc #[.int .i64 y0, .int .i64 y1, .slice ay2 y2.length cy2] 24 (n := w.heap.size + 1) (by simp)
  go_enter Tryd.func7, Tryd.ntmps7
  by_cases E0 : x0 = y0
  rotate_left
  · have hb0 : (x0 != y0) = true := by simpa using E0
    have F := Lib.hid E0
    clear E0
    go_wp2_with fail
    go_ret
    exact ⟨ret_bool (by simp [F.out]), hs.bel⟩
  subst E0
  have hb0 : (x0 != x0) = false := by simp
  by_cases E1 : x1 = y1
  rotate_left
  · have hb1 : (x1 != y1) = true := by simpa using E1
    have F := Lib.hid E1
    clear E1
    go_wp2_with fail
    go_ret
    exact ⟨ret_bool (by simp [F.out]), hs.bel⟩
  subst E1
  have hb1 : (x1 != x1) = false := by simp
  go_wp2_with fail
  refine (eqEquationS_b x2 y2 _ _ _ (Rd.mono Rx2.out hs.bel) (Rd.mono Ry2.out hs.bel)).mono ?_
  rintro e w1 ⟨rfl, hc1⟩
  have hs1 := hs.step hc1
  by_cases E2 : x2 = y2
  rotate_left
  · rw [decide_eq_false E2]
    have F := Lib.hid E2
    clear E2
    go_wp2_with fail
    go_ret
    exact ⟨ret_bool (by simp [F.out]), hs1.bel⟩
  rw [decide_eq_true E2]
  have G2 := Lib.hid E2
  clear E2
  have p0 := hs1.cellAt 0 rfl 0 rfl
  have q0 := hs1.cellAt 1 rfl 0 rfl
  have p1 := hs1.cellAt 0 rfl 1 rfl
  have q1 := hs1.cellAt 1 rfl 1 rfl
  have p2 := hs1.cellAt 0 rfl 2 rfl
  have q2 := hs1.cellAt 1 rfl 2 rfl
  go_wp2_with fail
  go_ret
  exact ⟨ret_bool (by simp [G2.out]), hs1.bel⟩
set_option maxRecDepth 100000 in
set_option maxHeartbeats 1000000 in
theorem eqInstance_b (x y : Inst) (v0 v1 u0 u1 : Value) (w : World) (hx : Rd w [v0, v1] x) (hy : Rd w [u0, u1] y) :
    Calls Tryd.prog 12 #[.agg #[v0, v1], .agg #[u0, u1]] w fun e w' => e = .returned (.bool (decide (x = y))) ∧ Below w.heap.size w w' := by
  obtain ⟨x0, x1⟩ := x
  obtain ⟨y0, y1⟩ := y
  have tx0 := rd_cons rfl hx
  obtain ⟨rfl, Ix0⟩ := rd_i1 tx0.1
  have Rx1 := Lib.hid tx0.2
  obtain ⟨ax1, cx1, rfl, _⟩ := rd_list Rx1.out
  clear hx tx0
  have ty0 := rd_cons rfl hy
  obtain ⟨rfl, Iy0⟩ := rd_i1 ty0.1
  have Ry1 := Lib.hid ty0.2
  obtain ⟨ay1, cy1, rfl, _⟩ := rd_list Ry1.out
  clear hy ty0
  have hs := ((St.start w).alloc #[.int .i64 x0, .slice ax1 x1.length cx1] 32 rfl).alloc #[.int .i64 y0, .slice ay1 y1.length cy1] 32 (n := w.heap.size + 1) (by simp)
  go_enter Tryd.func12, Tryd.ntmps12
  by_cases E0 : x0 = y0
  rotate_left
  · have hb0 : (x0 != y0) = true := by simpa using E0
    have F := Lib.hid E0
    clear E0
    go_wp2_with fail
    go_ret
    exact ⟨ret_bool (by simp [F.out]), hs.bel⟩
  subst E0
  have hb0 : (x0 != x0) = false := by simp
  go_wp2_with fail
  refine (eqConS_b x1 y1 _ _ _ (Rd.mono Rx1.out hs.bel) (Rd.mono Ry1.out hs.bel)).mono ?_
  rintro e w1 ⟨rfl, hc1⟩
  have hs1 := hs.step hc1
  by_cases E1 : x1 = y1
  rotate_left
  · rw [decide_eq_false E1]
    have F := Lib.hid E1
    clear E1
    go_wp2_with fail
    go_ret
    exact ⟨ret_bool (by simp [F.out]), hs1.bel⟩
  rw [decide_eq_true E1]
  have G1 := Lib.hid E1
  clear E1
  have p0 := hs1.cellAt 0 rfl 0 rfl
  have q0 := hs1.cellAt 1 rfl 0 rfl
  have p1 := hs1.cellAt 0 rfl 1 rfl
  have q1 := hs1.cellAt 1 rfl 1 rfl
  go_wp2_with fail
  go_ret
  exact ⟨ret_bool (by simp [G1.out]), hs1.bel⟩
theorem eqInt64S_s (x : List Int) (v0 u0 : Value) (w : World) (hx : Rd w [v0] x) (hy : Rd w [u0] x) :
    Calls Tryd.prog 74 #[v0, u0] w fun e w' => e = .returned (.bool true) ∧ Below w.heap.size w w' :=
  (eqInt64S_b x x v0 u0 w hx hy).mono fun e w' ⟨he, hb⟩ => ⟨by rw [he]; simp, hb⟩
theorem eqEquation_s (x : Eqn) (v0 v1 u0 u1 : Value) (w : World) (hx : Rd w [v0, v1] x) (hy : Rd w [u0, u1] x) :
    Calls Tryd.prog 48 #[.agg #[v0, v1], .agg #[u0, u1]] w fun e w' => e = .returned (.bool true) ∧ Below w.heap.size w w' :=
  (eqEquation_b x x v0 v1 u0 u1 w hx hy).mono fun e w' ⟨he, hb⟩ => ⟨by rw [he]; simp, hb⟩
theorem eqCon_s (x : OpT) (v0 v1 u0 u1 : Value) (w : World) (hx : Rd w [v0, v1] x) (hy : Rd w [u0, u1] x) :
    Calls Tryd.prog 61 #[.agg #[v0, v1], .agg #[u0, u1]] w fun e w' => e = .returned (.bool true) ∧ Below w.heap.size w w' :=
  (eqCon_b x x v0 v1 u0 u1 w hx hy).mono fun e w' ⟨he, hb⟩ => ⟨by rw [he]; simp, hb⟩
theorem eqEquationS_s (x : List (Eqn)) (v0 u0 : Value) (w : World) (hx : Rd w [v0] x) (hy : Rd w [u0] x) :
    Calls Tryd.prog 26 #[v0, u0] w fun e w' => e = .returned (.bool true) ∧ Below w.heap.size w w' :=
  (eqEquationS_b x x v0 u0 w hx hy).mono fun e w' ⟨he, hb⟩ => ⟨by rw [he]; simp, hb⟩
theorem eqConS_s (x : List (OpT)) (v0 u0 : Value) (w : World) (hx : Rd w [v0] x) (hy : Rd w [u0] x) :
    Calls Tryd.prog 34 #[v0, u0] w fun e w' => e = .returned (.bool true) ∧ Below w.heap.size w w' :=
  (eqConS_b x x v0 u0 w hx hy).mono fun e w' ⟨he, hb⟩ => ⟨by rw [he]; simp, hb⟩
theorem eqSystem_s (x : Sys) (v0 v1 v2 u0 u1 u2 : Value) (w : World) (hx : Rd w [v0, v1, v2] x) (hy : Rd w [u0, u1, u2] x) :
    Calls Tryd.prog 7 #[.agg #[v0, v1, v2], .agg #[u0, u1, u2]] w fun e w' => e = .returned (.bool true) ∧ Below w.heap.size w w' :=
  (eqSystem_b x x v0 v1 v2 u0 u1 u2 w hx hy).mono fun e w' ⟨he, hb⟩ => ⟨by rw [he]; simp, hb⟩
theorem eqInstance_s (x : Inst) (v0 v1 u0 u1 : Value) (w : World) (hx : Rd w [v0, v1] x) (hy : Rd w [u0, u1] x) :
    Calls Tryd.prog 12 #[.agg #[v0, v1], .agg #[u0, u1]] w fun e w' => e = .returned (.bool true) ∧ Below w.heap.size w w' :=
  (eqInstance_b x x v0 v1 u0 u1 w hx hy).mono fun e w' ⟨he, hb⟩ => ⟨by rw [he]; simp, hb⟩

end Go.Proofs.YtjnkkjgkinmhkaaDoor

/-
  CONTRACTS: mark and held on slices of slices and of equations.
-/
namespace Go.Proofs.YtjnkkjgkinmhkaaDoor
open Go.RowKit
open Rep (Rd Own sz)
set_option linter.unusedSimpArgs false
set_option linter.unusedVariables false

theorem putArr_same {cur : Array Value} {o : Nat} {v : Value} (vs : List Value) (h : cur[o]? = some v) : putArr cur o (v :: vs) = putArr cur (o + 1) vs := by
  rw [putArr]
  congr 1
  apply Array.ext_getElem?
  intro i
  by_cases hi : o = i
  · subst hi
    have := (Array.getElem?_eq_some_iff.1 h).1
    rw [Array.getElem?_setIfInBounds_self_of_lt this, h]
  · rw [Array.getElem?_setIfInBounds_ne hi]
theorem set_mid {α : Type} {ys l : List α} {j : Nat} (hy : ys.length = j) (hj : j < l.length) (y : α) : (ys ++ l.drop j).set j y = (ys ++ [y]) ++ l.drop (j + 1) := by
  subst hy
  rw [List.set_append_right _ _ (Nat.le_refl _), Nat.sub_self, List.drop_eq_getElem_cons hj, List.set_cons_zero, List.append_assoc]; rfl
theorem get_mid {α : Type} {ys l : List α} {j : Nat} (hy : ys.length = j) (hj : j < l.length) (h : j < (ys ++ l.drop j).length) : (ys ++ l.drop j)[j] = l[j] := by
  subst hy
  rw [List.getElem_append_right (Nat.le_refl _)]
  simp
theorem len_mid {α : Type} {ys l : List α} {j : Nat} (hy : ys.length = j) (hj : j ≤ l.length) : (ys ++ l.drop j).length = l.length := by simp [hy]; omega


end Go.Proofs.YtjnkkjgkinmhkaaDoor

/-
  CONTRACTS of the laws' functions on types: open: what the row lays down is read. (Printed by wip/gentypes.py.)
-/
namespace Go.Proofs.YtjnkkjgkinmhkaaDoor
open Go.RowKit Go.ChangeShapes Go.WideShapes Go.Deep Go.Joins
open Rep (Rd Own sz)
set_option linter.unusedSimpArgs false
set_option linter.unusedVariables false


def Opens (P : Program) (t : TypeId) (α : Type) [Rep α] : Prop :=
  ∀ {H : Type} {enc : TypeId × Value → H} {w : World} {base : Nat} {spare : Nat → Bool} {held : Bool} {fuel : Nat} {cs : List Value} {x : DataW H × List MemPlace},
    DataW.trod enc P w base spare held fuel t cs = some x → ∃ a : α, Rd w cs a
variable {P : Program} {t : TypeId}
theorem choose_list {α : Type} {p : Nat → α → Prop} : ∀ n, (∀ i, i < n → ∃ y, p i y) → ∃ l : List α, l.length = n ∧ ∀ i (h : i < l.length), p i l[i]
  | 0, _ => ⟨[], rfl, fun i h => absurd h (Nat.not_lt_zero _)⟩
  | n + 1, h => by
    obtain ⟨l, hl, hp⟩ := choose_list n (fun i hi => h i (by omega))
    obtain ⟨y, hy⟩ := h n (by omega)
    refine ⟨l ++ [y], by simp [hl], fun i hi => ?_⟩
    by_cases hlt : i < l.length
    · rw [List.getElem_append_left hlt]; exact hp i hlt
    · have : i = l.length := by simp at hi; omega
      subst this
      rw [List.getElem_append_right (by omega)]
      simp only [Nat.sub_self, List.getElem_cons_zero]
      rw [hl]; exact hy
theorem opens_int (ht : P.underlying t = some (.int .i64)) : Opens P t Int := by
  intro H enc w base spare held fuel cs x h
  obtain ⟨n, rfl, _, hw⟩ := DataW.trod_int ht h
  refine ⟨n, rfl, ?_⟩
  simp [Lit.wf, IntKind.min, IntKind.max, IntKind.signed, IntKind.bits] at hw
  exact ⟨by omega, by omega⟩
theorem opens_list {α : Type} [Rep α] {e : TypeId} (ht : P.underlying t = some (.slice e)) (hC : P.cellsOf e = sz α) (hz : 0 < sz α) (he : Opens P e α) : Opens P t (List α) := by
  intro H enc w base spare held fuel cs x h
  rcases open_slice ht h with ⟨rfl, _⟩ | ⟨a, len, cap, m, n, D, Pl, rfl, hb, hl, hm, hmm, _, hi⟩
  · exact ⟨[], none, 0, rfl, Nat.zero_le _, Nat.zero_le _, fun i hi => absurd hi (Nat.not_lt_zero _)⟩
  · have hlm : len ≤ m := by rw [hmm]; split <;> omega
    obtain ⟨l, hll, hp⟩ := choose_list (p := fun i (y : α) => ∃ cs', Rd w cs' y ∧ w.cells? base (a.add (i * P.cellsOf e)) (P.cellsOf e) = some cs') len (fun i hlt => by
      obtain ⟨cs', h1, h2⟩ := hi i (by omega)
      obtain ⟨y, hy⟩ := he h2
      exact ⟨y, cs', hy, h1⟩)
    subst hll
    refine ⟨l, some a, cap, rfl, hl, hm, fun i hil => ?_⟩
    obtain ⟨cs', hy, hc⟩ := hp i hil
    obtain ⟨_, hcl, hat⟩ := World.cells?_some hc
    obtain ⟨b, off, spot⟩ := a
    have hspot : spot = none := by
      obtain ⟨cs0, _, hc0⟩ := hp 0 (by omega)
      obtain ⟨_, hcl0, hat0⟩ := World.cells?_some hc0
      have h0 := hat0 0 (by omega)
      rw [List.getElem?_eq_getElem (by omega)] at h0
      simpa [Addr.add] using World.cell?_spot h0
    subst hspot
    refine ⟨b, off, cs', rfl, hy, fun k hk => ?_⟩
    have := hat k (by omega)
    rw [hC] at this
    rw [← this, add_add]
    unfold Addr.add
    split
    · rename_i hz; rw [Nat.add_assoc, hz]; rfl
    · simp [Nat.add_assoc]

theorem opens_struct2 {α0 α1 : Type} [Rep α0] [Rep α1] {f0 f1 : Field} (hs : P.underlying t = some (.struct #[f0, f1])) (hone : oneCellFields P #[f0, f1] = true) (hC : P.cellsOf t = 2) (h0 : Opens P f0.type α0) (h1 : Opens P f1.type α1) (z0 : sz α0 = 1) : Opens P t (α0 × α1) := by
  intro H enc w base spare held fuel cs x h
  obtain ⟨xs, n, _, _, hcl, hlen, hg⟩ := DataW.trod_struct hs h
  rw [hC] at hcl
  match cs, hcl with
  | [c0, c1], _ =>
    match xs, hlen with
    | [y0, y1], _ =>
      obtain ⟨o0, k0⟩ := hone_of hone 0 f0 rfl
      have g0 := hg 0 f0 rfl
      rw [o0, k0] at g0
      obtain ⟨a0, r0⟩ := h0 (cs := [c0]) (x := y0) (by simpa using g0)
      obtain ⟨o1, k1⟩ := hone_of hone 1 f1 rfl
      have g1 := hg 1 f1 rfl
      rw [o1, k1] at g1
      obtain ⟨a1, r1⟩ := h1 (cs := [c1]) (x := y1) (by simpa using g1)
      exact ⟨(a0, a1), mk_cons r0 (r1)⟩
theorem opens_struct3 {α0 α1 α2 : Type} [Rep α0] [Rep α1] [Rep α2] {f0 f1 f2 : Field} (hs : P.underlying t = some (.struct #[f0, f1, f2])) (hone : oneCellFields P #[f0, f1, f2] = true) (hC : P.cellsOf t = 3) (h0 : Opens P f0.type α0) (h1 : Opens P f1.type α1) (h2 : Opens P f2.type α2) (z0 : sz α0 = 1) (z1 : sz α1 = 1) : Opens P t (α0 × α1 × α2) := by
  intro H enc w base spare held fuel cs x h
  obtain ⟨xs, n, _, _, hcl, hlen, hg⟩ := DataW.trod_struct hs h
  rw [hC] at hcl
  match cs, hcl with
  | [c0, c1, c2], _ =>
    match xs, hlen with
    | [y0, y1, y2], _ =>
      obtain ⟨o0, k0⟩ := hone_of hone 0 f0 rfl
      have g0 := hg 0 f0 rfl
      rw [o0, k0] at g0
      obtain ⟨a0, r0⟩ := h0 (cs := [c0]) (x := y0) (by simpa using g0)
      obtain ⟨o1, k1⟩ := hone_of hone 1 f1 rfl
      have g1 := hg 1 f1 rfl
      rw [o1, k1] at g1
      obtain ⟨a1, r1⟩ := h1 (cs := [c1]) (x := y1) (by simpa using g1)
      obtain ⟨o2, k2⟩ := hone_of hone 2 f2 rfl
      have g2 := hg 2 f2 rfl
      rw [o2, k2] at g2
      obtain ⟨a2, r2⟩ := h2 (cs := [c2]) (x := y2) (by simpa using g2)
      exact ⟨(a0, a1, a2), mk_cons r0 (mk_cons r1 (r2))⟩
theorem opens_struct4 {α0 α1 α2 α3 : Type} [Rep α0] [Rep α1] [Rep α2] [Rep α3] {f0 f1 f2 f3 : Field} (hs : P.underlying t = some (.struct #[f0, f1, f2, f3])) (hone : oneCellFields P #[f0, f1, f2, f3] = true) (hC : P.cellsOf t = 4) (h0 : Opens P f0.type α0) (h1 : Opens P f1.type α1) (h2 : Opens P f2.type α2) (h3 : Opens P f3.type α3) (z0 : sz α0 = 1) (z1 : sz α1 = 1) (z2 : sz α2 = 1) : Opens P t (α0 × α1 × α2 × α3) := by
  intro H enc w base spare held fuel cs x h
  obtain ⟨xs, n, _, _, hcl, hlen, hg⟩ := DataW.trod_struct hs h
  rw [hC] at hcl
  match cs, hcl with
  | [c0, c1, c2, c3], _ =>
    match xs, hlen with
    | [y0, y1, y2, y3], _ =>
      obtain ⟨o0, k0⟩ := hone_of hone 0 f0 rfl
      have g0 := hg 0 f0 rfl
      rw [o0, k0] at g0
      obtain ⟨a0, r0⟩ := h0 (cs := [c0]) (x := y0) (by simpa using g0)
      obtain ⟨o1, k1⟩ := hone_of hone 1 f1 rfl
      have g1 := hg 1 f1 rfl
      rw [o1, k1] at g1
      obtain ⟨a1, r1⟩ := h1 (cs := [c1]) (x := y1) (by simpa using g1)
      obtain ⟨o2, k2⟩ := hone_of hone 2 f2 rfl
      have g2 := hg 2 f2 rfl
      rw [o2, k2] at g2
      obtain ⟨a2, r2⟩ := h2 (cs := [c2]) (x := y2) (by simpa using g2)
      obtain ⟨o3, k3⟩ := hone_of hone 3 f3 rfl
      have g3 := hg 3 f3 rfl
      rw [o3, k3] at g3
      obtain ⟨a3, r3⟩ := h3 (cs := [c3]) (x := y3) (by simpa using g3)
      exact ⟨(a0, a1, a2, a3), mk_cons r0 (mk_cons r1 (mk_cons r2 (r3)))⟩
theorem opens_struct5 {α0 α1 α2 α3 α4 : Type} [Rep α0] [Rep α1] [Rep α2] [Rep α3] [Rep α4] {f0 f1 f2 f3 f4 : Field} (hs : P.underlying t = some (.struct #[f0, f1, f2, f3, f4])) (hone : oneCellFields P #[f0, f1, f2, f3, f4] = true) (hC : P.cellsOf t = 5) (h0 : Opens P f0.type α0) (h1 : Opens P f1.type α1) (h2 : Opens P f2.type α2) (h3 : Opens P f3.type α3) (h4 : Opens P f4.type α4) (z0 : sz α0 = 1) (z1 : sz α1 = 1) (z2 : sz α2 = 1) (z3 : sz α3 = 1) : Opens P t (α0 × α1 × α2 × α3 × α4) := by
  intro H enc w base spare held fuel cs x h
  obtain ⟨xs, n, _, _, hcl, hlen, hg⟩ := DataW.trod_struct hs h
  rw [hC] at hcl
  match cs, hcl with
  | [c0, c1, c2, c3, c4], _ =>
    match xs, hlen with
    | [y0, y1, y2, y3, y4], _ =>
      obtain ⟨o0, k0⟩ := hone_of hone 0 f0 rfl
      have g0 := hg 0 f0 rfl
      rw [o0, k0] at g0
      obtain ⟨a0, r0⟩ := h0 (cs := [c0]) (x := y0) (by simpa using g0)
      obtain ⟨o1, k1⟩ := hone_of hone 1 f1 rfl
      have g1 := hg 1 f1 rfl
      rw [o1, k1] at g1
      obtain ⟨a1, r1⟩ := h1 (cs := [c1]) (x := y1) (by simpa using g1)
      obtain ⟨o2, k2⟩ := hone_of hone 2 f2 rfl
      have g2 := hg 2 f2 rfl
      rw [o2, k2] at g2
      obtain ⟨a2, r2⟩ := h2 (cs := [c2]) (x := y2) (by simpa using g2)
      obtain ⟨o3, k3⟩ := hone_of hone 3 f3 rfl
      have g3 := hg 3 f3 rfl
      rw [o3, k3] at g3
      obtain ⟨a3, r3⟩ := h3 (cs := [c3]) (x := y3) (by simpa using g3)
      obtain ⟨o4, k4⟩ := hone_of hone 4 f4 rfl
      have g4 := hg 4 f4 rfl
      rw [o4, k4] at g4
      obtain ⟨a4, r4⟩ := h4 (cs := [c4]) (x := y4) (by simpa using g4)
      exact ⟨(a0, a1, a2, a3, a4), mk_cons r0 (mk_cons r1 (mk_cons r2 (mk_cons r3 (r4))))⟩
theorem opens_int64 : Opens Tryd.prog 2 Int := opens_int Tryd.underlying2
theorem opens_Int64S : Opens Tryd.prog 41 (List Int) := opens_list Tryd.underlying41 (by kernel_rfl) (by decide) opens_int64
theorem len_1 {α : Type} {l : List α} (h : l.length = 1) : ∃ a0, l = [a0] := by
  match l, h with
  | [a0], _ => exact ⟨a0, rfl⟩
theorem len_2 {α : Type} {l : List α} (h : l.length = 2) : ∃ a0 a1, l = [a0, a1] := by
  match l, h with
  | [a0, a1], _ => exact ⟨a0, a1, rfl⟩
theorem len_3 {α : Type} {l : List α} (h : l.length = 3) : ∃ a0 a1 a2, l = [a0, a1, a2] := by
  match l, h with
  | [a0, a1, a2], _ => exact ⟨a0, a1, a2, rfl⟩
theorem len_4 {α : Type} {l : List α} (h : l.length = 4) : ∃ a0 a1 a2 a3, l = [a0, a1, a2, a3] := by
  match l, h with
  | [a0, a1, a2, a3], _ => exact ⟨a0, a1, a2, a3, rfl⟩
theorem len_5 {α : Type} {l : List α} (h : l.length = 5) : ∃ a0 a1 a2 a3 a4, l = [a0, a1, a2, a3, a4] := by
  match l, h with
  | [a0, a1, a2, a3, a4], _ => exact ⟨a0, a1, a2, a3, a4, rfl⟩

end Go.Proofs.YtjnkkjgkinmhkaaDoor

/-
  CONTRACTS: mark and held on slices of equations.
-/
namespace Go.Proofs.YtjnkkjgkinmhkaaDoor
open Go.RowKit
open Rep (Rd Own sz)
set_option linter.unusedSimpArgs false
set_option linter.unusedVariables false

def mcEqn (e : Eqn) : Nat := e.1.length + 1
def heldEqn (e : Eqn) (k m : Int) : Prop := ∃ a, heldInts e.1 k a ∧ k ≤ a ∧ e.2 = a ∧ m = a + 1
def heldEqns : List Eqn → Int → Int → Prop := heldL heldEqn
set_option maxRecDepth 100000 in
set_option maxHeartbeats 1000000 in
theorem markEquationS_h (l : List Eqn) (v : Value) (ps : List Nat) (k : Int) (w : World) (r : Own ps w [v] l) (hn : ps.Nodup) (k0 : 0 ≤ k) (k1 : k + (l.map mcEqn).sum ≤ 1000000000) :
    Calls Tryd.prog 27 #[v, .int .i64 k] w fun e w' => ∃ y m, e = .returned (.int .i64 m) ∧ k ≤ m ∧ m ≤ k + (l.map mcEqn).sum ∧ Own ps w' [v] y ∧ heldEqns y k m ∧ y.length = l.length ∧ But ps w w' := by
  have r' := own_list r
  obtain ⟨a, c, hv, hb⟩ := ownSl_len r'
  unfold maxLen at hb
  have HV := Lib.hid hv
  have R := Lib.hid r'
  have HN := Lib.hid hn
  rw [hv]
  clear hv r r' hn
  go_enter Tryd.func27, Tryd.ntmps27
  go_wp2_with fail
  go_loopw [1, 5] (fun kk i wr => ∃ (j : Nat) (ys : List Eqn) (q : Int), j ≤ l.length ∧ i = .int .i64 j ∧ kk = .int .i64 q ∧ k ≤ q ∧ q ≤ k + (sumTo mcEqn l j : Nat) ∧ Hid (ys.length = j) ∧ Hid (heldEqns ys k q) ∧ Hid (But ps w wr) ∧ Hid (OwnSl ps wr v (ys ++ l.drop j))) (fun _ i _ => l.length - (intOf i).toNat)
  case atStart => exact ⟨0, [], k, Nat.zero_le _, rfl, rfl, Int.le_refl _, by simp [sumTo], rfl, rfl, But.refl _ _, by simpa [Hid] using R.out⟩
  case round =>
    obtain ⟨j, ys, q, hj, rfl, rfl, q0, q1, hyl, hh, hbut, hown⟩ := hrel
    by_cases hlt : j < l.length
    · obtain ⟨g, o, c', cur, e, p, vs, hv2, hg, hO, hc, hgp, hgn, hpn, hpp, hput⟩ := own_elem hown.out HN.out j (by rw [len_mid hyl.out hj]; exact hlt)
      rw [get_mid hyl.out hlt] at hO
      rw [len_mid hyl.out hj] at hv2
      have hv3 := HV.out
      rw [hv2] at hv3
      simp only [Value.slice.injEq] at hv3
      obtain ⟨rfl, -, rfl⟩ := hv3
      have hvl := Rep.rd_len (Rep.own_rd hO)
      obtain ⟨u0, u1, rfl⟩ := len_2 hvl
      have hmc := Lib.hid (show mcEqn l[j] = l[j].1.length + 1 from rfl)
      have hs0 := sumTo_succ mcEqn l j hlt
      have hs1 := sumTo_le mcEqn l (j + 1)
      have hcell : wr.cell? ⟨g, o + j * 2, none⟩ = some u0 := by
        have := hc 0 (by simp)
        rw [cell_at_block hg]
        simpa using this
      have hfree : wr.frozen? ⟨g, o + j * 2 + 1, none⟩ = false := free_at_block hg
      have hcell1 : wr.cell? ⟨g, o + j * 2 + 1, none⟩ = some u1 := by
        have := hc 1 (by simp)
        rw [cell_at_block hg]
        simpa using this
      obtain ⟨p0, p1, rfl, hO0, hO1⟩ := own_cons rfl hO
      obtain ⟨rfl, rfl, hI⟩ := own_i1 hO1
      rw [List.append_nil] at hgn hpn hpp hput
      have HO := Lib.hid hO0
      have HG := Lib.hid hg
      have HC := Lib.hid hc
      have HP := Lib.hid hput
      have HPP := Lib.hid hpp
      have HGN := Lib.hid hgn
      have HS := Lib.hid hs0
      have HS1 := Lib.hid hs1
      obtain ⟨a0, c0, rfl, _⟩ := rd_list (Rep.own_rd hO0)
      clear hO hO0 hO1 hg hc hput hs0 hs1 hv2
      go_wp2_with fail
      refine (markInt64S_h l[j].1 _ p0 q _ HO.out (by omega) (by have := HS.out; have := HS1.out; have := hmc.out; omega)).mono ?_
      rintro e1 w1 ⟨y, m, rfl, m0, m1, hy, hh1, _, hb1⟩
      have HY := Lib.hid hy
      have HH1 := Lib.hid hh1
      clear hy hh1
      have hgl : g < wr.heap.size := (Array.getElem?_eq_some_iff.1 HG.out).1
      have hcells1 : w1.heap[g]? = some (.cells cur e (0, 0)) := by rw [hb1.block g hgl HGN.out, HG.out]
      have hfree1 : w1.frozen? ⟨g, o + j * 2 + 1, none⟩ = false := free_at_block hcells1
      have hc1 : w1.cell? ⟨g, o + j * 2 + 1, none⟩ = some (.int .i64 l[j].2) := by
        have := HC.out 1 (by simp)
        rw [cell_at_block hcells1]
        simpa using this
      have hmb : 0 ≤ m := by omega
      have hmu : m ≤ 1000000000 := by have := HS.out; have := HS1.out; have := hmc.out; omega
      have HC1 := Lib.hid hcells1
      clear hcells1
      go_wp2_with fail
      go_roundw
      case rel =>
        refine ⟨j + 1, ys ++ [(y, m)], m + 1, by omega, by go_num, rfl, by omega, by have := HS.out; have := hmc.out; omega, ?_, ?_, ?_, ?_⟩
        · simp [Hid, hyl.out]
        · exact heldL_snoc hh.out ⟨m, HH1.out, m0, rfl, rfl⟩ (by omega)
        · exact (hbut.out.trans (hb1.mono HPP.out)).trans (OnlyAt.but ((OnlyAt.refl ps w1).setCell (p := ⟨g, o + j * 2 + 1, none⟩) hgp _))
        · show OwnSl _ _ _ _
          rw [← set_mid hyl.out hlt]
          refine HP.out _ [_, .int .i64 m] (y, m) ?_ ⟨p0, [], [_], [_], by simp, rfl, Own.but HY.out (OnlyAt.but ((OnlyAt.refl [g] w1).setCell (p := ⟨g, o + j * 2 + 1, none⟩) (by simp) _)) (fun z hz hzg => HGN.out (by rw [List.mem_singleton] at hzg; exact hzg ▸ hz)), ⟨rfl, rfl, i64_of _ (by omega) (by have := HS.out; have := HS1.out; have := hmc.out; omega)⟩⟩ (fun z hz hzp hzg => ?_)
          · rw [heap_setCell_at w1 g _ _ cur e (0, 0) HC1.out, putArr_same _ (by simpa using HC.out 0 (by simp))]
            rfl
          · have hzl : z < wr.heap.size := by
              have hO2 : Own ps wr [v] (ys ++ l.drop j) := ⟨v, rfl, hown.out⟩
              exact Rep.own_lt hO2 z hz
            rw [Below.heap_setCell _ _ _ _ hzg]
            exact hb1.block z hzl hzp
      case measure => simp [intOf]; omega
    · obtain rfl : j = l.length := by omega
      have hs := sumTo_all mcEqn l
      go_wp2_with fail
      go_ret
      have hfin := hown.out
      rw [List.drop_length, List.append_nil] at hfin
      rw [← HV.out]
      exact ⟨ys, q, rfl, q0, by rw [← hs]; exact q1, ⟨_, rfl, hfin⟩, hh.out, hyl.out, hbut.out⟩
set_option maxRecDepth 100000 in
set_option maxHeartbeats 1000000 in
theorem heldEquationS_h (l : List Eqn) (v : Value) (k m : Int) (w : World) (r : Rd w [v] l) (h : heldEqns l k m) (k0 : 0 ≤ k) (k1 : m ≤ 1000000000) :
    Calls Tryd.prog 28 #[v, .int .i64 k] w fun e w' => e = .returned (.int .i64 m) ∧ w = w' := by
  obtain ⟨a, c, rfl, hr⟩ := rd_list r
  have hb := (rdSl_len hr).2
  unfold maxLen at hb
  have HR := Lib.hid hr
  have HH := Lib.hid h
  clear r hr h
  go_enter Tryd.func28, Tryd.ntmps28
  go_wp2_with fail
  go_loopw [1, 5] (fun kk i wr => ∃ (j : Nat) (q : Int), j ≤ l.length ∧ i = .int .i64 j ∧ kk = .int .i64 q ∧ 0 ≤ q ∧ Hid (heldEqns (l.drop j) q m) ∧ wr = w) (fun _ i _ => l.length - (intOf i).toNat)
  case atStart => exact ⟨0, k, Nat.zero_le _, rfl, rfl, k0, by simpa [Hid] using HH.out, rfl⟩
  case round =>
    obtain ⟨j, q, hj, rfl, rfl, q0, hh, rfl⟩ := hrel
    by_cases hlt : j < l.length
    · obtain ⟨b, o, u0, u1, rfl, f0, f1, hx⟩ := rdSl_two rfl HR.out j hlt
      have z := rd_cons rfl hx
      have HX := Lib.hid z.1
      obtain ⟨a0, c0, rfl, _⟩ := rd_list z.1
      obtain ⟨rfl, _⟩ := rd_i1 z.2
      clear hx z
      obtain ⟨m', ⟨a1, hE, ha1, he1, rfl⟩, hm, hrest⟩ := heldL_drop hlt hh.out
      have hne : (l[j].2 != a1) = false := by simp [he1]
      have HE1 := Lib.hid he1
      clear he1
      have hle := heldL_le hrest
      have HE := Lib.hid hE
      have HT := Lib.hid hrest
      clear hE hrest
      go_wp2_with fail
      refine (heldInt64S_h l[j].1 _ q a1 _ HX.out HE.out q0 (by omega)).mono ?_
      rintro e w1 ⟨rfl, rfl⟩
      go_wp2_with fail
      go_roundw
      case rel => exact ⟨j + 1, a1 + 1, by omega, by go_num, rfl, by omega, HT.out, trivial⟩
      case measure => simp [intOf]; omega
    · obtain rfl : j = l.length := by omega
      go_wp2_with fail
      go_ret
      refine ⟨ret_int ?_, rfl⟩
      have := hh.out
      rw [List.drop_length] at this
      exact this

end Go.Proofs.YtjnkkjgkinmhkaaDoor

/-
  CONTRACTS: mark and held, all in one shape.
-/
namespace Go.Proofs.YtjnkkjgkinmhkaaDoor
open Go.RowKit
open Rep (Rd Own sz)
set_option linter.unusedSimpArgs false
set_option linter.unusedVariables false

def mc_Int64S (l : List Int) : Nat := l.length
def mc_Int64SS (l : List (List Int)) : Nat := (l.map List.length).sum
def mc_Rel (x : RelT) : Nat := mc_Int64SS x.2
def mc_Equation (x : Eqn) : Nat := x.1.length
def held_Int64S (l : List Int) (k m : Int) : Prop := heldInts l k m
def held_Equation (x : Eqn) (k m : Int) : Prop := heldInts x.1 k m
theorem markInt64S_g (x : List Int) (v0 : Value) (ps : List Nat) (k : Int) (w : World) (hx : Own ps w [v0] x) (hn : ps.Nodup) (k0 : 0 ≤ k) (k1 : k + mc_Int64S x ≤ 1000000000) :
    Calls Tryd.prog 49 #[v0, .int .i64 k] w fun e w' => ∃ (y : List Int) (m : Int), e = .returned (.int .i64 m) ∧ k ≤ m ∧ m ≤ k + mc_Int64S x ∧ Own ps w' [v0] y ∧ held_Int64S y k m ∧ But ps w w' :=
  (markInt64S_h x v0 ps k w hx k0 k1).mono fun e w' ⟨y, m, h1, h2, h3, h4, h5, _, h6⟩ => ⟨y, m, h1, h2, h3, h4, h5, h6⟩
theorem heldInt64S_g (x : List Int) (v0 : Value) (k m : Int) (w : World) (hx : Rd w [v0] x) (h : held_Int64S x k m) (k0 : 0 ≤ k) (k1 : k ≤ m) (k2 : m ≤ 1000000000) :
    Calls Tryd.prog 50 #[v0, .int .i64 k] w fun e w' => e = .returned (.int .i64 m) ∧ Below w.heap.size w w' :=
  (heldInt64S_h x v0 k m w hx h k0 k2).mono fun e w' ⟨h1, h2⟩ => ⟨h1, by rw [← h2]; exact Below.refl _ _⟩
def mc_System (x : Sys) : Nat := (x.2.2.map mcEqn).sum
def held_System (x : Sys) (k m : Int) : Prop := heldEqns x.2.2 k m
theorem mc_cost_System (x : Sys) : mc_System x = cost_System x := by
  have : ∀ l : List Eqn, (l.map mcEqn).sum = l.length + (l.map cost_Equation).sum := by
    intro l
    induction l with
    | nil => rfl
    | cons e es ih =>
      simp only [List.map_cons, List.sum_cons, List.length_cons, ih, mcEqn, cost_Equation]; omega
  exact this _
set_option maxHeartbeats 400000 in
theorem markSystem_g (x : Sys) (v0 v1 v2 : Value) (ps : List Nat) (k : Int) (w : World) (hx : Own ps w [v0, v1, v2] x) (hn : ps.Nodup) (k0 : 0 ≤ k) (k1 : k + mc_System x ≤ 1000000000) :
    Calls Tryd.prog 8 #[.agg #[v0, v1, v2], .int .i64 k] w fun e w' => ∃ (y : Sys) (m : Int), e = .returned (.int .i64 m) ∧ k ≤ m ∧ m ≤ k + mc_System x ∧ Own ps w' [v0, v1, v2] y ∧ held_System y k m ∧ But ps w w' := by
  obtain ⟨x0, x1, x2⟩ := x
  obtain ⟨p, q, rfl, h0, h1⟩ := own_cons rfl hx
  obtain ⟨rfl, rfl, hI⟩ := own_i1 h0
  obtain ⟨p, q, rfl, h2, h3⟩ := own_cons rfl h1
  obtain ⟨rfl, rfl, hI1⟩ := own_i1 h2
  obtain ⟨a, c, rfl, _⟩ := rd_list (Own.rd h3)
  have hs := (St.start w).alloc #[.int .i64 x0, .int .i64 x1, .slice a x2.length c] 24 rfl
  have H := Lib.hid (Own.mono h3 hs.bel)
  have HI := Lib.hid hI
  have HI1 := Lib.hid hI1
  have HN := Lib.hid hn
  clear hx h0 h1 hI h2 h3 hI1 hn
  go_enter Tryd.func8, Tryd.ntmps8
  go_wp2_with fail
  refine (markEquationS_h x2 _ q k _ H.out (by simpa using HN.out) k0 k1).mono ?_
  rintro e w1 ⟨y, m, rfl, m0, m1, hO, hh, _, hb⟩
  have HH := Lib.hid hh
  clear hh
  go_wp2
  go_ret
  exact ⟨(x0, x1, y), m, rfl, m0, m1, mk_own (p := []) ⟨rfl, rfl, HI.out⟩ (mk_own (p := []) ⟨rfl, rfl, HI1.out⟩ hO), HH.out, ((but_of hs.bel).trans hb).mono (by simp)⟩
set_option maxHeartbeats 400000 in
theorem heldSystem_g (x : Sys) (v0 v1 v2 : Value) (k m : Int) (w : World) (hx : Rd w [v0, v1, v2] x) (h : held_System x k m) (k0 : 0 ≤ k) (k1 : k ≤ m) (k2 : m ≤ 1000000000) :
    Calls Tryd.prog 9 #[.agg #[v0, v1, v2], .int .i64 k] w fun e w' => e = .returned (.int .i64 m) ∧ Below w.heap.size w w' := by
  obtain ⟨x0, x1, x2⟩ := x
  have z := rd_cons rfl hx
  obtain ⟨rfl, _⟩ := rd_i1 z.1
  have z2 := rd_cons rfl z.2
  obtain ⟨rfl, _⟩ := rd_i1 z2.1
  have RL := Lib.hid z2.2
  obtain ⟨a, c, rfl, _⟩ := rd_list RL.out
  have hs := (St.start w).alloc #[.int .i64 x0, .int .i64 x1, .slice a x2.length c] 24 rfl
  have HH := Lib.hid (show heldEqns x2 k m from h)
  clear hx h z z2
  go_enter Tryd.func9, Tryd.ntmps9
  go_wp2_with fail
  refine (heldEquationS_h x2 _ k m _ (Rd.mono RL.out hs.bel) HH.out k0 k2).mono ?_
  rintro e w1 ⟨rfl, rfl⟩
  have hm : ¬ m < 0 := by omega
  go_wp2
  go_ret
  exact ⟨rfl, hs.bel⟩

end Go.Proofs.YtjnkkjgkinmhkaaDoor
