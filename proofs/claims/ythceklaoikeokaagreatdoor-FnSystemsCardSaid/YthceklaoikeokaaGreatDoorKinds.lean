/-
  SEVERAL TEXTS IN ONE.
-/
import Derived.Test.YthceklaoikeokaaGreatDoorBase
import Derived.Shelf.Abstract
import Derived.Deep.RegionHeld3
import Derived.Lib.SmallJoins
import Derived.Deep.Slices
import Derived.Deep.Fields
import Derived.ChangeSame

/-
  CONTRACTS of the laws' functions on types: sz. (Printed by wip/gentypes.py.)
-/
namespace Go.Proofs.YthceklaoikeokaaGreatDoor
open Go.RowKit
open Rep (Rd Own sz)
set_option linter.unusedSimpArgs false
set_option linter.unusedVariables false


abbrev Fml := Int × Int × List OpT
abbrev Vdct := Int × List Int × List (Int × Int × Int) × List (Int × Int × Int) × List Int
theorem rd_i1 {w : World} {v : Value} {n : Int} (h : Rd w [v] n) : v = .int .i64 n ∧ I64 n := ⟨by simpa using h.1, h.2⟩
/-- What sz takes off the budget: all lengths. -/
def cL {α : Type} (c : α → Nat) (l : List α) : Nat := l.length + (l.map c).sum
def sumTo {α : Type} (c : α → Nat) (l : List α) (j : Nat) : Nat := ((l.take j).map c).sum
theorem sumTo_succ {α : Type} (c : α → Nat) (l : List α) (j : Nat) (h : j < l.length) : sumTo c l (j + 1) = sumTo c l j + c l[j] := by
  rw [sumTo, sumTo, List.take_succ_eq_append_getElem h, List.map_append, List.sum_append]; rfl
theorem sumTo_all {α : Type} (c : α → Nat) (l : List α) : sumTo c l l.length = (l.map c).sum := by simp [sumTo]
theorem sumTo_le {α : Type} (c : α → Nat) (l : List α) (j : Nat) : sumTo c l j ≤ (l.map c).sum := by
  have : (l.map c).sum = ((l.take j).map c).sum + ((l.drop j).map c).sum := by rw [← List.sum_append, ← List.map_append, List.take_append_drop]
  unfold sumTo; omega
theorem cL_mem {α : Type} (c : α → Nat) (l : List α) (j : Nat) (h : j < l.length) : c l[j] + l.length ≤ cL c l := by
  have h1 := sumTo_succ c l j h
  have h2 := sumTo_le c l (j + 1)
  unfold cL; omega
theorem less_cases (L : Int) (c : Nat) : (less L c = -1 ∧ L - c < 0) ∨ (less L c = L - c ∧ 0 ≤ L - c) := by
  unfold less; split
  · exact .inl ⟨rfl, by assumption⟩
  · exact .inr ⟨rfl, by omega⟩
theorem less_no {L : Int} {c : Nat} (h : L - c < 0) : less L c = -1 := by unfold less; rw [if_pos h]
theorem less_yes {L : Int} {c : Nat} (h : 0 ≤ L - c) : less L c = L - c := by unfold less; rw [if_neg (by omega)]
theorem rdSl_four {α : Type} [Rep α] (hα : sz α = 4) {w : World} {a : Option Addr} {c : Nat} {l : List α} (h : RdSl w a c l) (i : Nat) (hi : i < l.length) :
    ∃ b o v0 v1 v2 v3, a = some ⟨b, o, none⟩ ∧ w.cell? ⟨b, o + i * 4, none⟩ = some v0 ∧ w.cell? ⟨b, o + i * 4 + 1, none⟩ = some v1 ∧ w.cell? ⟨b, o + i * 4 + 2, none⟩ = some v2 ∧ w.cell? ⟨b, o + i * 4 + 3, none⟩ = some v3 ∧ Rd w [v0, v1, v2, v3] l[i] := by
  obtain ⟨b, o, vs, ha, hr, hc⟩ := h.2.2 i hi
  have hl := Rep.rd_len hr
  rw [hα] at hl hc
  match vs, hl with
  | [v0, v1, v2, v3], _ =>
    exact ⟨b, o, v0, v1, v2, v3, ha, by have := hc 0 (by simp); simpa using this, by have := hc 1 (by simp); simpa using this, by have := hc 2 (by simp); simpa using this, by have := hc 3 (by simp); simpa using this, hr⟩

def cost_Int64SS : List (List Int) → Nat := cL List.length
def cost_Equation (x : Eqn) : Nat := List.length (x.1)
def cost_Op (x : OpT) : Nat := List.length (x.2)
def cost_Con (x : OpT) : Nat := List.length (x.2)
def cost_Rel (x : RelT) : Nat := cost_Int64SS (x.2)
def cost_EquationS : List (Eqn) → Nat := cL cost_Equation
def cost_OpS : List (OpT) → Nat := cL cost_Op
def cost_ConS : List (OpT) → Nat := cL cost_Con
def cost_RelS : List (RelT) → Nat := cL cost_Rel
def cost_ArcStepS : List ((Int × Int × Int)) → Nat := List.length
def cost_PairStepS : List ((Int × Int × Int)) → Nat := List.length
def cost_LineS : List ((Int × Int × Int × Int)) → Nat := List.length
def cost_System (x : Sys) : Nat := cost_EquationS (x.2.2)
def cost_Template (x : Tmpl) : Nat := cost_RelS (x.2)
def cost_Instance (x : Inst) : Nat := cost_ConS (x.2)
def cost_Verdict (x : Vdct) : Nat := List.length (x.2.1) + cost_ArcStepS (x.2.2.1) + cost_PairStepS (x.2.2.2.1) + List.length (x.2.2.2.2)
def cost_Atom (x : OpT) : Nat := List.length (x.2)
def cost_AtomS : List (OpT) → Nat := cL cost_Atom
def cost_Formula (x : Fml) : Nat := cost_AtomS (x.2.2)


end Go.Proofs.YthceklaoikeokaaGreatDoor

/-
  CONTRACTS of the laws' functions on types: to. (Printed by wip/gentypes.py.)
-/
namespace Go.Proofs.YthceklaoikeokaaGreatDoor
open Go.RowKit
open Rep (Rd Own sz)
set_option linter.unusedSimpArgs false
set_option linter.unusedVariables false


theorem size_setCell (w : World) (a : Addr) (v : Value) : (w.setCell a v).heap.size = w.heap.size := by simp [World.setCell]

end Go.Proofs.YthceklaoikeokaaGreatDoor

/-
  CONTRACTS of the laws' functions on types: eq. (Printed by wip/gentypes.py.)
-/
namespace Go.Proofs.YthceklaoikeokaaGreatDoor
open Go.RowKit
open Rep (Rd Own sz)
set_option linter.unusedSimpArgs false
set_option linter.unusedVariables false


instance decI3 : DecidableEq (List (Int × Int × Int)) := inferInstance
instance decV4 : DecidableEq (List (Int × Int × Int) × List Int) := instDecidableEqProd
instance decV3 : DecidableEq (List (Int × Int × Int) × List (Int × Int × Int) × List Int) := instDecidableEqProd
instance decV2 : DecidableEq (List Int × List (Int × Int × Int) × List (Int × Int × Int) × List Int) := instDecidableEqProd
instance decV1 : DecidableEq Vdct := instDecidableEqProd
theorem take_succG {α : Type} {l1 l2 : List α} {k : Nat} (h1 : k < l1.length) (h2 : k < l2.length) (h : l1.take k = l2.take k) (e : l1[k] = l2[k]) : l1.take (k + 1) = l2.take (k + 1) := by
  rw [List.take_succ_eq_append_getElem h1, List.take_succ_eq_append_getElem h2, h, e]
theorem ne_getG {α : Type} {l1 l2 : List α} {k : Nat} (h1 : k < l1.length) (h2 : k < l2.length) (e : ¬ l1[k] = l2[k]) : ¬ l1 = l2 := by rintro rfl; exact e rfl
theorem take_allG {α : Type} {l1 l2 : List α} {n : Nat} (h1 : l1.length = n) (h2 : l2.length = n) (h : l1.take n = l2.take n) : l1 = l2 := by
  rwa [List.take_of_length_le (by omega), List.take_of_length_le (by omega)] at h

end Go.Proofs.YthceklaoikeokaaGreatDoor

/-
  CONTRACTS: mark and held on slices of slices and of equations.
-/
namespace Go.Proofs.YthceklaoikeokaaGreatDoor
open Go.RowKit
open Rep (Rd Own sz)
set_option linter.unusedSimpArgs false
set_option linter.unusedVariables false

theorem putArr_same {cur : Array Value} {o : Nat} {v : Value} (vs : List Value) (h : cur[o]? = some v) : putArr cur o (v :: vs) = putArr cur (o + 1) vs := by
  rw [putArr]
  congr 1
  apply Array.ext_getElem?
  intro i
  by_cases hi : o = i
  · subst hi
    have := (Array.getElem?_eq_some_iff.1 h).1
    rw [Array.getElem?_setIfInBounds_self_of_lt this, h]
  · rw [Array.getElem?_setIfInBounds_ne hi]
theorem set_mid {α : Type} {ys l : List α} {j : Nat} (hy : ys.length = j) (hj : j < l.length) (y : α) : (ys ++ l.drop j).set j y = (ys ++ [y]) ++ l.drop (j + 1) := by
  subst hy
  rw [List.set_append_right _ _ (Nat.le_refl _), Nat.sub_self, List.drop_eq_getElem_cons hj, List.set_cons_zero, List.append_assoc]; rfl
theorem get_mid {α : Type} {ys l : List α} {j : Nat} (hy : ys.length = j) (hj : j < l.length) (h : j < (ys ++ l.drop j).length) : (ys ++ l.drop j)[j] = l[j] := by
  subst hy
  rw [List.getElem_append_right (Nat.le_refl _)]
  simp
theorem len_mid {α : Type} {ys l : List α} {j : Nat} (hy : ys.length = j) (hj : j ≤ l.length) : (ys ++ l.drop j).length = l.length := by simp [hy]; omega


end Go.Proofs.YthceklaoikeokaaGreatDoor

/-
  CONTRACTS of the laws' functions on types: open: what the row lays down is read. (Printed by wip/gentypes.py.)
-/
namespace Go.Proofs.YthceklaoikeokaaGreatDoor
open Go.RowKit Go.ChangeShapes Go.WideShapes Go.Deep Go.Joins
open Rep (Rd Own sz)
set_option linter.unusedSimpArgs false
set_option linter.unusedVariables false


def Opens (P : Program) (t : TypeId) (α : Type) [Rep α] : Prop :=
  ∀ {H : Type} {enc : TypeId × Value → H} {w : World} {base : Nat} {spare : Nat → Bool} {held : Bool} {fuel : Nat} {cs : List Value} {x : DataW H × List MemPlace},
    DataW.trod enc P w base spare held fuel t cs = some x → ∃ a : α, Rd w cs a
variable {P : Program} {t : TypeId}
theorem choose_list {α : Type} {p : Nat → α → Prop} : ∀ n, (∀ i, i < n → ∃ y, p i y) → ∃ l : List α, l.length = n ∧ ∀ i (h : i < l.length), p i l[i]
  | 0, _ => ⟨[], rfl, fun i h => absurd h (Nat.not_lt_zero _)⟩
  | n + 1, h => by
    obtain ⟨l, hl, hp⟩ := choose_list n (fun i hi => h i (by omega))
    obtain ⟨y, hy⟩ := h n (by omega)
    refine ⟨l ++ [y], by simp [hl], fun i hi => ?_⟩
    by_cases hlt : i < l.length
    · rw [List.getElem_append_left hlt]; exact hp i hlt
    · have : i = l.length := by simp at hi; omega
      subst this
      rw [List.getElem_append_right (by omega)]
      simp only [Nat.sub_self, List.getElem_cons_zero]
      rw [hl]; exact hy
theorem opens_int (ht : P.underlying t = some (.int .i64)) : Opens P t Int := by
  intro H enc w base spare held fuel cs x h
  obtain ⟨n, rfl, _, hw⟩ := DataW.trod_int ht h
  refine ⟨n, rfl, ?_⟩
  simp [Lit.wf, IntKind.min, IntKind.max, IntKind.signed, IntKind.bits] at hw
  exact ⟨by omega, by omega⟩
theorem opens_list {α : Type} [Rep α] {e : TypeId} (ht : P.underlying t = some (.slice e)) (hC : P.cellsOf e = sz α) (hz : 0 < sz α) (he : Opens P e α) : Opens P t (List α) := by
  intro H enc w base spare held fuel cs x h
  rcases open_slice ht h with ⟨rfl, _⟩ | ⟨a, len, cap, m, n, D, Pl, rfl, hb, hl, hm, hmm, _, hi⟩
  · exact ⟨[], none, 0, rfl, Nat.zero_le _, Nat.zero_le _, fun i hi => absurd hi (Nat.not_lt_zero _)⟩
  · have hlm : len ≤ m := by rw [hmm]; split <;> omega
    obtain ⟨l, hll, hp⟩ := choose_list (p := fun i (y : α) => ∃ cs', Rd w cs' y ∧ w.cells? base (a.add (i * P.cellsOf e)) (P.cellsOf e) = some cs') len (fun i hlt => by
      obtain ⟨cs', h1, h2⟩ := hi i (by omega)
      obtain ⟨y, hy⟩ := he h2
      exact ⟨y, cs', hy, h1⟩)
    subst hll
    refine ⟨l, some a, cap, rfl, hl, hm, fun i hil => ?_⟩
    obtain ⟨cs', hy, hc⟩ := hp i hil
    obtain ⟨_, hcl, hat⟩ := World.cells?_some hc
    obtain ⟨b, off, spot⟩ := a
    have hspot : spot = none := by
      obtain ⟨cs0, _, hc0⟩ := hp 0 (by omega)
      obtain ⟨_, hcl0, hat0⟩ := World.cells?_some hc0
      have h0 := hat0 0 (by omega)
      rw [List.getElem?_eq_getElem (by omega)] at h0
      simpa [Addr.add] using World.cell?_spot h0
    subst hspot
    refine ⟨b, off, cs', rfl, hy, fun k hk => ?_⟩
    have := hat k (by omega)
    rw [hC] at this
    rw [← this, add_add]
    unfold Addr.add
    split
    · rename_i hz; rw [Nat.add_assoc, hz]; rfl
    · simp [Nat.add_assoc]

theorem opens_struct2 {α0 α1 : Type} [Rep α0] [Rep α1] {f0 f1 : Field} (hs : P.underlying t = some (.struct #[f0, f1])) (hone : oneCellFields P #[f0, f1] = true) (hC : P.cellsOf t = 2) (h0 : Opens P f0.type α0) (h1 : Opens P f1.type α1) (z0 : sz α0 = 1) : Opens P t (α0 × α1) := by
  intro H enc w base spare held fuel cs x h
  obtain ⟨xs, n, _, _, hcl, hlen, hg⟩ := DataW.trod_struct hs h
  rw [hC] at hcl
  match cs, hcl with
  | [c0, c1], _ =>
    match xs, hlen with
    | [y0, y1], _ =>
      obtain ⟨o0, k0⟩ := hone_of hone 0 f0 rfl
      have g0 := hg 0 f0 rfl
      rw [o0, k0] at g0
      obtain ⟨a0, r0⟩ := h0 (cs := [c0]) (x := y0) (by simpa using g0)
      obtain ⟨o1, k1⟩ := hone_of hone 1 f1 rfl
      have g1 := hg 1 f1 rfl
      rw [o1, k1] at g1
      obtain ⟨a1, r1⟩ := h1 (cs := [c1]) (x := y1) (by simpa using g1)
      exact ⟨(a0, a1), mk_cons r0 (r1)⟩
theorem opens_struct3 {α0 α1 α2 : Type} [Rep α0] [Rep α1] [Rep α2] {f0 f1 f2 : Field} (hs : P.underlying t = some (.struct #[f0, f1, f2])) (hone : oneCellFields P #[f0, f1, f2] = true) (hC : P.cellsOf t = 3) (h0 : Opens P f0.type α0) (h1 : Opens P f1.type α1) (h2 : Opens P f2.type α2) (z0 : sz α0 = 1) (z1 : sz α1 = 1) : Opens P t (α0 × α1 × α2) := by
  intro H enc w base spare held fuel cs x h
  obtain ⟨xs, n, _, _, hcl, hlen, hg⟩ := DataW.trod_struct hs h
  rw [hC] at hcl
  match cs, hcl with
  | [c0, c1, c2], _ =>
    match xs, hlen with
    | [y0, y1, y2], _ =>
      obtain ⟨o0, k0⟩ := hone_of hone 0 f0 rfl
      have g0 := hg 0 f0 rfl
      rw [o0, k0] at g0
      obtain ⟨a0, r0⟩ := h0 (cs := [c0]) (x := y0) (by simpa using g0)
      obtain ⟨o1, k1⟩ := hone_of hone 1 f1 rfl
      have g1 := hg 1 f1 rfl
      rw [o1, k1] at g1
      obtain ⟨a1, r1⟩ := h1 (cs := [c1]) (x := y1) (by simpa using g1)
      obtain ⟨o2, k2⟩ := hone_of hone 2 f2 rfl
      have g2 := hg 2 f2 rfl
      rw [o2, k2] at g2
      obtain ⟨a2, r2⟩ := h2 (cs := [c2]) (x := y2) (by simpa using g2)
      exact ⟨(a0, a1, a2), mk_cons r0 (mk_cons r1 (r2))⟩
theorem opens_struct4 {α0 α1 α2 α3 : Type} [Rep α0] [Rep α1] [Rep α2] [Rep α3] {f0 f1 f2 f3 : Field} (hs : P.underlying t = some (.struct #[f0, f1, f2, f3])) (hone : oneCellFields P #[f0, f1, f2, f3] = true) (hC : P.cellsOf t = 4) (h0 : Opens P f0.type α0) (h1 : Opens P f1.type α1) (h2 : Opens P f2.type α2) (h3 : Opens P f3.type α3) (z0 : sz α0 = 1) (z1 : sz α1 = 1) (z2 : sz α2 = 1) : Opens P t (α0 × α1 × α2 × α3) := by
  intro H enc w base spare held fuel cs x h
  obtain ⟨xs, n, _, _, hcl, hlen, hg⟩ := DataW.trod_struct hs h
  rw [hC] at hcl
  match cs, hcl with
  | [c0, c1, c2, c3], _ =>
    match xs, hlen with
    | [y0, y1, y2, y3], _ =>
      obtain ⟨o0, k0⟩ := hone_of hone 0 f0 rfl
      have g0 := hg 0 f0 rfl
      rw [o0, k0] at g0
      obtain ⟨a0, r0⟩ := h0 (cs := [c0]) (x := y0) (by simpa using g0)
      obtain ⟨o1, k1⟩ := hone_of hone 1 f1 rfl
      have g1 := hg 1 f1 rfl
      rw [o1, k1] at g1
      obtain ⟨a1, r1⟩ := h1 (cs := [c1]) (x := y1) (by simpa using g1)
      obtain ⟨o2, k2⟩ := hone_of hone 2 f2 rfl
      have g2 := hg 2 f2 rfl
      rw [o2, k2] at g2
      obtain ⟨a2, r2⟩ := h2 (cs := [c2]) (x := y2) (by simpa using g2)
      obtain ⟨o3, k3⟩ := hone_of hone 3 f3 rfl
      have g3 := hg 3 f3 rfl
      rw [o3, k3] at g3
      obtain ⟨a3, r3⟩ := h3 (cs := [c3]) (x := y3) (by simpa using g3)
      exact ⟨(a0, a1, a2, a3), mk_cons r0 (mk_cons r1 (mk_cons r2 (r3)))⟩
theorem opens_struct5 {α0 α1 α2 α3 α4 : Type} [Rep α0] [Rep α1] [Rep α2] [Rep α3] [Rep α4] {f0 f1 f2 f3 f4 : Field} (hs : P.underlying t = some (.struct #[f0, f1, f2, f3, f4])) (hone : oneCellFields P #[f0, f1, f2, f3, f4] = true) (hC : P.cellsOf t = 5) (h0 : Opens P f0.type α0) (h1 : Opens P f1.type α1) (h2 : Opens P f2.type α2) (h3 : Opens P f3.type α3) (h4 : Opens P f4.type α4) (z0 : sz α0 = 1) (z1 : sz α1 = 1) (z2 : sz α2 = 1) (z3 : sz α3 = 1) : Opens P t (α0 × α1 × α2 × α3 × α4) := by
  intro H enc w base spare held fuel cs x h
  obtain ⟨xs, n, _, _, hcl, hlen, hg⟩ := DataW.trod_struct hs h
  rw [hC] at hcl
  match cs, hcl with
  | [c0, c1, c2, c3, c4], _ =>
    match xs, hlen with
    | [y0, y1, y2, y3, y4], _ =>
      obtain ⟨o0, k0⟩ := hone_of hone 0 f0 rfl
      have g0 := hg 0 f0 rfl
      rw [o0, k0] at g0
      obtain ⟨a0, r0⟩ := h0 (cs := [c0]) (x := y0) (by simpa using g0)
      obtain ⟨o1, k1⟩ := hone_of hone 1 f1 rfl
      have g1 := hg 1 f1 rfl
      rw [o1, k1] at g1
      obtain ⟨a1, r1⟩ := h1 (cs := [c1]) (x := y1) (by simpa using g1)
      obtain ⟨o2, k2⟩ := hone_of hone 2 f2 rfl
      have g2 := hg 2 f2 rfl
      rw [o2, k2] at g2
      obtain ⟨a2, r2⟩ := h2 (cs := [c2]) (x := y2) (by simpa using g2)
      obtain ⟨o3, k3⟩ := hone_of hone 3 f3 rfl
      have g3 := hg 3 f3 rfl
      rw [o3, k3] at g3
      obtain ⟨a3, r3⟩ := h3 (cs := [c3]) (x := y3) (by simpa using g3)
      obtain ⟨o4, k4⟩ := hone_of hone 4 f4 rfl
      have g4 := hg 4 f4 rfl
      rw [o4, k4] at g4
      obtain ⟨a4, r4⟩ := h4 (cs := [c4]) (x := y4) (by simpa using g4)
      exact ⟨(a0, a1, a2, a3, a4), mk_cons r0 (mk_cons r1 (mk_cons r2 (mk_cons r3 (r4))))⟩
theorem opens_int64 : Opens Tryz.prog 2 Int := opens_int Tryz.underlying2
theorem opens_Int64S : Opens Tryz.prog 28 (List Int) := opens_list Tryz.underlying28 (by kernel_rfl) (by decide) opens_int64
theorem opens_Int64SS : Opens Tryz.prog 35 (List (List Int)) := opens_list Tryz.underlying35 (by kernel_rfl) (by decide) opens_Int64S
theorem len_1 {α : Type} {l : List α} (h : l.length = 1) : ∃ a0, l = [a0] := by
  match l, h with
  | [a0], _ => exact ⟨a0, rfl⟩
theorem len_2 {α : Type} {l : List α} (h : l.length = 2) : ∃ a0 a1, l = [a0, a1] := by
  match l, h with
  | [a0, a1], _ => exact ⟨a0, a1, rfl⟩
theorem len_3 {α : Type} {l : List α} (h : l.length = 3) : ∃ a0 a1 a2, l = [a0, a1, a2] := by
  match l, h with
  | [a0, a1, a2], _ => exact ⟨a0, a1, a2, rfl⟩
theorem len_4 {α : Type} {l : List α} (h : l.length = 4) : ∃ a0 a1 a2 a3, l = [a0, a1, a2, a3] := by
  match l, h with
  | [a0, a1, a2, a3], _ => exact ⟨a0, a1, a2, a3, rfl⟩
theorem len_5 {α : Type} {l : List α} (h : l.length = 5) : ∃ a0 a1 a2 a3 a4, l = [a0, a1, a2, a3, a4] := by
  match l, h with
  | [a0, a1, a2, a3, a4], _ => exact ⟨a0, a1, a2, a3, a4, rfl⟩

end Go.Proofs.YthceklaoikeokaaGreatDoor

/-
  CONTRACTS: mark and held on slices of equations.
-/
namespace Go.Proofs.YthceklaoikeokaaGreatDoor
open Go.RowKit
open Rep (Rd Own sz)
set_option linter.unusedSimpArgs false
set_option linter.unusedVariables false


end Go.Proofs.YthceklaoikeokaaGreatDoor

/-
  CONTRACTS: mark and held, all in one shape.
-/
namespace Go.Proofs.YthceklaoikeokaaGreatDoor
open Go.RowKit
open Rep (Rd Own sz)
set_option linter.unusedSimpArgs false
set_option linter.unusedVariables false

def mc_Int64S (l : List Int) : Nat := l.length
def mc_Int64SS (l : List (List Int)) : Nat := (l.map List.length).sum
def mc_Rel (x : RelT) : Nat := mc_Int64SS x.2
def mc_Equation (x : Eqn) : Nat := x.1.length
def held_Int64S (l : List Int) (k m : Int) : Prop := heldInts l k m
def held_Equation (x : Eqn) (k m : Int) : Prop := heldInts x.1 k m

end Go.Proofs.YthceklaoikeokaaGreatDoor
