/-
  SEVERAL TEXTS IN ONE.
-/
import Derived.Test.YtamkfnkikiekaaaGreatBaseRa
import Derived.Shelf.Abstract
import Derived.Deep.RegionHeld3
import Derived.Lib.SmallJoins
import Derived.Deep.Slices
import Derived.Deep.Fields
import Derived.ChangeSame

/-
  CONTRACTS of the laws' functions on types: sz. (Printed by wip/gentypes.py.)
-/
namespace Go.Proofs.YtamkfnkikiekaaaGreat
open Go.RowKit
open Rep (Rd Own sz)
set_option linter.unusedSimpArgs false
set_option linter.unusedVariables false


abbrev Vdct := Int × List Int × List (Int × Int × Int) × List (Int × Int × Int) × List Int
theorem rd_i1 {w : World} {v : Value} {n : Int} (h : Rd w [v] n) : v = .int .i64 n ∧ I64 n := ⟨by simpa using h.1, h.2⟩
/-- What sz takes off the budget: all lengths. -/
def cL {α : Type} (c : α → Nat) (l : List α) : Nat := l.length + (l.map c).sum
end Go.Proofs.YtamkfnkikiekaaaGreat

/-
  CONTRACTS of the laws' functions on types: to. (Printed by wip/gentypes.py.)
-/
namespace Go.Proofs.YtamkfnkikiekaaaGreat
open Go.RowKit
open Rep (Rd Own sz)
set_option linter.unusedSimpArgs false
set_option linter.unusedVariables false


end Go.Proofs.YtamkfnkikiekaaaGreat

/-
  CONTRACTS of the laws' functions on types: eq. (Printed by wip/gentypes.py.)
-/
namespace Go.Proofs.YtamkfnkikiekaaaGreat
open Go.RowKit
open Rep (Rd Own sz)
set_option linter.unusedSimpArgs false
set_option linter.unusedVariables false


instance decI3 : DecidableEq (List (Int × Int × Int)) := inferInstance
instance decV4 : DecidableEq (List (Int × Int × Int) × List Int) := instDecidableEqProd
instance decV3 : DecidableEq (List (Int × Int × Int) × List (Int × Int × Int) × List Int) := instDecidableEqProd
instance decV2 : DecidableEq (List Int × List (Int × Int × Int) × List (Int × Int × Int) × List Int) := instDecidableEqProd
instance decV1 : DecidableEq Vdct := instDecidableEqProd
theorem take_succG {α : Type} {l1 l2 : List α} {k : Nat} (h1 : k < l1.length) (h2 : k < l2.length) (h : l1.take k = l2.take k) (e : l1[k] = l2[k]) : l1.take (k + 1) = l2.take (k + 1) := by
  rw [List.take_succ_eq_append_getElem h1, List.take_succ_eq_append_getElem h2, h, e]
theorem ne_getG {α : Type} {l1 l2 : List α} {k : Nat} (h1 : k < l1.length) (h2 : k < l2.length) (e : ¬ l1[k] = l2[k]) : ¬ l1 = l2 := by rintro rfl; exact e rfl
theorem take_allG {α : Type} {l1 l2 : List α} {n : Nat} (h1 : l1.length = n) (h2 : l2.length = n) (h : l1.take n = l2.take n) : l1 = l2 := by
  rwa [List.take_of_length_le (by omega), List.take_of_length_le (by omega)] at h

end Go.Proofs.YtamkfnkikiekaaaGreat

/-
  CONTRACTS: mark and held on slices of slices and of equations.
-/
namespace Go.Proofs.YtamkfnkikiekaaaGreat
open Go.RowKit
open Rep (Rd Own sz)
set_option linter.unusedSimpArgs false
set_option linter.unusedVariables false

end Go.Proofs.YtamkfnkikiekaaaGreat

/-
  CONTRACTS of the laws' functions on types: open: what the row lays down is read. (Printed by wip/gentypes.py.)
-/
namespace Go.Proofs.YtamkfnkikiekaaaGreat
open Go.RowKit Go.ChangeShapes Go.WideShapes Go.Deep Go.Joins
open Rep (Rd Own sz)
set_option linter.unusedSimpArgs false
set_option linter.unusedVariables false


def Opens (P : Program) (t : TypeId) (α : Type) [Rep α] : Prop :=
  ∀ {H : Type} {enc : TypeId × Value → H} {w : World} {base : Nat} {spare : Nat → Bool} {held : Bool} {fuel : Nat} {cs : List Value} {x : DataW H × List MemPlace},
    DataW.trod enc P w base spare held fuel t cs = some x → ∃ a : α, Rd w cs a
variable {P : Program} {t : TypeId}
theorem choose_list {α : Type} {p : Nat → α → Prop} : ∀ n, (∀ i, i < n → ∃ y, p i y) → ∃ l : List α, l.length = n ∧ ∀ i (h : i < l.length), p i l[i]
  | 0, _ => ⟨[], rfl, fun i h => absurd h (Nat.not_lt_zero _)⟩
  | n + 1, h => by
    obtain ⟨l, hl, hp⟩ := choose_list n (fun i hi => h i (by omega))
    obtain ⟨y, hy⟩ := h n (by omega)
    refine ⟨l ++ [y], by simp [hl], fun i hi => ?_⟩
    by_cases hlt : i < l.length
    · rw [List.getElem_append_left hlt]; exact hp i hlt
    · have : i = l.length := by simp at hi; omega
      subst this
      rw [List.getElem_append_right (by omega)]
      simp only [Nat.sub_self, List.getElem_cons_zero]
      rw [hl]; exact hy
theorem opens_list {α : Type} [Rep α] {e : TypeId} (ht : P.underlying t = some (.slice e)) (hC : P.cellsOf e = sz α) (hz : 0 < sz α) (he : Opens P e α) : Opens P t (List α) := by
  intro H enc w base spare held fuel cs x h
  rcases open_slice ht h with ⟨rfl, _⟩ | ⟨a, len, cap, m, n, D, Pl, rfl, hb, hl, hm, hmm, _, hi⟩
  · exact ⟨[], none, 0, rfl, Nat.zero_le _, Nat.zero_le _, fun i hi => absurd hi (Nat.not_lt_zero _)⟩
  · have hlm : len ≤ m := by rw [hmm]; split <;> omega
    obtain ⟨l, hll, hp⟩ := choose_list (p := fun i (y : α) => ∃ cs', Rd w cs' y ∧ w.cells? base (a.add (i * P.cellsOf e)) (P.cellsOf e) = some cs') len (fun i hlt => by
      obtain ⟨cs', h1, h2⟩ := hi i (by omega)
      obtain ⟨y, hy⟩ := he h2
      exact ⟨y, cs', hy, h1⟩)
    subst hll
    refine ⟨l, some a, cap, rfl, hl, hm, fun i hil => ?_⟩
    obtain ⟨cs', hy, hc⟩ := hp i hil
    obtain ⟨_, hcl, hat⟩ := World.cells?_some hc
    obtain ⟨b, off, spot⟩ := a
    have hspot : spot = none := by
      obtain ⟨cs0, _, hc0⟩ := hp 0 (by omega)
      obtain ⟨_, hcl0, hat0⟩ := World.cells?_some hc0
      have h0 := hat0 0 (by omega)
      rw [List.getElem?_eq_getElem (by omega)] at h0
      simpa [Addr.add] using World.cell?_spot h0
    subst hspot
    refine ⟨b, off, cs', rfl, hy, fun k hk => ?_⟩
    have := hat k (by omega)
    rw [hC] at this
    rw [← this, add_add]
    unfold Addr.add
    split
    · rename_i hz; rw [Nat.add_assoc, hz]; rfl
    · simp [Nat.add_assoc]

end Go.Proofs.YtamkfnkikiekaaaGreat

/-
  CONTRACTS: mark and held on slices of equations.
-/
namespace Go.Proofs.YtamkfnkikiekaaaGreat
open Go.RowKit
open Rep (Rd Own sz)
set_option linter.unusedSimpArgs false
set_option linter.unusedVariables false


end Go.Proofs.YtamkfnkikiekaaaGreat

/-
  CONTRACTS: mark and held, all in one shape.
-/
namespace Go.Proofs.YtamkfnkikiekaaaGreat
open Go.RowKit
open Rep (Rd Own sz)
set_option linter.unusedSimpArgs false
set_option linter.unusedVariables false

end Go.Proofs.YtamkfnkikiekaaaGreat

