/-
  SEVERAL TEXTS IN ONE.
-/
import Derived.Test.YtamkfnkikiekaaaGreatRowsBRa
import Derived.Test.YtamkfnkikiekaaaGreatBaseRa
import Derived.Deep.RegionHeld3

/-
  CONTRACTS: ValidSystem of the program and of the reference.
-/
namespace Go.Proofs.YtamkfnkikiekaaaGreat
open Go.RowKit Go.Shelf
open Rep (Rd Own sz)
set_option linter.unusedSimpArgs false
set_option linter.unusedVariables false

def valsOk (size : Int) (l : List Int) (n : Int) : Bool := decide ((l.length : Int) = n) && l.all (fun a => inB a 0 (size - 1))
def eqnOk (p u : Int) (e : Eqn) : Bool := valsOk p e.1 u && inB e.2 0 (p - 1)
theorem all_of_any {α : Type} (l : List α) (q : α → Bool) : (!l.any fun a => !q a) = l.all q := by
  induction l with
  | nil => rfl
  | cons x xs ih => simp [← ih]

set_option maxHeartbeats 400000 in
theorem isValue_c (size v : Int) (w : World) (h0 : -1000 ≤ size) (h1 : size ≤ 1000000000) :
    Calls Tryz.prog 59 #[.int .i64 size, .int .i64 v] w fun e w' => e = .returned (.bool (inB v 0 (size - 1))) ∧ w = w' := by
  go_enter Tryz.func59, Tryz.ntmps59
  go_wp2_with fail
  refine (within_c _ _ _ _).mono ?_
  rintro e w1 ⟨rfl, rfl⟩
  go_wp2_with fail
  go_ret
  exact ⟨rfl, rfl⟩
set_option maxHeartbeats 400000 in
theorem areValues1_by (size : Int) (b : Nat) (w : World) (l : List Int) (h0 : -1000 ≤ size) (h1 : size ≤ 1000000000) (hc : w.cell? ⟨b, 0, none⟩ = some (.int .i64 size)) :
    PredI 58 #[.pointer (some ⟨b, 0, none⟩)] w l (fun a => !inB a 0 (size - 1)) := by
  intro W x u0 hb hr _
  obtain ⟨rfl, _⟩ := rd_i1 hr
  have hc' := cellL hb hc
  show Calls Tryz.prog 58 #[_, .pointer (some ⟨b, 0, none⟩)] W _
  go_enter Tryz.func58, Tryz.ntmps58
  go_wp2_with fail
  refine (isValue_c size x _ h0 h1).mono ?_
  rintro e w1 ⟨rfl, rfl⟩
  go_wp2_with fail
  go_ret
  exact ⟨rfl, Below.refl _ _⟩
set_option maxRecDepth 100000 in
set_option maxHeartbeats 1000000 in
theorem areValues_c (size : Int) (l : List Int) (v : Value) (n : Int) (w : World) (r : Rd w [v] l) (h0 : -1000 ≤ size) (h1 : size ≤ 1000000000) :
    Calls Tryz.prog 31 #[.int .i64 size, v, .int .i64 n] w fun e w' => e = .returned (.bool (valsOk size l n)) ∧ Below w.heap.size w w' := by
  obtain ⟨a, c, rfl, hr⟩ := rd_list r
  have hb := (rdSl_len hr).2
  unfold maxLen at hb
  have HR := Lib.hid r
  clear r hr
  have hs := (St.start w).alloc #[.int .i64 size] 2 rfl
  have eg : ∀ args w, (callFunc 58 args).run Tryz.prog w = .ok (.enter 58 args) w := enters_of Tryz.func58 (by kernel_rfl) rfl
  by_cases hn : (l.length : Int) = n
  · have hn1 : ((l.length : Int) == n) = true := by simpa using hn
    have HN := Lib.hid hn
    clear hn
    go_enter Tryz.func31, Tryz.ntmps31
    go_wp2_with fail
    refine (containsInts_c l _ 58 _ _ _ (Rd.mono HR.out hs.bel) eg (areValues1_by size w.heap.size _ l h0 h1 (hs.cellAt 0 rfl 0 rfl))).mono ?_
    rintro e w1 ⟨rfl, hb1⟩
    go_wp2_with fail
    go_ret
    refine ⟨ret_bool ?_, (hs.step hb1).bel⟩
    unfold valsOk
    rw [decide_eq_true HN.out, Bool.true_and, ← all_of_any]
  · have hn1 : ((l.length : Int) == n) = false := by simpa using hn
    have HN := Lib.hid hn
    clear hn
    go_enter Tryz.func31, Tryz.ntmps31
    go_wp2_with fail
    go_ret
    refine ⟨ret_bool ?_, hs.bel⟩
    unfold valsOk
    rw [decide_eq_false HN.out, Bool.false_and]

end Go.Proofs.YtamkfnkikiekaaaGreat

/-
  CONTRACTS: HoldsIn of the program and of the reference.
-/
namespace Go.Proofs.YtamkfnkikiekaaaGreat
open Go.RowKit Go.Shelf
open Rep (Rd Own sz)
set_option linter.unusedSimpArgs false
set_option linter.unusedVariables false

end Go.Proofs.YtamkfnkikiekaaaGreat

/-
  CONTRACTS: IsRefutation of the program and of the reference. (Printed by wip/genref.py.)
-/
namespace Go.Proofs.YtamkfnkikiekaaaGreat
open Go.RowKit Go.Shelf Go.IntWalk
open Rep (Rd Own sz)
set_option linter.unusedSimpArgs false
set_option linter.unusedVariables false

theorem flat_good {p : Int} {U n : Nat} {r : SRow} (h : GoodS p U n r) : (flat r).1.length = U + 1 ∧ (flat r).2.length = n ∧ Res p (flat r).1 ∧ Res p (flat r).2 := by
  refine ⟨by simp [flat, h.len], h.by_, fun a ha => ?_, h.resBy⟩
  rcases List.mem_append.1 ha with ha | ha
  · exact h.res a ha
  · obtain rfl : a = r.2.1 := by simpa using ha
    exact h.right
end Go.Proofs.YtamkfnkikiekaaaGreat

/-
  PLAIN: a list that is turned element by element; what elimination keeps; reading an element of what is owned.
-/
namespace Go.Proofs.YtamkfnkikiekaaaGreat
open Go.RowKit
open Rep (Rd Own sz)
set_option linter.unusedSimpArgs false
set_option linter.unusedVariables false

def mapTo {α : Type} (f : Nat → α → α) (l : List α) (j : Nat) : List α := (l.take j).mapIdx f ++ l.drop j
@[simp] theorem mapTo_length {α : Type} (f : Nat → α → α) (l : List α) (j : Nat) : (mapTo f l j).length = l.length := by simp [mapTo]; omega
def elimS (x : Sys) : List SRow × List Int := elimE (opsS x.1) (rowsS x.2.2.length 0 x.2.2) x.2.1.toNat
def elimI (x : Sys) : List RowT × List Int := elimE (opsI x.1) (rowsI x.2.2.length 0 x.2.2) x.2.1.toNat
def GoodR (p : Int) (U n : Nat) (r : RowT) : Prop := r.1.length = U + 1 ∧ r.2.length = n ∧ Res p r.1 ∧ Res p r.2
end Go.Proofs.YtamkfnkikiekaaaGreat

/-
  PLAIN: what is answered of a system: its rank, its refutation, its answers, what follows.
-/
namespace Go.Proofs.YtamkfnkikiekaaaGreat
open Go.RowKit
open Rep (Rd Own sz)
set_option linter.unusedSimpArgs false
set_option linter.unusedVariables false

/-- What is known of the rows of a valid system behind elimination. -/
structure ElimOk (s : Sys) : Prop where
  hp : s.1 = 2 ∨ s.1 = 3
  hu : 1 ≤ s.2.1 ∧ s.2.1 ≤ 12
  hl : s.2.2.length ≤ 1000
  he : ∀ e, e ∈ s.2.2 → eqnOk s.1 s.2.1 e = true
  len : (elimS s).1.length = s.2.2.length
  le : (elimS s).2.length ≤ s.2.2.length
  leU : (elimS s).2.length ≤ s.2.1.toNat
  good : AllG s.1 s.2.1.toNat s.2.2.length (elimS s).1
  rref : Rref s.1 s.2.1.toNat (elimS s).1 (elimS s).2
  flat : elimI s = ((elimS s).1.map flat, (elimS s).2)
theorem ElimOk.rowsI {s : Sys} (h : ElimOk s) : (elimI s).1.length = s.2.2.length ∧ ∀ r, r ∈ (elimI s).1 → GoodR s.1 s.2.1.toNat s.2.2.length r := by
  rw [h.flat]
  refine ⟨by simpa using h.len, fun r hr => ?_⟩
  obtain ⟨x, hx, rfl⟩ := List.mem_map.1 hr
  exact flat_good (h.good x hx)
theorem ElimOk.bs {s : Sys} (h : ElimOk s) (j : Nat) (hj : j < (elimS s).2.length) : ∃ b : Nat, (elimS s).2[j] = b ∧ b < s.2.1.toNat := by
  have := h.rref.bnd j _ (List.getElem?_eq_getElem hj)
  exact ⟨(elimS s).2[j].toNat, by omega, by omega⟩
theorem fresh_snd {α β : Type} [Rep α] [Rep β] (hα : sz α = 1) {lo : Nat} {w : World} {v0 v1 : Value} {x : α × β} (h : Fresh lo w [v0, v1] x) : Fresh lo w [v1] x.2 := by
  obtain ⟨ps, ho, hn, hl⟩ := h
  obtain ⟨p, q, rfl, _, h2⟩ := own_cons hα ho
  exact ⟨q, h2, (List.nodup_append.1 hn).2.1, fun k hk => hl k (by simp [hk])⟩
end Go.Proofs.YtamkfnkikiekaaaGreat

/-
  PLAIN LAW: elimination keeps the answers: values make all equations of a system true just if they make all of its reduced form true.
-/
namespace Go.Proofs.YtamkfnkikiekaaaGreat
open Go.RowKit
set_option linter.unusedSimpArgs false
set_option linter.unusedVariables false

end Go.Proofs.YtamkfnkikiekaaaGreat

/-
  PLAIN LAW: values put so that all rows that elimination leaves hold.
-/
namespace Go.Proofs.YtamkfnkikiekaaaGreat
open Go.RowKit
set_option linter.unusedSimpArgs false
set_option linter.unusedVariables false

end Go.Proofs.YtamkfnkikiekaaaGreat

