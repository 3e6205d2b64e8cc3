/-
  PLAIN: what is answered of a system: its rank, its refutation, its answers, what follows.
-/
import Derived.Test.YtoblfnoaepbhfaaMapTo
namespace Go.Proofs.Ytoblfnoaepbhfaa
open Go.RowKit
open Rep (Rd Own sz)
set_option linter.unusedSimpArgs false
set_option linter.unusedVariables false

def row0 : SRow := ([], 0, [])
def falseS (s : Sys) : Int := falseF (elimS s).1 (elimS s).2.length
def rankF (s : Sys) : Int × Int := if validS s = true then (if 0 ≤ falseS s then (0, 4) else ((elimS s).2.length, 0)) else (0, 1)
def countF (s : Sys) : Int × Int := if validS s = true then (if 0 ≤ falseS s then (0, 0) else (s.1 ^ (s.2.1 - (elimS s).2.length).toNat, 0)) else (0, 1)
def badS (s : Sys) : SRow := (elimS s).1.getD (falseS s).toNat row0
def refuteF (s : Sys) : List Int × Int := if validS s = true then (if 0 ≤ falseS s then ((scaleS s.1 (badS s).2.1 (badS s)).2.2, 0) else ([], 6)) else ([], 1)
def solveTo (rows : List SRow) (bs : List Int) (U : Nat) : Nat → List Int
  | 0 => List.replicate U 0
  | j + 1 => (solveTo rows bs U j).set (bs.getD j 0).toNat (rows.getD j row0).2.1
def solveF (s : Sys) : List Int × Int := if validS s = true then (if 0 ≤ falseS s then ([], 6) else (solveTo (elimS s).1 (elimS s).2 s.2.1.toNat (elimS s).2.length, 0)) else ([], 1)
/-- What is left of an equation when the rows that are done are taken away. -/
def takenTo (p : Int) (rows : List SRow) (bs : List Int) (x : SRow) : Nat → SRow
  | 0 => x
  | j + 1 => lessS p ((takenTo p rows bs x j).1.getD (bs.getD j 0).toNat 0) (takenTo p rows bs x j) (rows.getD j row0)
def takenS (s : Sys) (e : Eqn) : SRow := takenTo s.1 (elimS s).1 (elimS s).2 (e.1, e.2, List.replicate s.2.2.length 0) (elimS s).2.length
def derF (s : Sys) (e : Eqn) : List Int × Int :=
  if 0 ≤ falseS s then ([], 4) else
  if (takenS s e).1.all (fun a => a == 0) && (takenS s e).2.1 == 0 then ((scaleS s.1 (s.1 - 1) (takenS s e)).2.2, 0) else ([], 6)
def faultF (s : Sys) (e : Eqn) : Int := if validS s = true then (if eqnOk s.1 s.2.1 e = true then 0 else 2) else 1
def deriveF (s : Sys) (e : Eqn) : List Int × Int := if faultF s e = 0 then derF s e else ([], faultF s e)
def followsF (s : Sys) (e : Eqn) : Bool × Int := if faultF s e = 0 then (!((derF s e).2 == 6), 0) else (false, faultF s e)
def reducedF (s : Sys) : Sys := (s.1, s.2.1, if 0 ≤ falseS s then [(List.replicate s.2.1.toNat 0, 1)] else ((elimS s).1.take (elimS s).2.length).map (fun r => (r.1, r.2.1)))
def reduceF (s : Sys) : Sys × Int := if validS s = true then (reducedF s, 0) else ((0, 0, []), 1)

theorem elimE_len {α : Type} (O : ROps α) (rows : List α) : ∀ u, (elimE O rows u).2.length ≤ u
  | 0 => Nat.le_refl _
  | u + 1 => by
    have ih := elimE_len O rows u
    show (stepE O u (elimE O rows u)).2.length ≤ _
    unfold stepE
    split
    · omega
    · simp only [List.length_append, List.length_cons, List.length_nil]; omega
/-- What is known of the rows of a valid system behind elimination. -/
structure ElimOk (s : Sys) : Prop where
  hp : s.1 = 2 ∨ s.1 = 3
  hu : 1 ≤ s.2.1 ∧ s.2.1 ≤ 12
  hl : s.2.2.length ≤ 1000
  he : ∀ e, e ∈ s.2.2 → eqnOk s.1 s.2.1 e = true
  len : (elimS s).1.length = s.2.2.length
  le : (elimS s).2.length ≤ s.2.2.length
  leU : (elimS s).2.length ≤ s.2.1.toNat
  good : AllG s.1 s.2.1.toNat s.2.2.length (elimS s).1
  rref : Rref s.1 s.2.1.toNat (elimS s).1 (elimS s).2
  flat : elimI s = ((elimS s).1.map flat, (elimS s).2)
theorem elimW_ok {s : Sys} (h : wideS s = true) : ElimOk s := by
  obtain ⟨p, u, l⟩ := s
  obtain ⟨hp, hu, hl, he⟩ := wideS_get h
  obtain ⟨U, rfl⟩ : ∃ U : Nat, u = U := ⟨u.toNat, by omega⟩
  have hg := sys_good (by omega) he
  have hL := (elim_length (opsS p) (rowsS l.length 0 l) U).trans (rowsS_length _ l 0)
  have hr := rref_elim hp hg U (Nat.le_refl _)
  have hm := elimI_map (by omega) he U (Nat.le_refl _)
  have hle := hr.le
  refine ⟨hp, hu, hl, he, by unfold elimS; simpa using hL, ?_, ?_, ?_, ?_, ?_⟩
  · unfold elimS; simp only [Int.toNat_natCast]; rw [hL] at hle; exact hle
  · unfold elimS; simp only [Int.toNat_natCast]; exact elimE_len _ _ _
  · unfold elimS; simp only [Int.toNat_natCast]; exact elim_good (by omega) hg U
  · unfold elimS; simp only [Int.toNat_natCast]; exact hr
  · unfold elimS elimI; simp only [Int.toNat_natCast]; exact hm
theorem elim_ok {s : Sys} (h : validS s = true) : ElimOk s := elimW_ok (wideS_of h)
theorem contrI {s : Sys} (h : ElimOk s) : firstI contrQ (elimI s).1 = falseS s := by
  rw [h.flat]
  exact contr_same h.good h.rref
theorem falseF_lt {rows : List SRow} {d : Nat} (h : 0 ≤ falseF rows d) : (falseF rows d).toNat < rows.length ∧ falseF rows d = (falseF rows d).toNat ∧ d ≤ (falseF rows d).toNat := by
  unfold falseF at h ⊢
  cases hf : (rows.drop d).findIdx? (fun r => r.2.1 != 0) with
  | none => rw [hf] at h; exact absurd (show (0 : Int) ≤ -1 from h) (by decide)
  | some k =>
    have := find_lt hf
    simp only [List.length_drop] at this
    simp only [Int.toNat_natCast]
    exact ⟨by omega, trivial, by omega⟩
theorem falseF_nz {rows : List SRow} {d : Nat} (h : 0 ≤ falseF rows d) : (rows.getD (falseF rows d).toNat row0).2.1 ≠ 0 := by
  unfold falseF at h ⊢
  cases hf : (rows.drop d).findIdx? (fun r => r.2.1 != 0) with
  | none => rw [hf] at h; exact absurd (show (0 : Int) ≤ -1 from h) (by decide)
  | some k =>
    rw [List.findIdx?_eq_some_iff_getElem] at hf
    obtain ⟨h1, h2, _⟩ := hf
    simp only [List.length_drop] at h1
    simp only [Int.toNat_natCast]
    simp only [List.getElem_drop, bne_iff_ne] at h2
    simp only [List.getD, List.getElem?_eq_getElem (show d + k < rows.length by omega), Option.getD_some]
    exact h2
theorem ElimOk.rowsI {s : Sys} (h : ElimOk s) : (elimI s).1.length = s.2.2.length ∧ ∀ r, r ∈ (elimI s).1 → GoodR s.1 s.2.1.toNat s.2.2.length r := by
  rw [h.flat]
  refine ⟨by simpa using h.len, fun r hr => ?_⟩
  obtain ⟨x, hx, rfl⟩ := List.mem_map.1 hr
  exact flat_good (h.good x hx)
theorem ElimOk.contr {s : Sys} (h : ElimOk s) : ∀ r, r ∈ (elimI s).1 → 0 < r.1.length ∧ r.1.length ≤ 1000000 := fun r hr => by
  have := (h.rowsI.2 r hr).1
  have := h.hu
  omega
theorem ElimOk.bs {s : Sys} (h : ElimOk s) (j : Nat) (hj : j < (elimS s).2.length) : ∃ b : Nat, (elimS s).2[j] = b ∧ b < s.2.1.toNat := by
  have := h.rref.bnd j _ (List.getElem?_eq_getElem hj)
  exact ⟨(elimS s).2[j].toNat, by omega, by omega⟩
theorem ElimOk.bad {s : Sys} (h : ElimOk s) (hf : 0 ≤ falseS s) : GoodS s.1 s.2.1.toNat s.2.2.length (badS s) ∧ (badS s).2.1 ≠ 0 :=
  ⟨goodS_of_get h.good _ (falseF_lt hf).1 _, falseF_nz hf⟩
theorem fresh_snd {α β : Type} [Rep α] [Rep β] (hα : sz α = 1) {lo : Nat} {w : World} {v0 v1 : Value} {x : α × β} (h : Fresh lo w [v0, v1] x) : Fresh lo w [v1] x.2 := by
  obtain ⟨ps, ho, hn, hl⟩ := h
  obtain ⟨p, q, rfl, _, h2⟩ := own_cons hα ho
  exact ⟨q, h2, (List.nodup_append.1 hn).2.1, fun k hk => hl k (by simp [hk])⟩
theorem fresh_fst {α β : Type} [Rep α] [Rep β] (hα : sz α = 1) {lo : Nat} {w : World} {v0 : Value} {vs : List Value} {x : α × β} (h : Fresh lo w (v0 :: vs) x) : Fresh lo w [v0] x.1 := by
  obtain ⟨ps, ho, hn, hl⟩ := h
  obtain ⟨p, q, rfl, h1, _⟩ := own_cons hα ho
  exact ⟨p, h1, (List.nodup_append.1 hn).1, fun k hk => hl k (by simp [hk])⟩

end Go.Proofs.Ytoblfnoaepbhfaa
