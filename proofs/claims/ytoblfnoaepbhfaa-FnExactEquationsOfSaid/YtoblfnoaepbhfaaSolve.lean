/-
  CONTRACTS: SolveSystem. (Printed by wip/gensys.py.)
-/
import Derived.Test.YtoblfnoaepbhfaaRefute
import Derived.Test.YtoblfnoaepbhfaaRowC
namespace Go.Proofs.Ytoblfnoaepbhfaa
open Go.RowKit Go.Shelf Go.IntWalk
open Rep (Rd Own sz)
set_option linter.unusedSimpArgs false
set_option linter.unusedVariables false

theorem solveTo_length (rows : List SRow) (bs : List Int) (U : Nat) : ∀ j, (solveTo rows bs U j).length = U
  | 0 => by simp [solveTo]
  | j + 1 => by rw [solveTo, List.length_set]; exact solveTo_length rows bs U j
theorem solveF_small (x : Sys) : (solveF x).1.length ≤ 1000000 := by
  unfold solveF
  split
  · rename_i h
    have K := elim_ok h
    split
    · simp
    · have := K.hu
      rw [solveTo_length]; omega
  · simp
/-- A row that is done begins where it begins. -/
theorem elim_first {s : Sys} (K : ElimOk s) (j : Nat) (hj : j < (elimS s).2.length) (hr : j < (elimS s).1.length) : firstI (fun a => a != 0) (elimS s).1[j].1 = (elimS s).2[j] := by
  obtain ⟨b, hb, hbU⟩ := K.bs j hj
  have hlen := (K.good _ (List.getElem_mem hr)).len
  have hcol := K.rref.col j _ j _ (List.getElem?_eq_getElem hr) (List.getElem?_eq_getElem hj)
  have hlead := K.rref.lead j _ _ (List.getElem?_eq_getElem hr) (List.getElem?_eq_getElem hj)
  rw [hb] at hcol hlead ⊢
  rw [if_pos rfl, Int.toNat_natCast] at hcol
  have hbl : b < (elimS s).1[j].1.length := by omega
  refine firstI_at hbl (fun i hi hib => ?_) ?_
  · have := hlead i (by omega)
    simp only [List.getD, List.getElem?_eq_getElem hi, Option.getD_some] at this
    simp [this]
  · simp only [List.getD, List.getElem?_eq_getElem hbl, Option.getD_some] at hcol
    simp [hcol]
theorem elim_rowI {s : Sys} (K : ElimOk s) (j : Nat) (hj : j < (elimS s).1.length) (h : j < (elimI s).1.length) : (elimI s).1[j] = flat (elimS s).1[j] := by
  have : (elimI s).1[j]? = some (flat (elimS s).1[j]) := by
    rw [K.flat]
    simp only [List.getElem?_map, List.getElem?_eq_getElem hj, Option.map_some]
  rw [List.getElem?_eq_getElem h] at this
  simpa using this

end Go.Proofs.Ytoblfnoaepbhfaa
