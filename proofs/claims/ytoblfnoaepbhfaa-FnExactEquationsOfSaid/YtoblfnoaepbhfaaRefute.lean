/-
  CONTRACTS: RefuteSystem. (Printed by wip/gensys.py.)
-/
import Derived.Test.YtoblfnoaepbhfaaCount
import Derived.Test.YtoblfnoaepbhfaaTimes
import Derived.Test.YtoblfnoaepbhfaaIpRow2
import Derived.Test.YtoblfnoaepbhfaaScale
namespace Go.Proofs.Ytoblfnoaepbhfaa
open Go.RowKit Go.Shelf Go.IntWalk
open Rep (Rd Own sz)
set_option linter.unusedSimpArgs false
set_option linter.unusedVariables false

theorem fresh_nil {α : Type} [Rep α] {lo : Nat} {w : World} (a : Option Addr) : Fresh lo w [.slice a 0 0] ([] : List α) :=
  ⟨[], ⟨_, rfl, .inl ⟨rfl, rfl, a, 0, rfl, Nat.zero_le _⟩⟩, by simp, by simp⟩
theorem falseS_lt {s : Sys} (h : 0 ≤ falseS s) : (falseS s).toNat < (elimS s).1.length ∧ falseS s = (falseS s).toNat := ⟨(falseF_lt h).1, (falseF_lt h).2.1⟩
theorem elim_badI {s : Sys} (K : ElimOk s) (hf : 0 ≤ falseS s) : ∃ h : (falseS s).toNat < (elimI s).1.length, (elimI s).1[(falseS s).toNat] = flat (badS s) := by
  have h1 := (falseS_lt hf).1
  have hlt : (falseS s).toNat < (elimI s).1.length := by rw [K.flat]; simpa using h1
  refine ⟨hlt, ?_⟩
  have : (elimI s).1[(falseS s).toNat]? = some (flat (badS s)) := by
    rw [K.flat]
    unfold badS
    simp only [List.getElem?_map, List.getD, List.getElem?_eq_getElem h1, Option.map_some, Option.getD_some]
  rw [List.getElem?_eq_getElem hlt] at this
  simpa using this
theorem refuteF_small (x : Sys) : (refuteF x).1.length ≤ 1000000 := by
  unfold refuteF
  split
  · rename_i h
    have K := elim_ok h
    split
    · rename_i hf
      have := (K.bad hf).1.by_
      have := K.hl
      simp [scaleS, scaleL]; omega
    · simp
  · simp
theorem ownInts_nodup {ps : List Nat} {w : World} {v : Value} {l : List Int} (h : OwnSl ps w v l) : ps.Nodup := by
  rcases h with ⟨_, rfl, _⟩ | ⟨g, o, c, cur, e, pss, _, _, _, _, rfl, h5, h6⟩
  · simp
  · have hps : List.flatten pss = [] := by
      rw [List.flatten_eq_nil_iff]
      intro p hp
      obtain ⟨j, hj, rfl⟩ := List.mem_iff_getElem.1 hp
      obtain ⟨p', vs, hp', hO, _⟩ := h6 j (by omega)
      rw [List.getElem?_eq_getElem hj] at hp'
      cases hp'
      exact hO.1
    rw [hps]; simp

end Go.Proofs.Ytoblfnoaepbhfaa
