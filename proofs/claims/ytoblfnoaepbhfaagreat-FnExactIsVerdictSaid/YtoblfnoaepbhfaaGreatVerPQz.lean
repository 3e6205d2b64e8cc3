import Derived.Test.YtoblfnoaepbhfaaGreatSysTQz
import Derived.Test.YtoblfnoaepbhfaaGreatDomBQz
import Derived.Test.YtoblfnoaepbhfaaGreatKindsQz
import Derived.Test.YtoblfnoaepbhfaaGreatSolBQz
import Derived.Test.YtoblfnoaepbhfaaGreatFailBQz
import Derived.Test.YtoblfnoaepbhfaaGreatSemiBQz
import Derived.Test.YtoblfnoaepbhfaaGreatReplayQQz
import Derived.Test.YtoblfnoaepbhfaaGreatReplayQz
set_option linter.unusedSimpArgs false
set_option linter.unusedVariables false
namespace Go.Proofs.YtoblfnoaepbhfaaGreat
open Go.RowKit
def y7 (ps : List bH) : Bool := ps.any (fun r => decide (r.2.length = 0))
def YR (v : oW) : oW := (v.1, if v.1 = 0 then v.2.1 else [], if v.1 = 1 then v.2.2.1 else [], if v.1 = 2 then v.2.2.2.1 else [], if v.1 = 3 then v.2.2.2.2 else [])
def fP (v : oW) : Bool := decide (v = YR v)
def ni (t : dB) (x : Inst) (v : oW) : Bool :=
 if v.1 = 0 then bG t.1 v.2.1 x.1 && decide (xI t x v.2.1 < 0)
 else if v.1 = 1 then decide ((eX t x (jW t.1.toNat x.1.toNat) v.2.2.1).2.2 = 0) && y5 (eX t x (jW t.1.toNat x.1.toNat) v.2.2.1).1
 else if v.1 = 2 then decide ((dJ t x v.2.2.2.1).2.2 = 0) && y7 (dJ t x v.2.2.2.1).1
 else if v.1 = 3 then decide ((pq t x).2 = 0) && (kS (pq t x).1 v.2.2.2.2).1
 else false
def gZ (t : dB) (x : Inst) (v : oW) : Bool := ni t x v && fP v
def kJ (t : dB) (x : Inst) (v : oW) : Bool × Int := if cu t x = true then (gZ t x v, 0) else (false, 1)
theorem G9 (l : List Int) (a b : List (Int × Int × Int)) (n : List Int) : fP (0, l, a, b, n) = decide (a = [] ∧ b = [] ∧ n = []) := by simp [fP, YR]
theorem He (l : List Int) (a b : List (Int × Int × Int)) (n : List Int) : fP (1, l, a, b, n) = decide (l = [] ∧ b = [] ∧ n = []) := by simp [fP, YR]
theorem Hf (l : List Int) (a b : List (Int × Int × Int)) (n : List Int) : fP (2, l, a, b, n) = decide (l = [] ∧ a = [] ∧ n = []) := by simp [fP, YR]
theorem Hg (l : List Int) (a b : List (Int × Int × Int)) (n : List Int) : fP (3, l, a, b, n) = decide (l = [] ∧ a = [] ∧ b = []) := by simp [fP, YR]
theorem D5 {k : Int} (h0 : k ≠ 0) (h1 : k ≠ 1) (h2 : k ≠ 2) (h3 : k ≠ 3) (l : List Int) (a b : List (Int × Int × Int)) (n : List Int) : fP (k, l, a, b, n) = decide (l = [] ∧ a = [] ∧ b = [] ∧ n = []) := by simp [fP, YR, h0, h1, h2, h3]
theorem xK (t : dB) (x : Inst) (l : List Int) (a b : List (Int × Int × Int)) (n : List Int) : ni t x (0, l, a, b, n) = (bG t.1 l x.1 && decide (xI t x l < 0)) := rfl
theorem SE (t : dB) (x : Inst) (l : List Int) (a b : List (Int × Int × Int)) (n : List Int) : ni t x (1, l, a, b, n) = (decide ((eX t x (jW t.1.toNat x.1.toNat) a).2.2 = 0) && y5 (eX t x (jW t.1.toNat x.1.toNat) a).1) := rfl
theorem SG (t : dB) (x : Inst) (l : List Int) (a b : List (Int × Int × Int)) (n : List Int) : ni t x (2, l, a, b, n) = (decide ((dJ t x b).2.2 = 0) && y7 (dJ t x b).1) := rfl
theorem SH (t : dB) (x : Inst) (l : List Int) (a b : List (Int × Int × Int)) (n : List Int) : ni t x (3, l, a, b, n) = (decide ((pq t x).2 = 0) && (kS (pq t x).1 n).1) := rfl
theorem SI {k : Int} (h0 : k ≠ 0) (h1 : k ≠ 1) (h2 : k ≠ 2) (h3 : k ≠ 3) (t : dB) (x : Inst) (l : List Int) (a b : List (Int × Int × Int)) (n : List Int) : ni t x (k, l, a, b, n) = false := by simp [ni, h0, h1, h2, h3]
theorem pY {t : dB} {x : Inst} {v : oW} (h : ni t x v = false) : gZ t x v = false := by unfold gZ; rw [h]; rfl
theorem VJ {t : dB} {x : Inst} {v : oW} (h : fP v = false) : gZ t x v = false := by unfold gZ; rw [h, Bool.and_false]
theorem AQ {t : dB} {x : Inst} {v : oW} (h : ni t x v = true) : gZ t x v = fP v := by unfold gZ; rw [h, Bool.true_and]
theorem SK {t : dB} {x : Inst} {v : oW} (h : fP v = true) : gZ t x v = ni t x v := by unfold gZ; rw [h, Bool.and_true]
theorem YS {α : Type} (q : α → Bool) (l : List α) : -1 ≤ dN q l := by
 unfold dN
 cases l.findIdx? q with
 | none => exact Int.le_refl _
 | some k => show (-1 : Int) ≤ (k : Int); omega
theorem JO {sn V : Nat} (hs : sn ≤ 4) : ∀ d, d ∈ jW sn V → d.length ≤ 1048576 := fun d hd => by
 obtain ⟨_, rfl⟩ := List.mem_replicate.1 hd
 rw [Po]; omega
end Go.Proofs.YtoblfnoaepbhfaaGreat
