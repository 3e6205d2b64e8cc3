/-
  PLAIN: solutions that begin with some values: what is listed fulfils all constraints.
-/
import Derived.Test.YtamkfnkikiekaaaGreatArcLRa
import Derived.Test.YtamkfnkikiekaaaGreatFailBRa
namespace Go.Proofs.YtamkfnkikiekaaaGreat
open Go.RowKit
set_option linter.unusedSimpArgs false
set_option linter.unusedVariables false

/-- The greatest variable of a scope (0, if there is none). -/
def topC (sc : List Int) : Int := sc.foldl max 0
theorem fold_max_ge : ∀ (l : List Int) (m : Int), m ≤ l.foldl max m ∧ ∀ v, v ∈ l → v ≤ l.foldl max m
  | [], m => ⟨Int.le_refl _, fun v h => by cases h⟩
  | a :: l, m => by
    have h := fold_max_ge l (max m a)
    rw [List.foldl_cons]
    refine ⟨by have := h.1; omega, fun v hv => ?_⟩
    rcases List.mem_cons.1 hv with rfl | hv
    · have := h.1; omega
    · exact h.2 v hv
theorem fold_max_lt {b : Int} : ∀ (l : List Int) (m : Int), m < b → (∀ v, v ∈ l → v < b) → l.foldl max m < b
  | [], m, h, _ => h
  | a :: l, m, h, hl => by
    rw [List.foldl_cons]
    exact fold_max_lt l _ (by have := hl a (by simp); omega) (fun v hv => hl v (by simp [hv]))
theorem topC_take_succ (sc : List Int) {k : Nat} (h : k < sc.length) : topC (sc.take (k + 1)) = max (topC (sc.take k)) sc[k] := by
  unfold topC
  rw [List.take_succ_eq_append_getElem h, List.foldl_append]
  rfl
/-- 'sure': all constraints hold whose last variable is the last one that has a value. -/
def sureB (t : Tmpl) (x : Inst) (y : List Int) : Bool := x.2.all (fun c => !decide (topC c.2 = (y.length : Int) - 1) || holdsC t y c)
/-- All constraints hold that speak of no further variables. -/
def SureU (t : Tmpl) (x : Inst) (y : List Int) : Prop := ∀ c, c ∈ x.2 → topC c.2 < y.length → holdsC t y c = true
theorem chosen_more {y sc : List Int} {a : Int} (h0 : ∀ v, v ∈ sc → 0 ≤ v) (h : topC sc < y.length) : chosenL (y ++ [a]) sc = chosenL y sc := by
  unfold chosenL
  refine List.map_congr_left fun v hv => ?_
  have h1 := (fold_max_ge sc 0).2 v hv
  have h2 := h0 v hv
  have h3 : v.toNat < y.length := by unfold topC at h; omega
  simp [List.getD, List.getElem?_append_left h3]
theorem con_ge {t : Tmpl} {x : Inst} (h : instOk t x = true) {c : OpT} (hc : c ∈ x.2) : ∀ v, v ∈ c.2 → 0 ≤ v ∧ v < x.1 := by
  obtain ⟨k, hk, rfl⟩ := List.getElem_of_mem hc
  obtain ⟨n, _, _, _, h4, _⟩ := con_facts h hk
  exact h4
theorem sure_next {t : Tmpl} {x : Inst} (h : instOk t x = true) {y : List Int} {a : Int} (hu : SureU t x y) (hs : sureB t x (y ++ [a]) = true) : SureU t x (y ++ [a]) := by
  intro c hc ht
  unfold sureB at hs
  rw [List.all_eq_true] at hs
  have h1 := hs c hc
  simp only [List.length_append, List.length_singleton] at h1 ht
  by_cases h2 : topC c.2 = (y.length : Int)
  · rw [decide_eq_true (by omega)] at h1
    simpa using h1
  · have h3 := hu c hc (by omega)
    unfold holdsC at h3 ⊢
    rwa [chosen_more (fun v hv => (con_ge h hc v hv).1) (by omega)]
theorem sure_nil {t : Tmpl} {x : Inst} : SureU t x [] := fun c hc h => by
  have h1 := (fold_max_ge c.2 0).1
  unfold topC at h
  simp at h
  omega
/-- What a listed solution is. -/
structure Listed (t : Tmpl) (x : Inst) (y : List Int) : Prop where
  len : (y.length : Int) = x.1
  val : ∀ a, a ∈ y → 0 ≤ a ∧ a < t.1
  sol : SolP t x y
theorem sure_full {t : Tmpl} {x : Inst} (h : instOk t x = true) {y : List Int} (hu : SureU t x y) (hl : (y.length : Int) = x.1) (hv : ∀ a, a ∈ y → 0 ≤ a ∧ a < t.1) : Listed t x y := by
  refine ⟨hl, hv, ⟨fun k hk => ?_⟩⟩
  have hg : x.2.getD k (0, []) = x.2[k] := by simp [List.getD, hk]
  rw [hg]
  have hm := List.getElem_mem hk
  have h0 := (instOk_get h).2.1
  have h1 := hu _ hm (by
    rw [hl]
    exact fold_max_lt _ 0 (by omega) (fun v hv => (con_ge h hm v hv).2))
  unfold holdsC at h1
  unfold hasT at h1
  exact List.contains_iff_mem.1 h1

end Go.Proofs.YtamkfnkikiekaaaGreat

