/-
  CONTRACTS: MakeArcs and IsArcConsistent, the program's side.
-/
import Derived.Test.YtbbmadmnmlljmaaGreatArcF
import Derived.Test.YtbbmadmnmlljmaaGreatArcI
import Derived.Test.YtbbmadmnmlljmaaGreatDomV
namespace Go.Proofs.YtbbmadmnmlljmaaGreat
open Go.RowKit Go.Shelf Go.IntWalk
open Rep (Rd Own sz)
set_option linter.unusedSimpArgs false
set_option linter.unusedVariables false

theorem fresh_nil2 {α β : Type} [Rep α] [Rep β] {H : Nat} {w : World} {a b : Option Addr} {c d : Nat} (hc : c ≤ maxLen) (hd : d ≤ maxLen) : Fresh H w [.slice a 0 c, .slice b 0 d] (([], []) : List α × List β) :=
  ⟨[], mk_own (p := []) ⟨_, rfl, .inl ⟨rfl, rfl, a, c, rfl, hc⟩⟩ (⟨_, rfl, .inl ⟨rfl, rfl, b, d, rfl, hd⟩⟩ : Own [] w [.slice b 0 d] ([] : List β)), by simp, by simp⟩
theorem accP_form {α : Type} [Rep α] {A : Nat → Prop} {e : TypeId} {w : World} {v : Value} {l : List α} (h : AccP A e w v l) (hl : 0 < l.length) : ∃ g c, v = .slice (some ⟨g, 0, none⟩) l.length c := by
  obtain ⟨xs, pss, h1, _⟩ := h
  rcases h1.2 with ⟨rfl, h0⟩ | ⟨g, cap, cur, rfl, _⟩
  · omega
  · exact ⟨g, cap, rfl⟩
/-- All that a valid run's steps say fits. -/
theorem arcsF_i64 {t : Tmpl} {x : Inst} {ds : List (List Int)} (h : domsOk t x ds = true) : ∀ e, e ∈ (arcsF t x ds).2 → I64 e.1 ∧ I64 e.2.1 ∧ I64 e.2.2 := fun e he => by
  obtain ⟨⟨v, h1, h2⟩, h3, k, h4, h5⟩ := (arcsF_in h).step e he
  have hf := dom_facts h
  have h6 := hf.ten
  have h7 := (instOk_get hf.inst).2.2.1
  exact ⟨i64_of _ (by omega) (by omega), i64_of _ (by omega) (by omega), i64_of _ (by omega) (by omega)⟩
theorem makeArcsF_le (t : Tmpl) (x : Inst) (ds : List (List Int)) : ((makeArcsF t x ds).1.1.map List.length).sum ≤ 40 ∧ (makeArcsF t x ds).1.2.length ≤ 40 := by
  unfold makeArcsF
  by_cases h : domsOk t x ds = true
  · rw [if_pos h]
    have h1 := (arcsF_ok h).pot
    have h2 := (dom_facts h).forty
    constructor <;> (simp only; omega)
  · rw [if_neg h]; simp

end Go.Proofs.YtbbmadmnmlljmaaGreat
