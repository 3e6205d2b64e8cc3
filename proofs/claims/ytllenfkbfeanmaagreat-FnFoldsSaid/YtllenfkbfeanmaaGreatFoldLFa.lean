/-
  PLAIN LAW of folds: what a semilattice makes of values depends neither on their order nor on how often they come.
-/
import Derived.Test.YtllenfkbfeanmaaGreatKindPFa
namespace Go.Proofs.YtllenfkbfeanmaaGreat
open Go.RowKit
set_option linter.unusedSimpArgs false
set_option linter.unusedVariables false

/-- A semilattice's laws on its values. -/
structure SemiP (size : Int) (f : OpT) : Prop where
  clo : ∀ a b, (0 ≤ a ∧ a ≤ size - 1) → (0 ≤ b ∧ b ≤ size - 1) → 0 ≤ valOf size f [a, b] ∧ valOf size f [a, b] ≤ size - 1
  idem : ∀ a, (0 ≤ a ∧ a ≤ size - 1) → valOf size f [a, a] = a
  com : ∀ a b, (0 ≤ a ∧ a ≤ size - 1) → (0 ≤ b ∧ b ≤ size - 1) → valOf size f [a, b] = valOf size f [b, a]
  ass : ∀ a b c, (0 ≤ a ∧ a ≤ size - 1) → (0 ≤ b ∧ b ≤ size - 1) → (0 ≤ c ∧ c ≤ size - 1) → valOf size f [valOf size f [a, b], c] = valOf size f [a, valOf size f [b, c]]
theorem semi_laws {size : Int} {f : OpT} (hok : opOk size f = true) (h : semiB size f = true) : SemiP size f := by
  have hs := (opOk_get hok).1
  simp only [semiB, Bool.and_eq_true, decide_eq_true_eq] at h
  obtain ⟨⟨hi, h2, hc⟩, ha⟩ := h
  have n1 : size ^ 1 = ((size.toNat : Nat) : Int) := by rw [Int.pow_succ, Int.pow_zero, Int.one_mul, Int.toNat_of_nonneg (by omega)]
  have n2 : size ^ 2 = ((size.toNat * size.toNat : Nat) : Int) := by
    rw [Int.natCast_mul, Int.toNat_of_nonneg (by omega), Int.pow_succ, Int.pow_succ, Int.pow_zero, Int.one_mul]
  have n3 : size ^ 3 = ((size.toNat * size.toNat * size.toNat : Nat) : Int) := by
    rw [Int.natCast_mul, Int.natCast_mul, Int.toNat_of_nonneg (by omega), Int.pow_succ, Int.pow_succ, Int.pow_succ, Int.pow_zero, Int.one_mul]
  unfold idemB at hi
  unfold symB at hc
  unfold assocB at ha
  rw [allL_iff hs.1 n1] at hi
  rw [allL_iff hs.1 n2] at hc
  rw [allL_iff hs.1 n3] at ha
  refine ⟨fun a b h1 h3 => ?_, fun a h1 => ?_, fun a b h1 h3 => ?_, fun a b c h1 h3 h4 => ?_⟩
  · obtain ⟨_, _, _, _, h5, h6, _⟩ := valOf_at (args := [a, b]) hok (by simp [h2]) (fun x hx => by simp at hx; rcases hx with rfl | rfl <;> assumption)
    exact ⟨h5, h6⟩
  · have := hi [a] rfl (fun x hx => by simp at hx; subst hx; omega)
    simp only [decide_eq_true_eq, h2] at this
    simpa using this
  · have := hc [a, b] rfl (fun x hx => by simp at hx; rcases hx with rfl | rfl <;> omega)
    simp only [decide_eq_true_eq] at this
    simpa using this.symm
  · have := ha [a, b, c] rfl (fun x hx => by simp at hx; rcases hx with rfl | rfl | rfl <;> omega)
    simp only [decide_eq_true_eq] at this
    simpa using this
/-- The fold of four values is the fold of the same ones in another order, some twice; and each value is taken in. -/
theorem fold_four {size : Int} {f : OpT} (h : SemiP size f) {a b c d : Int} (ha : 0 ≤ a ∧ a ≤ size - 1) (hb : 0 ≤ b ∧ b ≤ size - 1) (hc : 0 ≤ c ∧ c ≤ size - 1) (hd : 0 ≤ d ∧ d ≤ size - 1) :
    foldV size f d [b, a, c, d, a] = foldV size f a [b, c, d] ∧ ∀ z, z = a ∨ z = b ∨ z = c ∨ z = d → foldV size f z [foldV size f a [b, c, d]] = foldV size f a [b, c, d] := by
  obtain ⟨o, ho⟩ : ∃ o : Int → Int → Int, o = fun x y => valOf size f [x, y] := ⟨_, rfl⟩
  have hV : ∀ z l, foldV size f z l = l.foldl o z := fun z l => by rw [ho]; rfl
  have clo : ∀ x y, (0 ≤ x ∧ x ≤ size - 1) → (0 ≤ y ∧ y ≤ size - 1) → 0 ≤ o x y ∧ o x y ≤ size - 1 := by rw [ho]; exact h.clo
  have idem : ∀ x, (0 ≤ x ∧ x ≤ size - 1) → o x x = x := by rw [ho]; exact h.idem
  have com : ∀ x y, (0 ≤ x ∧ x ≤ size - 1) → (0 ≤ y ∧ y ≤ size - 1) → o x y = o y x := by rw [ho]; exact h.com
  have ass : ∀ x y z, (0 ≤ x ∧ x ≤ size - 1) → (0 ≤ y ∧ y ≤ size - 1) → (0 ≤ z ∧ z ≤ size - 1) → o (o x y) z = o x (o y z) := by rw [ho]; exact h.ass
  simp only [hV, List.foldl_cons, List.foldl_nil]
  clear hV ho
  have hab := clo a b ha hb
  have hcd := clo c d hc hd
  have habc := clo _ c hab hc
  have hall := clo _ d habc hd
  -- a value that is within is taken in
  have ab1 : ∀ x y, (0 ≤ x ∧ x ≤ size - 1) → (0 ≤ y ∧ y ≤ size - 1) → o x (o x y) = o x y := fun x y hx hy => by rw [← ass x x y hx hx hy, idem x hx]
  have ab2 : ∀ x y, (0 ≤ x ∧ x ≤ size - 1) → (0 ≤ y ∧ y ≤ size - 1) → o y (o x y) = o x y := fun x y hx hy => by rw [com x y hx hy, ab1 y x hy hx]
  have up : ∀ z u y, (0 ≤ z ∧ z ≤ size - 1) → (0 ≤ u ∧ u ≤ size - 1) → (0 ≤ y ∧ y ≤ size - 1) → o z u = u → o z (o u y) = o u y := fun z u y hz hu hy e => by rw [← ass z u y hz hu hy, e]
  have ta : o a (o (o (o a b) c) d) = o (o (o a b) c) d := up a _ d ha habc hd (up a _ c ha hab hc (ab1 a b ha hb))
  have tb : o b (o (o (o a b) c) d) = o (o (o a b) c) d := up b _ d hb habc hd (up b _ c hb hab hc (ab2 a b ha hb))
  have tc : o c (o (o (o a b) c) d) = o (o (o a b) c) d := up c _ d hc habc hd (ab2 _ c hab hc)
  have td : o d (o (o (o a b) c) d) = o (o (o a b) c) d := ab2 _ d habc hd
  refine ⟨?_, fun z hz => by rcases hz with rfl | rfl | rfl | rfl <;> assumption⟩
  have hdb := clo d b hd hb
  have hdba := clo _ a hdb ha
  have hdbac := clo _ c hdba hc
  have e1 : o (o (o d b) a) c = o (o (o a b) c) d := by
    rw [com d b hd hb, ass b d a hb hd ha, com d a hd ha, ← ass b a d hb ha hd, com b a hb ha, ass _ d c hab hd hc, com d c hd hc, ← ass _ c d hab hc hd]
  rw [e1]
  rw [com _ d hall hd, td, com _ a hall ha, ta]

end Go.Proofs.YtllenfkbfeanmaaGreat

