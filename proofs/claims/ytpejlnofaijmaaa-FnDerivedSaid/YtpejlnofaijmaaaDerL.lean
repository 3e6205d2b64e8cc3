/-
  PLAIN LAW for FnDerived: what the calls answer, and that the sums of the equations are the equation.
-/
import Derived.Test.YtpejlnofaijmaaaDerP
namespace Go.Proofs.Ytpejlnofaijmaaa
open Go.RowKit
set_option linter.unusedSimpArgs false
set_option linter.unusedVariables false

/-- The sums that the law makes, one equation after the other. -/
def mixTo (p : Int) (U : Nat) (d : List Int) (l : List Eqn) : Nat → List Int × Int
  | 0 => (List.replicate U 0, 0)
  | j + 1 => (List.zipWith (fun a b => (a + d.getD j 0 * b) % p) (mixTo p U d l j).1 (l.getD j ([], 0)).1, ((mixTo p U d l j).2 + d.getD j 0 * (l.getD j ([], 0)).2) % p)
theorem mix_len {p : Int} {U : Nat} {d : List Int} {l : List Eqn} (he : ∀ e, e ∈ l → e.1.length = U) : ∀ j, j ≤ l.length → (mixTo p U d l j).1.length = U
  | 0, _ => by simp [mixTo]
  | j + 1, hj => by
    have hjl : j < l.length := by omega
    have := he _ (List.getElem_mem hjl)
    simp only [mixTo, List.length_zipWith, mix_len he j (by omega), List.getD, List.getElem?_eq_getElem hjl, Option.getD_some, this, Nat.min_self]
theorem mix_res {p : Int} (hp : 0 < p) {U : Nat} {d : List Int} {l : List Eqn} : ∀ j, Res p (mixTo p U d l j).1 ∧ 0 ≤ (mixTo p U d l j).2 ∧ (mixTo p U d l j).2 < p
  | 0 => ⟨fun a ha => by have := (List.mem_replicate.1 ha).2; omega, by simp [mixTo], by simpa [mixTo] using hp⟩
  | j + 1 => ⟨res_zip hp _ _ _, Int.emod_nonneg _ (by omega), Int.emod_lt_of_pos _ hp⟩
theorem mix_num {p : Int} (hp : 0 < p) {U : Nat} {d : List Int} {l : List Eqn} (he : ∀ e, e ∈ l → e.1.length = U) (hd : d.length = l.length) (f : Option Nat) (hf : ∀ u, f = some u → u < U) :
    ∀ j, j ≤ l.length → numE f (mixTo p U d l j) = dotI (d.take j) ((l.map (numE f)).take j) % p
  | 0, _ => by
    cases f with
    | none => simp [mixTo, numE, dotI]
    | some u =>
      have := hf u rfl
      simp [mixTo, numE, dotI, List.getD, List.getElem?_replicate, this]
  | j + 1, hj => by
    have hjl : j < l.length := by omega
    have ih := mix_num hp he hd f hf j (by omega)
    have hlen := mix_len (p := p) (d := d) he j (by omega)
    rw [dotI_succ (by omega) (by simpa using hjl), ← Int.emod_add_emod, ← ih]
    have e1 : d.getD j 0 = d[j]'(by omega) := by simp [List.getD, hd, hjl]
    have e2 : l.getD j ([], 0) = l[j] := by simp [List.getD, hjl]
    rw [List.getElem_map]
    cases f with
    | none => simp only [mixTo, numE, e1, e2]
    | some u =>
      have hu := hf u rfl
      have h1 := he _ (List.getElem_mem hjl)
      have h2 : u < (mixTo p U d l j).1.length := by rw [hlen]; exact hu
      have h3 : u < (l[j]).1.length := by rw [h1]; exact hu
      show (List.zipWith _ _ _).getD u 0 = _
      rw [getD_zip _ _ _ _ h2 (by rw [e2]; exact h3), e1, e2]
      rfl
theorem mix_all {s : Sys} (hv : validS s = true) {e : Eqn} (he : eqnOk s.1 s.2.1 e = true) {d : List Int} (hd : d.length = s.2.2.length)
    (hm : ∀ f : Option Nat, (∀ u, f = some u → u < s.2.1.toNat) → dotI d (s.2.2.map (numE f)) % s.1 = numE f e) : mixTo s.1 s.2.1.toNat d s.2.2 s.2.2.length = e := by
  have K := elim_ok hv
  have hp := K.hp
  have hu := K.hu
  have hle : ∀ x, x ∈ s.2.2 → x.1.length = s.2.1.toNat := fun x hx => (eqn_good (U := s.2.1.toNat) (by have := K.he x hx; rwa [show ((s.2.1.toNat : Nat) : Int) = s.2.1 by omega])).1
  have hel : e.1.length = s.2.1.toNat := (eqn_good (U := s.2.1.toNat) (by rwa [show ((s.2.1.toNat : Nat) : Int) = s.2.1 by omega])).1
  have hlen := mix_len (p := s.1) (d := d) hle s.2.2.length (Nat.le_refl _)
  have key : ∀ f : Option Nat, (∀ u, f = some u → u < s.2.1.toNat) → numE f (mixTo s.1 s.2.1.toNat d s.2.2 s.2.2.length) = numE f e := fun f hf => by
    rw [mix_num (by omega) hle hd f hf _ (Nat.le_refl _), List.take_of_length_le (by omega), List.take_of_length_le (by simp)]
    exact hm f hf
  refine Prod.ext ?_ (key none (fun u h => by cases h))
  apply List.ext_getElem (by rw [hlen, hel])
  intro u h1 h2
  have := key (some u) (fun v h => by cases h; rw [← hlen]; exact h1)
  simpa [numE, List.getD, h1, h2] using this
theorem fd_fault {s : Sys} {e : Eqn} (hv : validS s = true) (he : eqnOk s.1 s.2.1 e = true) : faultF s e = 0 := by unfold faultF; rw [if_pos hv, if_pos he]
theorem fd_none {s : Sys} {e : Eqn} (hv : validS s = true) (he : eqnOk s.1 s.2.1 e = true) (hf : 0 ≤ falseS s) : followsF s e = (true, 0) ∧ deriveF s e = ([], 4) ∧ countF s = (0, 0) := by
  have h0 := fd_fault hv he
  have h1 : derF s e = ([], 4) := by unfold derF; rw [if_pos hf]
  refine ⟨?_, ?_, ?_⟩
  · unfold followsF; rw [if_pos h0, h1]; rfl
  · unfold deriveF; rw [if_pos h0, h1]
  · unfold countF; rw [if_pos hv, if_pos hf]
theorem fd_some {s : Sys} {e : Eqn} (hv : validS s = true) (he : eqnOk s.1 s.2.1 e = true) (hf : ¬ 0 ≤ falseS s) : ∃ (Z : Bool) (dl : List Int) (dc cnt : Int), followsF s e = (Z, 0) ∧ deriveF s e = (dl, dc) ∧ countF s = (cnt, 0) ∧ cnt ≠ 0 ∧ (dc == 0) = Z ∧
    (answersS s).all (fun v => holdsE s.1 v e) = Z ∧ (Z = true → dl.length = s.2.2.length ∧ Res s.1 dl ∧ mixTo s.1 s.2.1.toNat dl s.2.2 s.2.2.length = e) := by
  have h0 := fd_fault hv he
  have K := elim_ok hv
  have hp := K.hp
  have hu := K.hu
  have hc : countF s = (s.1 ^ (s.2.1 - (elimS s).2.length).toNat, 0) := by unfold countF; rw [if_pos hv, if_neg hf]
  have hc0 : s.1 ^ (s.2.1 - (elimS s).2.length).toNat ≠ 0 := by
    have : 0 < s.1 ^ (s.2.1 - (elimS s).2.length).toNat := Int.pow_pos (by omega)
    omega
  have ha := der_all hv hf he
  cases hz : ((takenS s e).1.all (fun a => a == 0) && (takenS s e).2.1 == 0) with
  | false =>
    have h1 : derF s e = ([], 6) := by unfold derF; rw [if_neg hf, hz]; rfl
    refine ⟨false, [], 6, _, ?_, ?_, hc, hc0, rfl, by rw [← ha, hz], fun h => by cases h⟩
    · unfold followsF; rw [if_pos h0, h1]; rfl
    · unfold deriveF; rw [if_pos h0, h1]
  | true =>
    have h1 : derF s e = ((scaleS s.1 (s.1 - 1) (takenS s e)).2.2, 0) := by unfold derF; rw [if_neg hf, hz]; rfl
    have hge := goodS_of_eqn (n := s.2.2.length) (p := s.1) (U := s.2.1.toNat) (e := e) (by omega) (by rw [show ((s.2.1.toNat : Nat) : Int) = s.2.1 by omega]; exact he)
    have hx : GoodS s.1 s.2.1.toNat s.2.2.length (takenS s e) := taken_good K hge _ (Nat.le_refl _)
    have hs := goodS_scale (p := s.1) (by omega) (s.1 - 1) hx
    refine ⟨true, _, 0, _, ?_, by unfold deriveF; rw [if_pos h0, h1], hc, hc0, rfl, by rw [← ha, hz], fun _ => ⟨hs.by_, hs.resBy, ?_⟩⟩
    · unfold followsF; rw [if_pos h0, h1]; rfl
    · exact mix_all hv he hs.by_ (fun f hf => der_made hv he hz f hf)

end Go.Proofs.Ytpejlnofaijmaaa
