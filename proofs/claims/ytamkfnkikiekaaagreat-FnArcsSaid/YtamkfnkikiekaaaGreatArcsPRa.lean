/-
  PLAIN LAW of arcs: all that the law asks, of what is left of full domains.
-/
import Derived.Test.YtamkfnkikiekaaaGreatFindRa
import Derived.Test.YtamkfnkikiekaaaGreatSemiBRa
namespace Go.Proofs.YtamkfnkikiekaaaGreat
open Go.RowKit
set_option linter.unusedSimpArgs false
set_option linter.unusedVariables false

structure ArcLaw (t : Tmpl) (x : Inst) (U : Nat) (ds0 D : List (List Int)) (M : List (Int × Int × Int)) : Prop where
  e0 : makeArcsF t x ds0 = ((D, M), 0)
  valid : domsOk t x D = true
  rep : replayF t x ds0 M = (D, 0, 0)
  isc : isArcF t x D = (true, 0)
  again : makeArcsF t x D = ((D, []), 0)
  twice : ∀ k (hk : k < M.length), replayF t x ds0 (M ++ [M[k]]) = ([], (M.length : Int), 8)
  short0 : ∀ d, d ∈ ds0 → d.length ≤ 4
  short : ∀ d, d ∈ D → d.length ≤ 4
  few : M.length ≤ 40
  len : D.length = U
  sound : ∀ y, y ∈ (allSF t x).1 → y.length = U ∧ ∀ v, v < U → hasI (D.getD v []) (y.getD v 0) = true
  code : (allSF t x).2 = 0 ∨ (allSF t x).2 = 3
theorem upL_has {n : Nat} {a : Int} (h : 0 ≤ a ∧ a < n) : a ∈ upL 0 n := by
  have h1 : a.toNat < (upL 0 n).length := by rw [upL_len]; omega
  have h2 : (upL 0 n)[a.toNat] = a := by simp [upL]; omega
  rw [← h2]
  exact List.getElem_mem h1
theorem arc_law {t : Tmpl} {x : Inst} (U SZ : Nat) (hok : instOk t x = true) (hS : t.1 = (SZ : Int)) (hU : x.1 = (U : Int)) : ArcLaw t x U (fullD SZ U) (arcsF t x (fullD SZ U)).1 (arcsF t x (fullD SZ U)).2 := by
  have hd := fullD_ok hok hS hU
  have hf := dom_facts hd
  have ho := arcsF_ok hd
  have hv := arcs_valid hd
  have hl : (fullD SZ U).length = U := by simp [fullD]
  have hlD : (arcsF t x (fullD SZ U)).1.length = U := by rw [ho.len, hl]
  have hp := ho.pot
  have h40 := hf.forty
  refine ⟨?_, hv, ?_, ?_, ?_, fun k hk => ?_, hf.four, (dom_facts hv).four, by omega, hlD, fun y hy => ?_, ?_⟩
  · unfold makeArcsF; rw [if_pos hd]
  · unfold replayF; rw [if_pos hd]; exact arcs_replay hd
  · unfold isArcF; rw [if_pos hv, arcs_again hd]; rfl
  · unfold makeArcsF; rw [if_pos hv, arcs_again hd]
  · unfold replayF; rw [if_pos hd]; exact arcs_twice hd (List.getElem_mem hk)
  · unfold allSF at hy
    rw [if_pos hok] at hy
    split at hy
    · cases hy
    · have hL := fromL_listed hok x.1.toNat [] (by simp only [List.length_nil]; omega) (fun a ha => by cases ha) sure_nil y hy
      have hyl : y.length = U := by have := hL.len; omega
      refine ⟨hyl, fun v hvU => hasI_iff.2 (arcs_sound hd hL.sol (fun u hu => ?_) v (by rw [hl]; exact hvU))⟩
      rw [hl] at hu
      have h1 : y.getD u 0 ∈ y := by rw [List.getD, List.getElem?_eq_getElem (by omega)]; exact List.getElem_mem _
      have h2 := hL.val _ h1
      have h3 : (fullD SZ U).getD u [] = upL 0 SZ := by
        unfold fullD
        rw [List.getD, List.getElem?_replicate, if_pos hu]; rfl
      rw [h3]
      exact upL_has (by omega)
  · unfold allSF
    rw [if_pos hok]
    split
    · exact .inr rfl
    · exact .inl rfl

end Go.Proofs.YtamkfnkikiekaaaGreat

