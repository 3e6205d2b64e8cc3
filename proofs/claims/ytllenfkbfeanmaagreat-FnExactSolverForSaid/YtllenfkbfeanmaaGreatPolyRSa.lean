/-
  PLAIN: many slices that grow, a block set aside: no append touches it.
-/
import Derived.Test.YtllenfkbfeanmaaGreatPolyISa
namespace Go.Proofs.YtllenfkbfeanmaaGreat
open Go.RowKit
open Rep (Rd Own sz)
set_option linter.unusedSimpArgs false
set_option linter.unusedVariables false

/-- As RunM; block R has the colour of the one more slice. -/
def RunC {α β : Type} [Rep α] [Rep β] (R lo hi : Nat) (w : World) (cb n : Nat) (es ec : TypeId) (sv : Value) (S : List α) (L : Nat → List β) : Prop :=
  ∃ (f : Nat → Nat) (cur : Array Value) (ty : TypeId), f R = n ∧ R < hi ∧ w.heap[cb]? = some (.cells cur ty (0, 0)) ∧ cur.size = n ∧ cb < lo ∧ AccP (fun z => (lo ≤ z ∧ z < hi) ∧ f z = n) es w sv S ∧ ∀ p, p < n → ∃ v, cur[p]? = some v ∧ AccP (fun z => (lo ≤ z ∧ z < hi) ∧ f z = p) ec w v (L p)
section
variable {α β : Type} [Rep α] [Rep β] {R lo hi : Nat} {w : World} {cb n : Nat} {es ec : TypeId} {sv : Value} {S : List α} {L : Nat → List β}
theorem RunC.run (h : RunC R lo hi w cb n es ec sv S L) : RunM lo hi w cb n es ec sv S L := by
  obtain ⟨f, cur, ty, _, _, h⟩ := h
  exact ⟨f, cur, ty, h⟩
theorem RunC.setCell (h : RunC R lo hi w cb n es ec sv S L) {b o : Nat} (u : Value) (h1 : b ≠ cb) (h2 : b < lo ∨ hi ≤ b) : RunC R lo hi (w.setCell ⟨b, o, none⟩ u) cb n es ec sv S L := by
  obtain ⟨f, cur, ty, h3, h4, h5, h6, h7, h8, h9⟩ := h
  have hfr : ∀ k, k ≠ b → (w.setCell ⟨b, o, none⟩ u).heap[k]? = w.heap[k]? := fun k hk => Below.heap_setCell _ _ _ _ (fun e => hk e)
  have hs : w.heap.size ≤ (w.setCell ⟨b, o, none⟩ u).heap.size := by simp [World.setCell]
  exact ⟨f, cur, ty, h3, h4, (hfr cb (fun e => h1 e.symm)).trans h5, h6, h7, h8.frame hs (fun k hk _ => hfr k (by have := hk.1; omega)), fun p hp => by
    obtain ⟨v, hv, ha⟩ := h9 p hp
    exact ⟨v, hv, ha.frame hs (fun k hk _ => hfr k (by have := hk.1; omega))⟩⟩
/-- One more in S; R came after what is there. -/
theorem RunM.pushR (h : RunM lo hi w cb n es ec sv S L) (hlohi : lo ≤ hi) {R : Nat} (hR : hi ≤ R) : ∃ A : Nat → Prop, AccP A es w sv S ∧ (∀ z, A z → lo ≤ z ∧ z < hi) ∧
    ∀ (w1 w8 : World) (C : Nat → Prop) (sv' : Value) (S' : List α), Below w.heap.size w w1 → R < w1.heap.size → hi ≤ w.heap.size → (∀ z, C z → hi ≤ z) → AccP (fun z => A z ∨ C z ∨ z = w1.heap.size) es w8 sv' S' → ButP A w1 w8 → RunC R lo w8.heap.size w8 cb n es ec sv' S' L := by
  obtain ⟨f, cur, ty, h1, h2, h3, h4, h5⟩ := h
  refine ⟨_, h4, fun z hz => hz.1, fun w1 w8 C sv' S' hw hRw hhi hC ha hb => ?_⟩
  have hcl : cb < w.heap.size := (Array.getElem?_eq_some_iff.1 h1).1
  have hz := hw.size
  have hz8 := hb.size
  refine ⟨fun z => if z < hi then f z else n, cur, ty, by show (if R < hi then f R else n) = n; rw [if_neg (by omega)], by omega, ?_, h2, h3, ?_, fun p hp => ?_⟩
  · rw [hb.block cb (by omega) (fun hA => by have := hA.1.1; omega), hw.block cb hcl]; exact h1
  · refine ha.tight.wk (fun z hz => ?_)
    obtain ⟨h6, h7⟩ := hz
    rcases h6 with h6 | h6 | h6
    · refine ⟨⟨h6.1.1, h7⟩, ?_⟩
      show (if z < hi then f z else n) = n
      rw [if_pos h6.1.2]; exact h6.2
    · have := hC z h6
      refine ⟨⟨?_, h7⟩, ?_⟩
      · omega
      · show (if z < hi then f z else n) = n
        rw [if_neg (by omega)]
    · refine ⟨⟨by omega, h7⟩, ?_⟩
      show (if z < hi then f z else n) = n
      rw [if_neg (by omega)]
  · obtain ⟨v, hv, hA⟩ := h5 p hp
    refine ⟨v, hv, (((hA.mono hw).butP hb (fun k hk hk2 => by have := hk.2; have := hk2.2; omega))).wk (fun z hz => ⟨⟨hz.1.1, by have := hb.size; omega⟩, ?_⟩)⟩
    show (if z < hi then f z else n) = p
    rw [if_pos hz.1.2]; exact hz.2
/-- One more at place p: R is not touched. -/
theorem RunC.pushC (h : RunC R lo hi w cb n es ec sv S L) {p : Nat} (hp : p < n) (hlohi : lo ≤ hi) : ∃ (A : Nat → Prop) (a : Option Addr) (c : Nat), w.cell? ⟨cb, p, none⟩ = some (.slice a (L p).length c) ∧ AccP A ec w (.slice a (L p).length c) (L p) ∧ (∀ z, A z → (lo ≤ z ∧ z < hi) ∧ z ≠ R) ∧
    ∀ (w1 w8 : World) (C : Nat → Prop) (v' : Value) (l' : List β), Below w.heap.size w w1 → hi ≤ w.heap.size → (∀ z, C z → hi ≤ z) → AccP (fun z => A z ∨ C z ∨ z = w1.heap.size) ec w8 v' l' → ButP A w1 w8 →
      RunC R lo w8.heap.size (w8.setCell ⟨cb, p, none⟩ v') cb n es ec sv S (fun q => if q = p then l' else L q) := by
  obtain ⟨f, cur, ty, hfR, hRh, h1, h2, h3, h4, h5⟩ := h
  obtain ⟨v, hv, hA⟩ := h5 p hp
  obtain ⟨a, c, rfl, _⟩ := hA.len
  refine ⟨_, a, c, by rw [cell_at_block h1]; exact hv, hA, fun z hz => ⟨hz.1, fun e => by have := hz.2; subst e; omega⟩, fun w1 w8 C v' l' hw hhi hC ha hb => ?_⟩
  have hcl : cb < w.heap.size := (Array.getElem?_eq_some_iff.1 h1).1
  have hz := hw.size
  have hz8 := hb.size
  have h8 : w8.heap[cb]? = some (.cells cur ty (0, 0)) := by rw [hb.block cb (by omega) (fun hA => by have := hA.1.1; omega), hw.block cb hcl]; exact h1
  have hs8 : (w8.setCell ⟨cb, p, none⟩ v').heap.size = w8.heap.size := by simp [World.setCell]
  have hfr : ∀ k, k ≠ cb → (w8.setCell ⟨cb, p, none⟩ v').heap[k]? = w8.heap[k]? := fun k hk => Below.heap_setCell _ _ _ _ (fun e => hk e)
  refine ⟨fun z => if z < hi then f z else p, _, ty, by show (if R < hi then f R else p) = n; rw [if_pos hRh]; exact hfR, by omega, heap_setCell_at w8 cb p v' cur ty (0, 0) h8, by simpa using h2, h3, ?_, fun q hq => ?_⟩
  · refine AccP.wk (((h4.mono hw).butP hb (fun k hk hk2 => by have := hk.2; have := hk2.2; omega)).frame (by rw [hs8]; exact Nat.le_refl _) (fun k hk _ => hfr k (by have := hk.1.1; omega))) (fun z hz => ⟨⟨hz.1.1, by have := hb.size; omega⟩, ?_⟩)
    show (if z < hi then f z else p) = n
    rw [if_pos hz.1.2]; exact hz.2
  · by_cases hqp : q = p
    · subst hqp
      refine ⟨v', by simp [h2, hp], ?_⟩
      simp only [if_true]
      refine AccP.wk (ha.tight.frame (by rw [hs8]; exact Nat.le_refl _) (fun k hk _ => hfr k (by rcases hk.1 with h6 | h6 | h6; (have := h6.1.1; omega); (have := hC k h6; omega); omega))) (fun z hz => ?_)
      obtain ⟨h6, h7⟩ := hz
      rcases h6 with h6 | h6 | h6
      · refine ⟨⟨h6.1.1, h7⟩, ?_⟩
        show (if z < hi then f z else q) = q
        rw [if_pos h6.1.2]; exact h6.2
      · have := hC z h6
        refine ⟨⟨by omega, h7⟩, ?_⟩
        show (if z < hi then f z else q) = q
        rw [if_neg (by omega)]
      · refine ⟨⟨by omega, h7⟩, ?_⟩
        show (if z < hi then f z else q) = q
        rw [if_neg (by omega)]
    · obtain ⟨u, hu, hU⟩ := h5 q hq
      refine ⟨u, by rw [Array.getElem?_setIfInBounds_ne (fun e => hqp e.symm)]; exact hu, ?_⟩
      simp only [hqp, if_false]
      refine AccP.wk (((hU.mono hw).butP hb (fun k hk hk2 => by have := hk.2; have := hk2.2; omega)).frame (by rw [hs8]; exact Nat.le_refl _) (fun k hk _ => hfr k (by have := hk.1.1; omega))) (fun z hz => ⟨⟨hz.1.1, by have := hb.size; omega⟩, ?_⟩)
      show (if z < hi then f z else p) = q
      rw [if_pos hz.1.2]; exact hz.2
end
theorem insTo_len (t : Tmpl) {j : Nat} (h : j ≤ t.2.length) : (insTo t j).length = j := by simp [insTo]; omega
theorem insTo_snoc (t : Tmpl) {j PN : Nat} (h : j < t.2.length) (hp : t.1 ^ (t.2.getD j (0, [])).1.toNat = (PN : Int)) : insTo t (j + 1) = insTo t j ++ [setTo t.1 PN (t.2.getD j (0, [])).2 (t.2.getD j (0, [])).2.length] := by
  unfold insTo
  rw [List.take_succ_eq_append_getElem h, List.map_append, List.map_singleton]
  have e : t.2.getD j (0, []) = t.2[j] := by simp [List.getD, h]
  rw [e] at hp ⊢
  rw [hp, Int.toNat_natCast]

end Go.Proofs.YtllenfkbfeanmaaGreat

