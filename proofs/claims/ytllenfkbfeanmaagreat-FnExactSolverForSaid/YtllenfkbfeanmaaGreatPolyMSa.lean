/-
  PLAIN: many slices that grow by append, each in its place of one slice; beside them one more; a set behind a pointer.
-/
import Derived.Test.YtllenfkbfeanmaaGreatPolyPSa
import Derived.Test.YtllenfkbfeanmaaGreatRowsBSa
namespace Go.Proofs.YtllenfkbfeanmaaGreat
open Go.RowKit
open Rep (Rd Own sz)
set_option linter.unusedSimpArgs false
set_option linter.unusedVariables false

/-- A set of tuples, behind a pointer. -/
structure PSet where
  size : Int
  ar : Int
  has : List Bool
instance : Rep PSet where
  sz := 1
  Rd w vs x := ∃ b ty sl, vs = [.pointer (some ⟨b, 0, none⟩)] ∧ w.heap[b]? = some (.cells #[.int .i64 x.size, .int .i64 x.ar, sl] ty (0, 0)) ∧ Rd w [sl] x.has
  Own ps w vs x := ∃ b ty sl qs, ps = b :: qs ∧ vs = [.pointer (some ⟨b, 0, none⟩)] ∧ w.heap[b]? = some (.cells #[.int .i64 x.size, .int .i64 x.ar, sl] ty (0, 0)) ∧ Own qs w [sl] x.has
  rd_len := by rintro _ _ _ ⟨b, ty, sl, rfl, _⟩; rfl
  rd_mono := by
    rintro _ _ _ _ hb ⟨b, ty, sl, rfl, h1, h2⟩
    exact ⟨b, ty, sl, rfl, by rw [hb.block b (Array.getElem?_eq_some_iff.1 h1).1]; exact h1, Rep.rd_mono hb h2⟩
  own_rd := by rintro _ _ _ _ ⟨b, ty, sl, qs, _, rfl, h1, h2⟩; exact ⟨b, ty, sl, rfl, h1, Rep.own_rd h2⟩
  own_frame := by
    rintro _ _ _ _ _ hk ⟨b, ty, sl, qs, rfl, rfl, h1, h2⟩
    exact ⟨b, ty, sl, qs, rfl, rfl, by rw [hk b (List.mem_cons_self ..)]; exact h1, Rep.own_frame (fun k h => hk k (List.mem_cons_of_mem _ h)) h2⟩
  own_lt := by
    rintro _ _ _ _ ⟨b, ty, sl, qs, rfl, rfl, h1, h2⟩ k hk
    rcases List.mem_cons.1 hk with rfl | hk
    · exact (Array.getElem?_eq_some_iff.1 h1).1
    · exact Rep.own_lt h2 k hk
  rd_one := by
    rintro _ _ _ ⟨b, ty, sl, rfl, _⟩ u hu
    simp only [List.mem_singleton] at hu; subst hu; rfl
theorem pset_ip {A : Nat → Prop} {w : World} {b c : Nat} {size ar : Int} {ty : TypeId} {sl : Value} {has : List Bool} (h1 : w.heap[b]? = some (.cells #[.int .i64 size, .int .i64 ar, sl] ty (0, 0))) (h2 : OwnSl [c] w sl has) (hbc : b ≠ c) (hb : A b) (hc : A c) : Ip A w [.pointer (some ⟨b, 0, none⟩)] (⟨size, ar, has⟩ : PSet) :=
  ⟨[b, c], ⟨b, ty, sl, [c], rfl, rfl, h1, ⟨sl, rfl, h2⟩⟩, by simp [hbc], fun k hk => by simp at hk; rcases hk with rfl | rfl <;> assumption⟩
theorem rd_pset {w : World} {v : Value} {x : PSet} (h : Rd w [v] x) : ∃ b ty a c, v = .pointer (some ⟨b, 0, none⟩) ∧ w.heap[b]? = some (.cells #[.int .i64 x.size, .int .i64 x.ar, .slice a x.has.length c] ty (0, 0)) ∧ Rd w [.slice a x.has.length c] x.has := by
  obtain ⟨b, ty, sl, e, h1, h2⟩ := h
  obtain rfl : v = _ := by simpa using e
  obtain ⟨a, c, rfl, h3⟩ := rd_list h2
  exact ⟨b, ty, a, c, rfl, h1, h2⟩

/-- Slices L 0, L 1, .. in the cells of block cb, and one more slice S: no block twice, all from lo on, below hi. -/
def RunM {α β : Type} [Rep α] [Rep β] (lo hi : Nat) (w : World) (cb n : Nat) (es ec : TypeId) (sv : Value) (S : List α) (L : Nat → List β) : Prop :=
  ∃ (f : Nat → Nat) (cur : Array Value) (ty : TypeId), w.heap[cb]? = some (.cells cur ty (0, 0)) ∧ cur.size = n ∧ cb < lo ∧ AccP (fun z => (lo ≤ z ∧ z < hi) ∧ f z = n) es w sv S ∧ ∀ p, p < n → ∃ v, cur[p]? = some v ∧ AccP (fun z => (lo ≤ z ∧ z < hi) ∧ f z = p) ec w v (L p)
section
variable {α β : Type} [Rep α] [Rep β] {lo hi : Nat} {w : World} {cb n : Nat} {es ec : TypeId} {sv : Value} {S : List α} {L : Nat → List β}
theorem RunM.nil {ty : TypeId} (h : w.heap[cb]? = some (.cells (Array.replicate n (.slice none 0 0)) ty (0, 0))) (hlo : cb < lo) : RunM (α := α) (β := β) lo hi w cb n es ec (.slice none 0 0) [] (fun _ => []) :=
  ⟨fun _ => 0, _, ty, h, by simp, hlo, AccP.nil _ _ _, fun p hp => ⟨_, by simp [hp], AccP.nil _ _ _⟩⟩
theorem RunM.frame (h : RunM lo hi w cb n es ec sv S L) {w' : World} (hs : w.heap.size ≤ w'.heap.size) (hcb : w'.heap[cb]? = w.heap[cb]?) (hb : ∀ k, lo ≤ k → k < hi → k < w.heap.size → w'.heap[k]? = w.heap[k]?) : RunM lo hi w' cb n es ec sv S L := by
  obtain ⟨f, cur, ty, h1, h2, h3, h4, h5⟩ := h
  exact ⟨f, cur, ty, hcb.trans h1, h2, h3, h4.frame hs (fun k hk hl => hb k hk.1.1 hk.1.2 hl), fun p hp => by
    obtain ⟨v, hv, ha⟩ := h5 p hp
    exact ⟨v, hv, ha.frame hs (fun k hk hl => hb k hk.1.1 hk.1.2 hl)⟩⟩
theorem RunM.lt (h : RunM lo hi w cb n es ec sv S L) : cb < w.heap.size := by
  obtain ⟨f, cur, ty, h1, h2⟩ := h
  exact (Array.getElem?_eq_some_iff.1 h1).1
theorem RunM.mono (h : RunM lo hi w cb n es ec sv S L) {w' : World} (hb : Below w.heap.size w w') : RunM lo hi w' cb n es ec sv S L :=
  h.frame hb.size (hb.block cb h.lt) (fun k _ _ hl => hb.block k hl)
theorem RunM.setCell (h : RunM lo hi w cb n es ec sv S L) {b o : Nat} (u : Value) (h1 : b ≠ cb) (h2 : b < lo ∨ hi ≤ b) : RunM lo hi (w.setCell ⟨b, o, none⟩ u) cb n es ec sv S L :=
  h.frame (by simp [World.setCell]) (Below.heap_setCell _ _ _ _ (fun e => h1 e.symm)) (fun k h3 h4 _ => Below.heap_setCell _ _ _ _ (fun e => by subst e; omega))
/-- The cell at place p, and what it reads as. -/
theorem RunM.at (h : RunM lo hi w cb n es ec sv S L) {p : Nat} (hp : p < n) : ∃ a c, w.cell? ⟨cb, p, none⟩ = some (.slice a (L p).length c) ∧ Rd w [.slice a (L p).length c] (L p) := by
  obtain ⟨f, cur, ty, h1, h2, h3, h4, h5⟩ := h
  obtain ⟨v, hv, ha⟩ := h5 p hp
  obtain ⟨a, c, rfl, _⟩ := ha.len
  exact ⟨a, c, by rw [cell_at_block h1]; exact hv, ha.rd⟩
theorem RunM.free (h : RunM lo hi w cb n es ec sv S L) (p : Nat) : w.frozen? ⟨cb, p, none⟩ = false := by
  obtain ⟨f, cur, ty, h1, _⟩ := h
  exact free_at_block h1
theorem RunM.rdS (h : RunM lo hi w cb n es ec sv S L) : Rd w [sv] S := by
  obtain ⟨f, cur, ty, h1, h2, h3, h4, h5⟩ := h
  exact h4.rd
theorem RunM.lenS (h : RunM lo hi w cb n es ec sv S L) : ∃ a c, sv = .slice a S.length c := by
  obtain ⟨f, cur, ty, h1, h2, h3, h4, h5⟩ := h
  obtain ⟨a, c, e, _⟩ := h4.len
  exact ⟨a, c, e⟩
/-- One more in S. -/
theorem RunM.pushS (h : RunM lo hi w cb n es ec sv S L) (hlohi : lo ≤ hi) : ∃ A : Nat → Prop, AccP A es w sv S ∧ (∀ z, A z → lo ≤ z ∧ z < hi) ∧
    ∀ (w1 w8 : World) (C : Nat → Prop) (sv' : Value) (S' : List α), Below w.heap.size w w1 → hi ≤ w.heap.size → (∀ z, C z → hi ≤ z) → AccP (fun z => A z ∨ C z ∨ z = w1.heap.size) es w8 sv' S' → ButP A w1 w8 → RunM lo w8.heap.size w8 cb n es ec sv' S' L := by
  obtain ⟨f, cur, ty, h1, h2, h3, h4, h5⟩ := h
  refine ⟨_, h4, fun z hz => hz.1, fun w1 w8 C sv' S' hw hhi hC ha hb => ?_⟩
  have hcl : cb < w.heap.size := (Array.getElem?_eq_some_iff.1 h1).1
  have hz := hw.size
  refine ⟨fun z => if z < hi then f z else n, cur, ty, ?_, h2, h3, ?_, fun p hp => ?_⟩
  · rw [hb.block cb (by omega) (fun hA => by have := hA.1.1; omega), hw.block cb hcl]; exact h1
  · refine ha.tight.wk (fun z hz => ?_)
    obtain ⟨h6, h7⟩ := hz
    rcases h6 with h6 | h6 | h6
    · refine ⟨⟨h6.1.1, h7⟩, ?_⟩
      show (if z < hi then f z else n) = n
      rw [if_pos h6.1.2]; exact h6.2
    · have := hC z h6
      refine ⟨⟨?_, h7⟩, ?_⟩
      · omega
      · show (if z < hi then f z else n) = n
        rw [if_neg (by omega)]
    · refine ⟨⟨by omega, h7⟩, ?_⟩
      show (if z < hi then f z else n) = n
      rw [if_neg (by omega)]
  · obtain ⟨v, hv, hA⟩ := h5 p hp
    refine ⟨v, hv, (((hA.mono hw).butP hb (fun k hk hk2 => by have := hk.2; have := hk2.2; omega))).wk (fun z hz => ⟨⟨hz.1.1, by have := hb.size; omega⟩, ?_⟩)⟩
    show (if z < hi then f z else n) = p
    rw [if_pos hz.1.2]; exact hz.2
/-- One more at place p. -/
theorem RunM.pushC (h : RunM lo hi w cb n es ec sv S L) {p : Nat} (hp : p < n) (hlohi : lo ≤ hi) : ∃ (A : Nat → Prop) (a : Option Addr) (c : Nat), w.cell? ⟨cb, p, none⟩ = some (.slice a (L p).length c) ∧ AccP A ec w (.slice a (L p).length c) (L p) ∧ (∀ z, A z → lo ≤ z ∧ z < hi) ∧
    ∀ (w1 w8 : World) (C : Nat → Prop) (v' : Value) (l' : List β), Below w.heap.size w w1 → hi ≤ w.heap.size → (∀ z, C z → hi ≤ z) → AccP (fun z => A z ∨ C z ∨ z = w1.heap.size) ec w8 v' l' → ButP A w1 w8 →
      RunM lo w8.heap.size (w8.setCell ⟨cb, p, none⟩ v') cb n es ec sv S (fun q => if q = p then l' else L q) := by
  obtain ⟨f, cur, ty, h1, h2, h3, h4, h5⟩ := h
  obtain ⟨v, hv, hA⟩ := h5 p hp
  obtain ⟨a, c, rfl, _⟩ := hA.len
  refine ⟨_, a, c, by rw [cell_at_block h1]; exact hv, hA, fun z hz => hz.1, fun w1 w8 C v' l' hw hhi hC ha hb => ?_⟩
  have hcl : cb < w.heap.size := (Array.getElem?_eq_some_iff.1 h1).1
  have hz := hw.size
  have h8 : w8.heap[cb]? = some (.cells cur ty (0, 0)) := by rw [hb.block cb (by omega) (fun hA => by have := hA.1.1; omega), hw.block cb hcl]; exact h1
  have hs8 : (w8.setCell ⟨cb, p, none⟩ v').heap.size = w8.heap.size := by simp [World.setCell]
  have hfr : ∀ k, k ≠ cb → (w8.setCell ⟨cb, p, none⟩ v').heap[k]? = w8.heap[k]? := fun k hk => Below.heap_setCell _ _ _ _ (fun e => hk e)
  refine ⟨fun z => if z < hi then f z else p, _, ty, heap_setCell_at w8 cb p v' cur ty (0, 0) h8, by simpa using h2, h3, ?_, fun q hq => ?_⟩
  · refine AccP.wk (((h4.mono hw).butP hb (fun k hk hk2 => by have := hk.2; have := hk2.2; omega)).frame (by rw [hs8]; exact Nat.le_refl _) (fun k hk _ => hfr k (by have := hk.1.1; omega))) (fun z hz => ⟨⟨hz.1.1, by have := hb.size; omega⟩, ?_⟩)
    show (if z < hi then f z else p) = n
    rw [if_pos hz.1.2]; exact hz.2
  · by_cases hqp : q = p
    · subst hqp
      refine ⟨v', by simp [h2, hp], ?_⟩
      simp only [if_true]
      refine AccP.wk (ha.tight.frame (by rw [hs8]; exact Nat.le_refl _) (fun k hk _ => hfr k (by rcases hk.1 with h6 | h6 | h6; (have := h6.1.1; omega); (have := hC k h6; omega); omega))) (fun z hz => ?_)
      obtain ⟨h6, h7⟩ := hz
      rcases h6 with h6 | h6 | h6
      · refine ⟨⟨h6.1.1, h7⟩, ?_⟩
        show (if z < hi then f z else q) = q
        rw [if_pos h6.1.2]; exact h6.2
      · have := hC z h6
        refine ⟨⟨by omega, h7⟩, ?_⟩
        show (if z < hi then f z else q) = q
        rw [if_neg (by omega)]
      · refine ⟨⟨by omega, h7⟩, ?_⟩
        show (if z < hi then f z else q) = q
        rw [if_neg (by omega)]
    · obtain ⟨u, hu, hU⟩ := h5 q hq
      refine ⟨u, by rw [Array.getElem?_setIfInBounds_ne (fun e => hqp e.symm)]; exact hu, ?_⟩
      simp only [hqp, if_false]
      refine AccP.wk (((hU.mono hw).butP hb (fun k hk hk2 => by have := hk.2; have := hk2.2; omega)).frame (by rw [hs8]; exact Nat.le_refl _) (fun k hk _ => hfr k (by have := hk.1.1; omega))) (fun z hz => ⟨⟨hz.1.1, by have := hb.size; omega⟩, ?_⟩)
      show (if z < hi then f z else p) = q
      rw [if_pos hz.1.2]; exact hz.2
end

end Go.Proofs.YtllenfkbfeanmaaGreat

