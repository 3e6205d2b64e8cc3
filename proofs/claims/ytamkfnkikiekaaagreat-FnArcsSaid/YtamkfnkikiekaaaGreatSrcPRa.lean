/-
  PLAIN: the reference's source of choices: bytes that are read, and how often it has been asked.
-/
import Derived.Test.YtamkfnkikiekaaaGreatBaseRa
import Derived.Test.YtamkfnkikiekaaaGreatRowsBRa
namespace Go.Proofs.YtamkfnkikiekaaaGreat
open Go.RowKit
open Rep (Rd Own sz)
set_option linter.unusedSimpArgs false
set_option linter.unusedVariables false

/-- The bytes of a slice can be read; they lie below B. -/
def Byt (B : Nat) (w : World) (a : Option Addr) (n : Nat) : Prop := ∀ i, i < n → ∃ g o v, a = some ⟨g, o, none⟩ ∧ g < B ∧ w.cell? ⟨g, o + i, none⟩ = some (.int .u8 v) ∧ 0 ≤ v ∧ v ≤ 255
theorem Byt.below {B : Nat} {w w' : World} {a : Option Addr} {n : Nat} (h : Byt B w a n) (hb : Below B w w') : Byt B w' a n := fun i hi => by
  obtain ⟨g, o, v, ha, hg, hc, hv⟩ := h i hi
  exact ⟨g, o, v, ha, hg, (hb.cell (p := ⟨g, o + i, none⟩) hg).trans hc, hv⟩
/-- A byte. -/
def Byte : Type := Fin 256
instance : Rep Byte where
  sz := 1
  Rd _ vs n := vs = [.int .u8 (Fin.val n : Int)]
  Own ps _ vs n := ps = [] ∧ vs = [.int .u8 (Fin.val n : Int)]
  rd_len h := by rw [h]; rfl
  rd_mono _ h := h
  own_rd h := h.2
  own_frame _ h := h
  own_lt h k hk := by rw [h.1] at hk; cases hk
  rd_one h u hu := by rw [h] at hu; simp only [List.mem_singleton] at hu; subst hu; rfl
theorem byt_of {w : World} {a : Option Addr} {n c : Nat} {l : List Byte} (h : Rd w [.slice a n c] l) : Byt w.heap.size w a n ∧ n = l.length ∧ n ≤ maxLen := by
  obtain ⟨a', c', e, h⟩ := rd_list h
  simp only [Value.slice.injEq] at e
  obtain ⟨rfl, rfl, rfl⟩ := e
  refine ⟨fun i hi => ?_, rfl, (rdSl_len h).2⟩
  obtain ⟨b, o, vs, ha, hr, hc⟩ := h.2.2 i hi
  have hr' : vs = [.int .u8 (Fin.val l[i] : Int)] := hr
  subst hr'
  have h0 := hc 0 (by simp)
  have h1 : w.cell? ⟨b, o + i, none⟩ = some (.int .u8 (Fin.val l[i] : Int)) := by simpa [Rep.sz] using h0
  have := (l[i] : Fin 256).isLt
  exact ⟨b, o, _, ha, World.block_lt_of_cell? w _ h1, h1, by omega, by omega⟩
/-- The source at block b, which has been asked at most k times; its bytes lie below L, itself below B. -/
def Src (L B : Nat) (w : World) (b k : Nat) : Prop :=
  L ≤ b ∧ b < B ∧ ∃ (a : Option Addr) (n c q : Nat) (s : Int) (t : TypeId), w.heap[b]? = some (.cells #[.slice a n c, .int .i64 q, .int .u64 s] t (0, 0)) ∧ q ≤ k ∧ n ≤ maxLen ∧ Byt L w a n
theorem Src.below {L B : Nat} {w w' : World} {b k : Nat} (h : Src L B w b k) (hb : Below B w w') : Src L B w' b k := by
  obtain ⟨h1, h2, a, n, c, q, s, t, h3, h4, h5, h6⟩ := h
  exact ⟨h1, h2, a, n, c, q, s, t, by rw [hb.block b h2]; exact h3, h4, h5, h6.below (hb.mono (by omega))⟩
theorem Src.mono {L B : Nat} {w w' : World} {b k : Nat} (h : Src L B w b k) (hb : Below w.heap.size w w') : Src L B w' b k := by
  obtain ⟨h1, h2, a, n, c, q, s, t, h3, h4, h5, h6⟩ := h
  have hl : b < w.heap.size := (Array.getElem?_eq_some_iff.1 h3).1
  exact ⟨h1, h2, a, n, c, q, s, t, by rw [hb.block b hl]; exact h3, h4, h5, h6.below (hb.mono (by omega))⟩
theorem Src.up {L B B' : Nat} {w : World} {b k : Nat} (h : Src L B w b k) (hB : B ≤ B') : Src L B' w b k := ⟨h.1, Nat.lt_of_lt_of_le h.2.1 hB, h.2.2⟩
theorem Src.more {L B : Nat} {w : World} {b k k' : Nat} (h : Src L B w b k) (hk : k ≤ k') : Src L B w b k' := by
  obtain ⟨h1, h2, a, n, c, q, s, t, h3, h4, h5⟩ := h
  exact ⟨h1, h2, a, n, c, q, s, t, h3, Nat.le_trans h4 hk, h5⟩
theorem Src.lt {L B : Nat} {w : World} {b k : Nat} (h : Src L B w b k) : b < w.heap.size := by
  obtain ⟨h1, h2, a, n, c, q, s, t, h3, h4, h5⟩ := h
  exact (Array.getElem?_eq_some_iff.1 h3).1
/-- The first blocks of a world. -/
def World.part (w : World) (n : Nat) : World := { w with heap := w.heap.extract 0 n }
/-- Blocks of what was there before are written: the walk goes on as from a world in which they always stood so. -/
theorem St.cut {w : World} {B : Nat} {wr w1 : World} {bx : List (Nat × Array Value × TypeId)} (h : St w B wr bx) {ps : List Nat} (hb : But ps wr w1) (hp : ∀ k, k ∈ ps → k < w.heap.size) :
    ∃ w2, St w2 B w1 bx ∧ w.heap.size ≤ w2.heap.size ∧ w2.heap.size ≤ w.heap.size ∧ But ps w w2 := by
  have hsz : w.heap.size ≤ w1.heap.size := Nat.le_trans h.bel.size hb.size
  have e1 : ∀ k, k < w.heap.size → (World.part w1 w.heap.size).heap[k]? = w1.heap[k]? := fun k hk => by
    simp only [World.part]
    rw [Array.getElem?_extract]
    simp [hk]
    omega
  have e0 : (World.part w1 w.heap.size).heap.size = w.heap.size := by simp [World.part]; omega
  refine ⟨World.part w1 w.heap.size, ⟨⟨rfl, rfl, rfl, by rw [e0]; exact hsz, fun k hk => by rw [e0] at hk; exact (e1 k hk).symm⟩, by rw [e0]; exact h.lo, Nat.le_trans h.hi hb.size, fun x hx => ?_⟩, by rw [e0]; exact Nat.le_refl _, by rw [e0]; exact Nat.le_refl _, ⟨?_, ?_, ?_, by rw [e0]; exact Nat.le_refl _, fun k hk hn => ?_⟩⟩
  · have h1 := h.box x hx
    refine ⟨by rw [e0]; exact h1.1, h1.2.1, ?_⟩
    rw [hb.block _ (Nat.lt_of_lt_of_le h1.2.1 h.hi) (fun hm => by have := hp _ hm; have := h1.1; omega)]
    exact h1.2.2
  · exact hb.os.trans h.bel.os
  · exact hb.tape.trans h.bel.tape
  · exact hb.output.trans h.bel.output
  · rw [e1 k hk, hb.block k (Nat.lt_of_lt_of_le hk h.bel.size) hn]
    exact h.bel.block k hk
theorem Below.but {ps : List Nat} {w w1 w2 : World} (hb : But ps w w1) (h1 : w1.heap.size = w.heap.size) (h : Below w1.heap.size w1 w2) : But ps w w2 :=
  hb.trans (but_of h)
theorem Acc.but {α : Type} [Rep α] {B H : Nat} {e : TypeId} {w w' : World} {v : Value} {l : List α} (h : Acc B H e w v l) {ps : List Nat} (hb : But ps w w') (hH : H ≤ w.heap.size) (hp : ∀ k, k ∈ ps → k < B) : Acc B H e w' v l :=
  h.frame (fun k h1 h2 => hb.block k (by omega) (fun hm => by have := hp k hm; omega))
theorem Fresh.but {α : Type} [Rep α] {lo : Nat} {w w' : World} {vs : List Value} {x : α} (h : Fresh lo w vs x) {ps : List Nat} (hb : But ps w w') (hp : ∀ k, k ∈ ps → k < lo) : Fresh lo w' vs x := by
  obtain ⟨qs, h1, h2, h3⟩ := h
  exact ⟨qs, Own.but h1 hb (fun k hk hm => by have := h3 k hk; have := hp k hm; omega), h2, h3⟩
theorem AccP.butL {α : Type} [Rep α] {A : Nat → Prop} {e : TypeId} {w w' : World} {v : Value} {l : List α} (h : AccP A e w v l) {ps : List Nat} (hb : But ps w w') (hp : ∀ k, k ∈ ps → ¬ A k) : AccP A e w' v l :=
  h.butP (C := fun k => k ∈ ps) (hb.butP (fun k hk => hk)) (fun k hA hk => hp k hk hA)

end Go.Proofs.YtamkfnkikiekaaaGreat

