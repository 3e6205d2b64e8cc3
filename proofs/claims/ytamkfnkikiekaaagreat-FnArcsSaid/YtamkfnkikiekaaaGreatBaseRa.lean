/-
  SEVERAL TEXTS IN ONE.
-/
import Derived.WalkKit
import Derived.WalkSpells
import Derived.WalkLawsBesides
import Derived.Lib.Hide
import Derived.Maps.AppendAt
import Derived.RegionTactic
import Derived.Deep.AppendLies
import Derived.Test.YtamkfnkikiekaaaGreatRows
import Derived.Deep.QuietTactic
import Derived.BigQuiet
import Derived.OrdersHeld

/-
  PLAIN LIBRARY of this seat: what a Go value of ints, slices and structs reads as ('Rd'), and which blocks it owns ('Own'). No program is named here.
-/
namespace Go.Proofs.YtamkfnkikiekaaaGreat
open Go.RowKit
set_option linter.unusedSimpArgs false
set_option linter.unusedVariables false

/-- n is an int64. Not reducible: the numerals stay out of the walk. -/
def I64 (n : Int) : Prop := -9223372036854775808 ≤ n ∧ n ≤ 9223372036854775807
theorem I64.lo {n : Int} (h : I64 n) : -9223372036854775808 ≤ n := h.1
theorem I64.hi {n : Int} (h : I64 n) : n ≤ 9223372036854775807 := h.2

/-- How a Lean value stands in a Go program's values and memory. -/
class Rep (α : Type) where
  sz : Nat
  Rd : World → List Value → α → Prop
  Own : List Nat → World → List Value → α → Prop
  rd_len : ∀ {w vs x}, Rd w vs x → vs.length = sz
  rd_mono : ∀ {w w' vs x}, Below w.heap.size w w' → Rd w vs x → Rd w' vs x
  own_rd : ∀ {ps w vs x}, Own ps w vs x → Rd w vs x
  own_frame : ∀ {ps w w' vs x}, (∀ k, k ∈ ps → w'.heap[k]? = w.heap[k]?) → Own ps w vs x → Own ps w' vs x
  own_lt : ∀ {ps w vs x}, Own ps w vs x → ∀ k, k ∈ ps → k < w.heap.size
  rd_one : ∀ {w vs x}, Rd w vs x → ∀ u, u ∈ vs → u.oneCell' = true
open Rep (Rd Own sz)

theorem Rd.mono {α : Type} [Rep α] {w w' : World} {vs : List Value} {x : α} (h : Rd w vs x) (hb : Below w.heap.size w w') : Rd w' vs x := Rep.rd_mono hb h
theorem Own.rd {α : Type} [Rep α] {ps : List Nat} {w : World} {vs : List Value} {x : α} (h : Own ps w vs x) : Rd w vs x := Rep.own_rd h
theorem Own.mono {α : Type} [Rep α] {ps : List Nat} {w w' : World} {vs : List Value} {x : α} (h : Own ps w vs x) (hb : Below w.heap.size w w') : Own ps w' vs x :=
  Rep.own_frame (fun k hk => hb.block k (Rep.own_lt h k hk)) h

instance : Rep Int where
  sz := 1
  Rd _ vs n := vs = [.int .i64 n] ∧ I64 n
  Own ps _ vs n := ps = [] ∧ vs = [.int .i64 n] ∧ I64 n
  rd_len h := by rw [h.1]; rfl
  rd_mono _ h := h
  own_rd h := h.2
  own_frame _ h := h
  own_lt h k hk := by rw [h.1] at hk; cases hk
  rd_one h u hu := by rw [h.1] at hu; simp only [List.mem_singleton] at hu; subst hu; rfl

instance : Rep Bool where
  sz := 1
  Rd _ vs n := vs = [.bool n]
  Own ps _ vs n := ps = [] ∧ vs = [.bool n]
  rd_len h := by rw [h]; rfl
  rd_mono _ h := h
  own_rd h := h.2
  own_frame _ h := h
  own_lt h k hk := by rw [h.1] at hk; cases hk
  rd_one h u hu := by rw [h] at hu; simp only [List.mem_singleton] at hu; subst hu; rfl

instance {α β : Type} [Rep α] [Rep β] : Rep (α × β) where
  sz := sz α + sz β
  Rd w vs x := ∃ v1 v2, vs = v1 ++ v2 ∧ Rd w v1 x.1 ∧ Rd w v2 x.2
  Own ps w vs x := ∃ p1 p2 v1 v2, ps = p1 ++ p2 ∧ vs = v1 ++ v2 ∧ Own p1 w v1 x.1 ∧ Own p2 w v2 x.2
  rd_len := by rintro _ _ _ ⟨v1, v2, rfl, h1, h2⟩; simp [Rep.rd_len h1, Rep.rd_len h2]
  rd_mono := by rintro _ _ _ _ hb ⟨v1, v2, rfl, h1, h2⟩; exact ⟨v1, v2, rfl, Rep.rd_mono hb h1, Rep.rd_mono hb h2⟩
  own_rd := by rintro _ _ _ _ ⟨p1, p2, v1, v2, _, rfl, h1, h2⟩; exact ⟨v1, v2, rfl, Rep.own_rd h1, Rep.own_rd h2⟩
  own_frame := by
    rintro _ _ _ _ _ hk ⟨p1, p2, v1, v2, rfl, rfl, h1, h2⟩
    exact ⟨p1, p2, v1, v2, rfl, rfl, Rep.own_frame (fun k h => hk k (List.mem_append.2 (.inl h))) h1, Rep.own_frame (fun k h => hk k (List.mem_append.2 (.inr h))) h2⟩
  own_lt := by
    rintro _ _ _ _ ⟨p1, p2, v1, v2, rfl, rfl, h1, h2⟩ k hk
    rcases List.mem_append.1 hk with h | h
    · exact Rep.own_lt h1 k h
    · exact Rep.own_lt h2 k h
  rd_one := by
    rintro _ _ _ ⟨v1, v2, rfl, h1, h2⟩ u hu
    rcases List.mem_append.1 hu with h | h
    · exact Rep.rd_one h1 u h
    · exact Rep.rd_one h2 u h

/-- The cells from ⟨b, o⟩ on hold vs. -/
def CellsAt (w : World) (b o : Nat) (vs : List Value) : Prop := ∀ k, k < vs.length → w.cell? ⟨b, o + k, none⟩ = vs[k]?

theorem CellsAt.lt {w : World} {b o : Nat} {vs : List Value} (h : CellsAt w b o vs) (hv : 0 < vs.length) : b < w.heap.size := by
  have := h 0 hv
  rw [List.getElem?_eq_getElem hv] at this
  exact World.block_lt_of_cell? w _ this
theorem CellsAt.mono {w w' : World} {b o : Nat} {vs : List Value} (h : CellsAt w b o vs) (hb : Below w.heap.size w w') : CellsAt w' b o vs := by
  intro k hk
  have hl := h.lt (by omega)
  rw [hb.cell (p := ⟨b, o + k, none⟩) hl]
  exact h k hk

/-- Slice (a, l.length, c) reads as l. -/
def RdSl {α : Type} [Rep α] (w : World) (a : Option Addr) (c : Nat) (l : List α) : Prop :=
  l.length ≤ c ∧ c ≤ maxLen ∧ ∀ i (h : i < l.length), ∃ b o vs, a = some ⟨b, o, none⟩ ∧ Rd w vs l[i] ∧ CellsAt w b (o + i * sz α) vs

def OwnSl {α : Type} [Rep α] (ps : List Nat) (w : World) (v : Value) (l : List α) : Prop :=
  (l = [] ∧ ps = [] ∧ ∃ a c, v = .slice a 0 c ∧ c ≤ maxLen) ∨
  ∃ g o c cur e pss, v = .slice (some ⟨g, o, none⟩) l.length c ∧ l.length ≤ c ∧ c ≤ maxLen ∧ w.heap[g]? = some (.cells cur e (0, 0)) ∧ ps = g :: List.flatten pss ∧ pss.length = l.length ∧
    ∀ i (h : i < l.length), ∃ p vs, pss[i]? = some p ∧ Own p w vs l[i] ∧ ∀ k, k < vs.length → cur[o + i * sz α + k]? = vs[k]?

theorem rdSl_mono {α : Type} [Rep α] {w w' : World} {a : Option Addr} {c : Nat} {l : List α} (hb : Below w.heap.size w w') (h : RdSl w a c l) : RdSl w' a c l := by
  refine ⟨h.1, h.2.1, fun i hi => ?_⟩
  obtain ⟨b, o, vs, ha, hr, hc⟩ := h.2.2 i hi
  exact ⟨b, o, vs, ha, Rep.rd_mono hb hr, hc.mono hb⟩

instance {α : Type} [Rep α] : Rep (List α) where
  sz := 1
  Rd w vs l := ∃ a c, vs = [.slice a l.length c] ∧ RdSl w a c l
  Own ps w vs l := ∃ v, vs = [v] ∧ OwnSl ps w v l
  rd_len := by rintro _ _ _ ⟨a, c, rfl, _⟩; rfl
  rd_mono := by rintro _ _ _ _ hb ⟨a, c, rfl, h⟩; exact ⟨a, c, rfl, rdSl_mono hb h⟩
  own_rd := by
    rintro ps w vs l ⟨v, rfl, h⟩
    rcases h with ⟨rfl, rfl, a, c, rfl, hc⟩ | ⟨g, o, c, cur, e, pss, rfl, h1, h2, h3, rfl, h5, h6⟩
    · exact ⟨a, c, rfl, Nat.zero_le _, hc, fun i hi => absurd hi (Nat.not_lt_zero _)⟩
    · refine ⟨_, c, rfl, h1, h2, fun i hi => ?_⟩
      obtain ⟨p, vs, _, hO, hc⟩ := h6 i hi
      refine ⟨g, o, vs, rfl, Rep.own_rd hO, fun k hk => ?_⟩
      rw [← hc k hk]
      simp [World.cell?, h3]
  own_frame := by
    rintro ps w w' vs l hk ⟨v, rfl, h⟩
    refine ⟨v, rfl, ?_⟩
    rcases h with ⟨rfl, rfl, a, c, rfl, hc⟩ | ⟨g, o, c, cur, e, pss, rfl, h1, h2, h3, rfl, h5, h6⟩
    · exact .inl ⟨rfl, rfl, a, c, rfl, hc⟩
    · refine .inr ⟨g, o, c, cur, e, pss, rfl, h1, h2, ?_, rfl, h5, fun i hi => ?_⟩
      · rw [hk g (List.mem_cons_self ..)]; exact h3
      · obtain ⟨p, vs, hp, hO, hc⟩ := h6 i hi
        refine ⟨p, vs, hp, Rep.own_frame (fun k hkp => hk k (List.mem_cons_of_mem _ ?_)) hO, hc⟩
        exact List.mem_flatten.2 ⟨p, List.mem_of_getElem? hp, hkp⟩
  own_lt := by
    rintro ps w vs l ⟨v, rfl, h⟩ k hk
    rcases h with ⟨rfl, rfl, a, c, rfl, hc⟩ | ⟨g, o, c, cur, e, pss, rfl, h1, h2, h3, rfl, h5, h6⟩
    · cases hk
    · rcases List.mem_cons.1 hk with rfl | hk
      · exact (Array.getElem?_eq_some_iff.1 h3).1
      · obtain ⟨p, hp, hkp⟩ := List.mem_flatten.1 hk
        obtain ⟨i, hi, rfl⟩ := List.mem_iff_getElem.1 hp
        obtain ⟨p', vs, hp', hO, _⟩ := h6 i (by omega)
        rw [List.getElem?_eq_getElem hi] at hp'
        cases hp'
        exact Rep.own_lt hO k hkp
  rd_one := by
    rintro w vs l ⟨a, c, rfl, _⟩ u hu
    simp only [List.mem_singleton] at hu
    subst hu
    rfl

@[simp] theorem sz_int : sz Int = 1 := rfl
@[simp] theorem sz_bool : sz Bool = 1 := rfl
@[simp] theorem sz_list {α : Type} [Rep α] : sz (List α) = 1 := rfl
@[simp] theorem sz_prod {α β : Type} [Rep α] [Rep β] : sz (α × β) = sz α + sz β := rfl

/-- What the call made: owned, in blocks from lo on, no block twice. -/
def Fresh {α : Type} [Rep α] (lo : Nat) (w : World) (vs : List Value) (x : α) : Prop := ∃ ps, Own ps w vs x ∧ ps.Nodup ∧ ∀ k, k ∈ ps → lo ≤ k

theorem Fresh.rd {α : Type} [Rep α] {lo : Nat} {w : World} {vs : List Value} {x : α} (h : Fresh lo w vs x) : Rd w vs x := by
  obtain ⟨ps, h, _⟩ := h; exact Rep.own_rd h
theorem Fresh.mono {α : Type} [Rep α] {lo : Nat} {w w' : World} {vs : List Value} {x : α} (h : Fresh lo w vs x) (hb : Below w.heap.size w w') : Fresh lo w' vs x := by
  obtain ⟨ps, h, h2⟩ := h; exact ⟨ps, Own.mono h hb, h2⟩
theorem Fresh.lower {α : Type} [Rep α] {lo lo' : Nat} {w : World} {vs : List Value} {x : α} (h : Fresh lo w vs x) (hl : lo' ≤ lo) : Fresh lo' w vs x := by
  obtain ⟨ps, h, h2, h3⟩ := h; exact ⟨ps, h, h2, fun k hk => Nat.le_trans hl (h3 k hk)⟩

/-! ### Reading, as the walk wants it -/

theorem rd_int {w : World} {vs : List Value} {n : Int} (h : Rd w vs n) : vs = [.int .i64 n] ∧ I64 n := h
theorem rd_list {α : Type} [Rep α] {w : World} {v : Value} {l : List α} (h : Rd w [v] l) : ∃ a c, v = .slice a l.length c ∧ RdSl w a c l := by
  obtain ⟨a, c, hv, h⟩ := h
  exact ⟨a, c, by simpa using hv, h⟩
theorem mk_rd {α : Type} [Rep α] {w : World} {a : Option Addr} {c : Nat} {l : List α} (h : RdSl w a c l) : Rd w [.slice a l.length c] l := ⟨a, c, rfl, h⟩
theorem rd_cons {α β : Type} [Rep α] [Rep β] {w : World} {v0 : Value} {vs : List Value} {x : α × β} (hα : sz α = 1) (h : Rd w (v0 :: vs) x) : Rd w [v0] x.1 ∧ Rd w vs x.2 := by
  obtain ⟨a, b, e, h1, h2⟩ := h
  have := Rep.rd_len h1
  rw [hα] at this
  match a, this with
  | [a0], _ => simp only [List.cons_append, List.nil_append, List.cons.injEq] at e; obtain ⟨rfl, rfl⟩ := e; exact ⟨h1, h2⟩
theorem rdSl_len {α : Type} [Rep α] {w : World} {a : Option Addr} {c : Nat} {l : List α} (h : RdSl w a c l) : l.length ≤ c ∧ l.length ≤ maxLen := ⟨h.1, Nat.le_trans h.1 h.2.1⟩
/-- An int of a slice. -/
theorem rdSl_int {w : World} {a : Option Addr} {c : Nat} {l : List Int} (h : RdSl w a c l) (i : Nat) (hi : i < l.length) :
    ∃ b o, a = some ⟨b, o, none⟩ ∧ w.cell? ⟨b, o + i, none⟩ = some (.int .i64 (l.getD i 0)) ∧ I64 (l.getD i 0) := by
  obtain ⟨b, o, vs, ha, hr, hc⟩ := h.2.2 i hi
  obtain ⟨rfl, hI⟩ := rd_int hr
  refine ⟨b, o, ha, ?_, ?_⟩
  · have := hc 0 (by simp)
    simpa [List.getD, hi] using this
  · simpa [List.getD, hi] using hI
/-- An element of one cell. -/
theorem rdSl_one {α : Type} [Rep α] (hα : sz α = 1) {w : World} {a : Option Addr} {c : Nat} {l : List α} (h : RdSl w a c l) (i : Nat) (hi : i < l.length) :
    ∃ b o v, a = some ⟨b, o, none⟩ ∧ w.cell? ⟨b, o + i, none⟩ = some v ∧ Rd w [v] l[i] := by
  obtain ⟨b, o, vs, ha, hr, hc⟩ := h.2.2 i hi
  have hl := Rep.rd_len hr
  rw [hα] at hl hc
  match vs, hl with
  | [v], _ => exact ⟨b, o, v, ha, by have := hc 0 (by simp); simpa using this, hr⟩
/-- An element of two cells. -/
theorem rdSl_two {α : Type} [Rep α] (hα : sz α = 2) {w : World} {a : Option Addr} {c : Nat} {l : List α} (h : RdSl w a c l) (i : Nat) (hi : i < l.length) :
    ∃ b o v0 v1, a = some ⟨b, o, none⟩ ∧ w.cell? ⟨b, o + i * 2, none⟩ = some v0 ∧ w.cell? ⟨b, o + i * 2 + 1, none⟩ = some v1 ∧ Rd w [v0, v1] l[i] := by
  obtain ⟨b, o, vs, ha, hr, hc⟩ := h.2.2 i hi
  have hl := Rep.rd_len hr
  rw [hα] at hl hc
  match vs, hl with
  | [v0, v1], _ => exact ⟨b, o, v0, v1, ha, by have := hc 0 (by simp); simpa using this, by have := hc 1 (by simp); simpa using this, hr⟩
/-- An element of three cells. -/
theorem rdSl_three {α : Type} [Rep α] (hα : sz α = 3) {w : World} {a : Option Addr} {c : Nat} {l : List α} (h : RdSl w a c l) (i : Nat) (hi : i < l.length) :
    ∃ b o v0 v1 v2, a = some ⟨b, o, none⟩ ∧ w.cell? ⟨b, o + i * 3, none⟩ = some v0 ∧ w.cell? ⟨b, o + i * 3 + 1, none⟩ = some v1 ∧ w.cell? ⟨b, o + i * 3 + 2, none⟩ = some v2 ∧ Rd w [v0, v1, v2] l[i] := by
  obtain ⟨b, o, vs, ha, hr, hc⟩ := h.2.2 i hi
  have hl := Rep.rd_len hr
  rw [hα] at hl hc
  match vs, hl with
  | [v0, v1, v2], _ =>
    exact ⟨b, o, v0, v1, v2, ha, by have := hc 0 (by simp); simpa using this, by have := hc 1 (by simp); simpa using this, by have := hc 2 (by simp); simpa using this, hr⟩

theorem cellL {w w' : World} {a : Addr} {v : Value} (hb : Below w.heap.size w w') (h : w.cell? a = some v) : w'.cell? a = some v := (hb.cell (World.block_lt_of_cell? w a h)).trans h
theorem freeL {w w' : World} {a : Addr} {v : Value} {c : Bool} (hb : Below w.heap.size w w') (h : w.cell? a = some v) (hf : w.frozen? a = c) : w'.frozen? a = c := (hb.frozen (World.block_lt_of_cell? w a h)).trans hf
theorem belowA (w : World) (o : Obj) : Below w.heap.size w (w.alloc o) := (Below.refl _ _).alloc (Nat.le_refl _) _
theorem belowD (w : World) : Below w.heap.size w w.drew := (Below.refl _ _).drew
/-- A cell that may be written. -/
def KC (w : World) (a : Addr) (v : Value) : Prop := w.cell? a = some v ∧ w.frozen? a = false
theorem KC.mono {w w' : World} {a : Addr} {v : Value} (h : KC w a v) (hb : Below w.heap.size w w') : KC w' a v := ⟨cellL hb h.1, freeL hb h.1 h.2⟩
theorem KC.below {B : Nat} {w w' : World} {a : Addr} {v : Value} (h : KC w a v) (hb : Below B w w') (ha : a.block < B) : KC w' a v := ⟨(hb.cell ha).trans h.1, (hb.frozen ha).trans h.2⟩
theorem ret_int {a b : Int} (h : a = b) : Ending.returned (.int .i64 a) = .returned (.int .i64 b) := by rw [h]
theorem ret_bool {a b : Bool} (h : a = b) : Ending.returned (.bool a) = .returned (.bool b) := by rw [h]

end Go.Proofs.YtamkfnkikiekaaaGreat

/-
  PLAIN: writing into what the call owns.
-/
namespace Go.Proofs.YtamkfnkikiekaaaGreat
open Go.RowKit
open Rep (Rd Own sz)
set_option linter.unusedSimpArgs false
set_option linter.unusedVariables false

/-- w' is w but for the blocks ps; no block is new. -/
structure OnlyAt (ps : List Nat) (w w' : World) : Prop where
  os : w'.os = w.os
  tape : w'.tape = w.tape
  output : w'.output = w.output
  size : w'.heap.size = w.heap.size
  block : ∀ k, k ∉ ps → w'.heap[k]? = w.heap[k]?

theorem OnlyAt.refl (ps : List Nat) (w : World) : OnlyAt ps w w := ⟨rfl, rfl, rfl, rfl, fun _ _ => rfl⟩
theorem OnlyAt.trans {ps : List Nat} {a b c : World} (h : OnlyAt ps a b) (k : OnlyAt ps b c) : OnlyAt ps a c :=
  ⟨k.os.trans h.os, k.tape.trans h.tape, k.output.trans h.output, k.size.trans h.size, fun i hi => (k.block i hi).trans (h.block i hi)⟩
theorem OnlyAt.mono {ps qs : List Nat} {a b : World} (h : OnlyAt ps a b) (hs : ∀ k, k ∈ ps → k ∈ qs) : OnlyAt qs a b :=
  ⟨h.os, h.tape, h.output, h.size, fun i hi => h.block i (fun hk => hi (hs i hk))⟩
theorem OnlyAt.drewN {ps : List Nat} {a b : World} (h : OnlyAt ps a b) (n : Nat) : OnlyAt ps a (b.drewN n) := ⟨h.os, h.tape, h.output, h.size, h.block⟩
theorem OnlyAt.below {ps : List Nat} {B : Nat} {a b : World} (h : OnlyAt ps a b) (hp : ∀ k, k ∈ ps → B ≤ k) : Below B a b :=
  ⟨h.os, h.tape, h.output, by rw [h.size]; exact Nat.le_refl _, fun k hk => h.block k (fun hm => by have := hp k hm; omega)⟩
theorem OnlyAt.setCell {ps : List Nat} {a b : World} (h : OnlyAt ps a b) {p : Addr} (hp : p.block ∈ ps) (u : Value) : OnlyAt ps a (b.setCell p u) := by
  refine h.trans ⟨rfl, rfl, rfl, by simp [World.setCell], fun k hk => ?_⟩
  exact Below.heap_setCell _ _ _ _ (fun e => hk (e ▸ hp))
theorem Own.only {α : Type} [Rep α] {ps qs : List Nat} {w w' : World} {vs : List Value} {x : α} (h : Own ps w vs x) (hb : OnlyAt qs w w') (hd : ∀ k, k ∈ ps → k ∉ qs) : Own ps w' vs x :=
  Rep.own_frame (fun k hk => hb.block k (hd k hk)) h
/-- A block of cells behind a store into it. -/
theorem heap_setCell_at (w : World) (g o : Nat) (u : Value) (cur : Array Value) (e : TypeId) (fr : Nat × Nat) (h : w.heap[g]? = some (.cells cur e fr)) :
    (w.setCell ⟨g, o, none⟩ u).heap[g]? = some (.cells (cur.setIfInBounds o u) e fr) := by
  simp [World.setCell, Array.getElem?_modify, h]
theorem cell_at_block {w : World} {g o : Nat} {cur : Array Value} {e : TypeId} {fr : Nat × Nat} (h : w.heap[g]? = some (.cells cur e fr)) : w.cell? ⟨g, o, none⟩ = cur[o]? := by simp [World.cell?, h]
theorem free_at_block {w : World} {g o : Nat} {cur : Array Value} {e : TypeId} (h : w.heap[g]? = some (.cells cur e (0, 0))) : w.frozen? ⟨g, o, none⟩ = false := by simp [World.frozen?, h]

theorem heap_alloc_at (w : World) (o : Obj) {n : Nat} (h : w.heap.size = n) : (w.alloc o).heap[n]? = some o := by subst h; exact heap_alloc_new w o
/-- A slice of ints that is the call's own: its cells, free to be written. -/
theorem ownSl_int {ps : List Nat} {w : World} {v : Value} {l : List Int} (h : OwnSl ps w v l) (i : Nat) (hi : i < l.length) :
    ∃ g o c, v = .slice (some ⟨g, o, none⟩) l.length c ∧ ps = [g] ∧ w.cell? ⟨g, o + i, none⟩ = some (.int .i64 (l.getD i 0)) ∧ w.frozen? ⟨g, o + i, none⟩ = false ∧
      ∀ x, I64 x → OwnSl ps (w.setCell ⟨g, o + i, none⟩ (.int .i64 x)) v (l.set i x) := by
  rcases h with ⟨rfl, rfl, _⟩ | ⟨g, o, c, cur, e, pss, rfl, h1, h2, h3, rfl, h5, h6⟩
  · exact absurd hi (Nat.not_lt_zero _)
  have hps : List.flatten pss = [] := by
    rw [List.flatten_eq_nil_iff]
    intro p hp
    obtain ⟨j, hj, rfl⟩ := List.mem_iff_getElem.1 hp
    obtain ⟨p', vs, hp', hO, _⟩ := h6 j (by omega)
    rw [List.getElem?_eq_getElem hj] at hp'
    cases hp'
    exact hO.1
  obtain ⟨p, vs, hp, hO, hc⟩ := h6 i hi
  obtain ⟨rfl, rfl, hI⟩ := hO
  have hci := hc 0 (by simp)
  simp at hci
  have hlt : o + i < cur.size := (Array.getElem?_eq_some_iff.1 hci).1
  refine ⟨g, o, c, rfl, by rw [hps], ?_, free_at_block h3, fun x hx => ?_⟩
  · rw [cell_at_block h3, hci]; simp [List.getD, hi]
  · refine .inr ⟨g, o, c, _, e, pss, by simp, by simpa using h1, h2, heap_setCell_at _ _ _ _ _ _ _ h3, rfl, by simpa using h5, fun j hj => ?_⟩
    simp only [List.length_set] at hj
    obtain ⟨p', vs', hp', hO', hc'⟩ := h6 j hj
    obtain ⟨rfl, rfl, hI'⟩ := hO'
    by_cases hij : i = j
    · subst hij
      refine ⟨[], [.int .i64 x], hp', ?_, fun k hk => ?_⟩
      · simp only [List.getElem_set_self]; exact ⟨rfl, rfl, hx⟩
      · obtain rfl : k = 0 := by simpa using hk
        simp [Array.getElem?_setIfInBounds, hlt]
    · refine ⟨[], [.int .i64 l[j]], hp', ?_, fun k hk => ?_⟩
      · simp only [List.getElem_set_ne hij]; exact ⟨rfl, rfl, hI'⟩
      · obtain rfl : k = 0 := by simpa using hk
        have := hc' 0 (by simp)
        simp at this
        simp [Array.getElem?_setIfInBounds, hij, this]
/-! ### A slice that the call makes by appending -/

/-- v is a row of the call's own that holds l; all blocks of it lie in [B, H), none twice. -/
def Acc {α : Type} [Rep α] (B H : Nat) (e : TypeId) (w : World) (v : Value) (l : List α) : Prop :=
  ∃ (xs : List Value) (pss : List (List Nat)), w.ownsRow B e (sz α) v l.length xs ∧ pss.length = l.length ∧ (v.ownBlock.toList ++ List.flatten pss).Nodup ∧ (∀ k, k ∈ v.ownBlock.toList ++ List.flatten pss → B ≤ k ∧ k < H) ∧
    ∀ i (h : i < l.length), ∃ p vs, pss[i]? = some p ∧ Own p w vs l[i] ∧ ∀ k, k < vs.length → xs[i * sz α + k]? = vs[k]?

theorem Acc.nil {α : Type} [Rep α] (B H : Nat) (e : TypeId) (w : World) : Acc (α := α) B H e w (.slice none 0 0) [] :=
  ⟨[], [], World.ownsRow_nil w B e _, rfl, by simp [Value.ownBlock], by simp [Value.ownBlock], fun i h => absurd h (Nat.not_lt_zero _)⟩
theorem ownsRow_below {w w' : World} {B : Nat} {e : TypeId} {size : Nat} {v : Value} {n : Nat} {xs : List Value} (h : w.ownsRow B e size v n xs) (hb : Below w.heap.size w w') : w'.ownsRow B e size v n xs := by
  refine ⟨h.1, ?_⟩
  rcases h.2 with hn | ⟨g, cap, cur, rfl, hg, hgg, rest⟩
  · exact .inl hn
  · exact .inr ⟨g, cap, cur, rfl, hg, by rw [hb.block g (Array.getElem?_eq_some_iff.1 hgg).1]; exact hgg, rest⟩
theorem Acc.mono {α : Type} [Rep α] {B H : Nat} {e : TypeId} {w w' : World} {v : Value} {l : List α} (h : Acc B H e w v l) (hb : Below w.heap.size w w') : Acc B H e w' v l := by
  obtain ⟨xs, pss, h1, h2, h3, h4, h5⟩ := h
  refine ⟨xs, pss, ownsRow_below h1 hb, h2, h3, h4, fun i hi => ?_⟩
  obtain ⟨p, vs, hp, hO, hx⟩ := h5 i hi
  exact ⟨p, vs, hp, Own.mono hO hb, hx⟩
theorem Acc.frame {α : Type} [Rep α] {B H : Nat} {e : TypeId} {w w' : World} {v : Value} {l : List α} (h : Acc B H e w v l) (hb : ∀ k, B ≤ k → k < H → w'.heap[k]? = w.heap[k]?) : Acc B H e w' v l := by
  obtain ⟨xs, pss, h1, h2, h3, h4, h5⟩ := h
  refine ⟨xs, pss, ?_, h2, h3, h4, fun i hi => ?_⟩
  · refine ⟨h1.1, ?_⟩
    rcases h1.2 with hn | ⟨g, cap, cur, rfl, hg, hgg, rest⟩
    · exact .inl hn
    · have := h4 g (by simp [Value.ownBlock])
      exact .inr ⟨g, cap, cur, rfl, hg, by rw [hb g this.1 this.2]; exact hgg, rest⟩
  · obtain ⟨p, vs, hp, hO, hx⟩ := h5 i hi
    refine ⟨p, vs, hp, Rep.own_frame (fun k hk => ?_) hO, hx⟩
    have := h4 k (List.mem_append.2 (.inr (List.mem_flatten.2 ⟨p, List.mem_of_getElem? hp, hk⟩)))
    exact hb k this.1 this.2
/-- A store below the row's blocks. -/
theorem Acc.setCell {α : Type} [Rep α] {B H : Nat} {e : TypeId} {w : World} {v : Value} {l : List α} (h : Acc B H e w v l) {a : Addr} (ha : a.block < B) (u : Value) : Acc B H e (w.setCell a u) v l :=
  h.frame (fun k hk _ => Below.heap_setCell _ _ _ _ (by omega))
theorem Acc.drewN {α : Type} [Rep α] {B H : Nat} {e : TypeId} {w : World} {v : Value} {l : List α} (h : Acc B H e w v l) (n : Nat) : Acc B H e (w.drewN n) v l :=
  h.frame (fun _ _ _ => rfl)
theorem Acc.up {α : Type} [Rep α] {B H H' : Nat} {e : TypeId} {w : World} {v : Value} {l : List α} (h : Acc B H e w v l) (hH : H ≤ H') : Acc B H' e w v l := by
  obtain ⟨xs, pss, h1, h2, h3, h4, h5⟩ := h
  exact ⟨xs, pss, h1, h2, h3, fun k hk => ⟨(h4 k hk).1, Nat.lt_of_lt_of_le (h4 k hk).2 hH⟩, h5⟩
theorem Acc.len {α : Type} [Rep α] {B H : Nat} {e : TypeId} {w : World} {v : Value} {l : List α} (h : Acc B H e w v l) : ∃ a c, v = .slice a l.length c ∧ l.length ≤ maxLen := by
  obtain ⟨xs, pss, h1, _⟩ := h
  rcases h1.2 with ⟨rfl, h0⟩ | ⟨g, cap, cur, rfl, _, _, hc, hm, _⟩
  · exact ⟨none, 0, by rw [h0], by rw [h0]; exact Nat.zero_le _⟩
  · exact ⟨_, _, rfl, Nat.le_trans hc hm⟩
theorem Acc.ownSl {α : Type} [Rep α] {B H : Nat} {e : TypeId} {w : World} {v : Value} {l : List α} (h : Acc B H e w v l) : ∃ ps, OwnSl ps w v l ∧ ps.Nodup ∧ ∀ k, k ∈ ps → B ≤ k ∧ k < H := by
  obtain ⟨xs, pss, h1, h2, h3, h4, h5⟩ := h
  rcases h1.2 with ⟨rfl, h0⟩ | ⟨g, cap, cur, rfl, hg, hh, hc, hm, hs, ht⟩
  · have : l = [] := List.eq_nil_of_length_eq_zero h0
    subst this
    exact ⟨[], .inl ⟨rfl, rfl, none, 0, rfl, Nat.zero_le _⟩, List.nodup_nil, by simp⟩
  · refine ⟨g :: List.flatten pss, .inr ⟨g, 0, cap, cur, e, pss, rfl, hc, hm, hh, rfl, h2, fun i hi => ?_⟩, by simpa [Value.ownBlock] using h3, by simpa [Value.ownBlock] using h4⟩
    obtain ⟨p, vs, hp, hO, hx⟩ := h5 i hi
    refine ⟨p, vs, hp, hO, fun k hk => ?_⟩
    have hsz := Rep.rd_len (Rep.own_rd hO)
    rw [← hx k hk, ← ht, List.getElem?_take]
    have hlt : i * sz α + k < l.length * sz α := by
      have : (i + 1) * sz α ≤ l.length * sz α := Nat.mul_le_mul_right _ hi
      rw [Nat.add_mul] at this
      omega
    rw [if_pos hlt, Nat.zero_add]
    simp
theorem Acc.fresh {α : Type} [Rep α] {B H : Nat} {e : TypeId} {w : World} {v : Value} {l : List α} (h : Acc B H e w v l) : Fresh B w [v] l := by
  obtain ⟨ps, h1, h2, h3⟩ := h.ownSl
  exact ⟨ps, ⟨v, rfl, h1⟩, h2, fun k hk => (h3 k hk).1⟩
theorem Acc.rd {α : Type} [Rep α] {B H : Nat} {e : TypeId} {w : World} {v : Value} {l : List α} (h : Acc B H e w v l) : Rd w [v] l := h.fresh.rd

theorem grownBy_below {w w' : World} {row : Option Nat} {B : Nat} (hg : w.grownBy w' row) (hB : B ≤ w.heap.size) (hr : ∀ k, row = some k → B ≤ k) : Below B w w' := (Below.refl B w).grown hg hB hr

/-- One element more. -/
theorem Acc.append {α : Type} [Rep α] {B H : Nat} {e : TypeId} {w w' : World} {v v' : Value} {l : List α} {x : α} {vs : List Value} (h : Acc B H e w v l) (hx : Fresh H w vs x) (hBH : B ≤ H) (hH : H ≤ w.heap.size)
    (hown : ∀ xs, w.ownsRow B e (sz α) v l.length xs → w'.ownsRow B e (sz α) v' (l.length + 1) (xs ++ vs)) (hgrow : w.grownBy w' v.ownBlock) (hv' : v'.ownBlock = v.ownBlock ∨ ∃ g, v'.ownBlock = some g ∧ w.heap.size ≤ g) :
    Acc B w'.heap.size e w' v' (l ++ [x]) := by
  obtain ⟨xs, pss, h1, h2, h3, h4, h5⟩ := h
  obtain ⟨q, hq, hqn, hqB⟩ := hx
  have hl1 := h1.1
  have hql := Rep.own_lt hq
  have keep : ∀ {β : Type} [Rep β] (p : List Nat) (us : List Value) (y : β), Own p w us y → (∀ k, k ∈ p → v.ownBlock ≠ some k) → Own p w' us y := by
    intro β _ p us y hO hne
    exact Rep.own_frame (fun k hk => hgrow.block k (Rep.own_lt hO k hk) (fun e => hne k hk e.symm)) hO
  have hsub : ∀ k, v.ownBlock = some k → k < H := fun k hk => (h4 k (by simp [hk])).2
  have hv'lt : ∀ k, v'.ownBlock = some k → B ≤ k ∧ k < w'.heap.size := (hown xs h1).lt
  have hsz := hgrow.size
  refine ⟨xs ++ vs, pss ++ [q], by simpa using hown xs h1, by simp [h2], ?_, ?_, fun i hi => ?_⟩
  · rw [List.nodup_append] at h3
    obtain ⟨_, n2, n3⟩ := h3
    rw [List.flatten_append, List.nodup_append]
    refine ⟨by cases v'.ownBlock <;> simp, ?_, ?_⟩
    · rw [List.nodup_append]
      refine ⟨n2, by simpa using hqn, ?_⟩
      rintro a ha b hb rfl
      have h6 := (h4 a (by simp [ha])).2
      have h7 := hqB a (by simpa using hb)
      omega
    · rintro a ha b hb rfl
      have ha' : v'.ownBlock = some a := by simpa using ha
      rcases List.mem_append.1 hb with hb | hb
      · rcases hv' with e1 | ⟨g, e1, hg⟩
        · exact n3 a (by rw [← e1]; simpa using ha) a hb rfl
        · rw [e1] at ha'
          cases ha'
          have := (h4 _ (List.mem_append.2 (.inr hb))).2
          omega
      · have hb : a ∈ q := by simpa using hb
        rcases hv' with e1 | ⟨g, e1, hg⟩
        · have := hsub a (by rw [← e1]; exact ha')
          have := hqB a hb
          omega
        · rw [e1] at ha'
          cases ha'
          have := hql _ hb
          omega
  · intro k hk
    rcases List.mem_append.1 hk with hk | hk
    · exact hv'lt k (by simpa using hk)
    · rw [List.flatten_append] at hk
      rcases List.mem_append.1 hk with hk | hk
      · have := h4 k (List.mem_append.2 (.inr hk))
        exact ⟨this.1, by omega⟩
      · have hk : k ∈ q := by simpa using hk
        have := hqB k hk
        have := hql k hk
        exact ⟨by omega, by omega⟩
  · by_cases hil : i < l.length
    · obtain ⟨p, us, hp, hO, hxx⟩ := h5 i hil
      refine ⟨p, us, by rw [List.getElem?_append_left (by omega)]; exact hp, ?_, fun k hk => ?_⟩
      · simp only [List.getElem_append_left hil]
        refine keep p us _ hO (fun k hk e => ?_)
        rw [List.nodup_append] at h3
        exact h3.2.2 k (by simp [e]) k (List.mem_flatten.2 ⟨p, List.mem_of_getElem? hp, hk⟩) rfl
      · have hus := Rep.rd_len (Rep.own_rd hO)
        have : (i + 1) * sz α ≤ l.length * sz α := Nat.mul_le_mul_right _ hil
        rw [Nat.add_mul] at this
        rw [List.getElem?_append_left (by omega)]
        exact hxx k hk
    · have hi' : i = l.length := by simp at hi; omega
      subst hi'
      refine ⟨q, vs, by rw [List.getElem?_append_right (by omega)]; simp [h2], ?_, fun k hk => ?_⟩
      · simp only [List.getElem_concat_length]
        refine keep q vs _ hq (fun k hk e => ?_)
        have := hsub k e
        have := hqB k hk
        omega
      · rw [List.getElem?_append_right (by omega)]
        congr 1
        omega

/-- What the table says of a slice type and its element type. -/
structure ElemT (P : Program) (t e : TypeId) (α : Type) [Rep α] (z : Value) (bytes : Nat) : Prop where
  und : P.underlying t = some (.slice e)
  info : ∃ i, P.info? e = some i ∧ i.zero = some z ∧ i.size = sz α ∧ i.bytes = bytes
  zs : z.cells.size = sz α
  pos : 0 < sz α
  small : bytes ≤ 1000
theorem ElemT.mk' {P : Program} {t e : TypeId} {α : Type} [Rep α] {z : Value} {bytes : Nat} (h1 : P.underlying t = some (.slice e))
    (h2 : (P.info? e).map (fun i => (i.zero, i.size, i.bytes)) = some (some z, sz α, bytes)) (h3 : z.cells.size = sz α) (h4 : 0 < sz α) (h5 : bytes ≤ 1000) : ElemT P t e α z bytes :=
  ⟨h1, info_parts h2, h3, h4, h5⟩

/-! ### make([]T, n) -/
theorem run_make_rep {P : Program} (w : World) (t e : TypeId) {α : Type} [Rep α] {z : Value} {bytes : Nat} (E : ElemT P t e α z bytes) (x0 : α) (h0 : ∀ w : World, Own [] w z.cells.toList x0) (n : Nat) (hn : n ≤ 1073741824) :
    ∃ w', (Instr.makeSlice t (.int .i64 (n : Int)) (.int .i64 (n : Int))).run P w = .ok (.slice (some ⟨w.heap.size, 0, none⟩) n n) w' ∧
      OwnSl [w.heap.size] w' (.slice (some ⟨w.heap.size, 0, none⟩) n n) (List.replicate n x0) ∧ Below w.heap.size w w' ∧ w'.heap.size = w.heap.size + 1 := by
  obtain ⟨i, hi, hz, hs, hb⟩ := E.info
  have hbytes : (i.bytes : Int) * (n : Int) ≤ 281474976710656 := by
    have h1 := E.small
    rw [hb]
    have : bytes * n ≤ 1000 * 1073741824 := Nat.mul_le_mul h1 hn
    have h2 : ((bytes * n : Nat) : Int) ≤ ((1000 * 1073741824 : Nat) : Int) := by exact_mod_cast this
    rw [Int.natCast_mul] at h2
    omega
  have hr := run_make (P := P) w t e i z E.und hi hz .i64 .i64 (n : Int) (n : Int) (by omega) (by omega) hbytes (by omega)
  simp only [Int.toNat_natCast] at hr
  refine ⟨_, hr, ?_, (Below.refl _ _).alloc (Nat.le_refl _) _, by simp⟩
  refine .inr ⟨w.heap.size, 0, n, _, e, List.replicate n [], by simp, by simp, by unfold maxLen; omega, heap_alloc_new w _, by simp, by simp, fun j hj => ?_⟩
  simp only [List.length_replicate] at hj
  refine ⟨[], z.cells.toList, by simp [hj], by simpa using h0 _, fun k hk => ?_⟩
  have hzs := E.zs
  simp only [Array.length_toList] at hk
  have hk' : k < sz α := by omega
  rw [hs]
  have hlt : j * sz α + k < n * sz α := by
    have : (j + 1) * sz α ≤ n * sz α := Nat.mul_le_mul_right _ hj
    rw [Nat.add_mul] at this
    omega
  have hmod : (j * sz α + k) % z.cells.size = k := by rw [hzs, Nat.add_comm, Nat.add_mul_mod_self_right]; exact Nat.mod_eq_of_lt hk'
  simp [madeCells, hlt, hmod, hk]

theorem wpList_make_rep {P : Program} (w : World) {ops : Array Oper} {rest : List Oper} {o : Oper} {a : Act} {Q : Exit → Act → World → Prop} (hgd : o.guard = none) (l c : Operand) (t : TypeId) (hop : o.op = Op.makeSlice t l c)
    {e : TypeId} {α : Type} [Rep α] {z : Value} {bytes : Nat} (E : ElemT P t e α z bytes) (x0 : α) (h0 : ∀ w : World, Own [] w z.cells.toList x0) (n : Nat) (hn : n ≤ 1073741824)
    (hl : a.eval l = .int .i64 (n : Int)) (hc : a.eval c = .int .i64 (n : Int))
    (h : ∀ w', OwnSl [w.heap.size] w' (.slice (some ⟨w.heap.size, 0, none⟩) n n) (List.replicate n x0) → Below w.heap.size w w' → w'.heap.size = w.heap.size + 1 → wpList P ops Q rest (a.put o.dst (.slice (some ⟨w.heap.size, 0, none⟩) n n)) w') :
    wpList P ops Q (o :: rest) a w := by
  refine wpList_plain hgd fun K hK' => ?_
  obtain ⟨w', hrun, r1, r2, r3⟩ := run_make_rep (P := P) w t e E x0 h0 n hn
  unfold Oper.wp
  simp [execOp, hop, hl, hc, hrun, Result.andThen]
  exact hK' _ _ (h w' r1 r2 r3)

theorem Fresh.setCell {α : Type} [Rep α] {lo : Nat} {w : World} {vs : List Value} {x : α} (h : Fresh lo w vs x) {a : Addr} (ha : a.block < lo) (u : Value) : Fresh lo (w.setCell a u) vs x := by
  obtain ⟨ps, h1, h2, h3⟩ := h
  exact ⟨ps, Rep.own_frame (fun k hk => Below.heap_setCell _ _ _ _ (by have := h3 k hk; omega)) h1, h2, h3⟩
theorem Fresh.frame {α : Type} [Rep α] {lo : Nat} {w w' : World} {vs : List Value} {x : α} (h : Fresh lo w vs x) (hb : ∀ k, lo ≤ k → k < w.heap.size → w'.heap[k]? = w.heap[k]?) : Fresh lo w' vs x := by
  obtain ⟨ps, h1, h2, h3⟩ := h
  exact ⟨ps, Rep.own_frame (fun k hk => hb k (h3 k hk) (Rep.own_lt h1 k hk)) h1, h2, h3⟩

/-! ### The state of a call: its own boxes -/
/-- wr has come of w by the call's own doing; below B lie its boxes, which hold what is said. -/
structure St (w : World) (B : Nat) (wr : World) (bx : List (Nat × Array Value × TypeId)) : Prop where
  bel : Below w.heap.size w wr
  lo : w.heap.size ≤ B
  hi : B ≤ wr.heap.size
  box : ∀ x, x ∈ bx → w.heap.size ≤ x.1 ∧ x.1 < B ∧ wr.heap[x.1]? = some (.cells x.2.1 x.2.2 (0, 0))
theorem St.start (w : World) : St w w.heap.size w [] := ⟨Below.refl _ _, Nat.le_refl _, Nat.le_refl _, by simp⟩
/-- One box more. -/
theorem St.alloc {w : World} {B : Nat} {wr : World} {bx : List (Nat × Array Value × TypeId)} (h : St w B wr bx) (cs : Array Value) (t : TypeId) {n : Nat} (hn : n = wr.heap.size) :
    St w (n + 1) (wr.alloc (.cells cs t)) (bx ++ [(n, cs, t)]) := by
  subst hn
  refine ⟨h.bel.alloc (Nat.le_trans h.lo h.hi) _, by have := h.lo; have := h.hi; omega, by simp, fun x hx => ?_⟩
  rcases List.mem_append.1 hx with hx | hx
  · have h1 := h.box x hx
    have := h.hi
    exact ⟨h1.1, by omega, by rw [Below.heap_alloc _ _ _ (by omega)]; exact h1.2.2⟩
  · obtain rfl : x = _ := by simpa using hx
    exact ⟨by have := h.lo; have := h.hi; simp; omega, by simp, heap_alloc_at _ _ rfl⟩
/-- What only adds. -/
theorem St.step {w : World} {B : Nat} {wr w1 : World} {bx : List (Nat × Array Value × TypeId)} (h : St w B wr bx) (hb : Below wr.heap.size wr w1) : St w B w1 bx :=
  ⟨h.bel.trans (hb.mono (Nat.le_trans h.lo h.hi)), h.lo, Nat.le_trans h.hi hb.size, fun x hx => by
    have h1 := h.box x hx
    exact ⟨h1.1, h1.2.1, by rw [hb.block _ (Nat.lt_of_lt_of_le h1.2.1 h.hi)]; exact h1.2.2⟩⟩
/-- What turns nothing below B. -/
theorem St.stepB {w : World} {B : Nat} {wr w1 : World} {bx : List (Nat × Array Value × TypeId)} (h : St w B wr bx) (hb : Below B wr w1) : St w B w1 bx :=
  ⟨h.bel.trans (hb.mono h.lo), h.lo, Nat.le_trans h.hi hb.size, fun x hx => by
    have h1 := h.box x hx
    exact ⟨h1.1, h1.2.1, by rw [hb.block _ h1.2.1]; exact h1.2.2⟩⟩
theorem St.drewN {w : World} {B : Nat} {wr : World} {bx : List (Nat × Array Value × TypeId)} (h : St w B wr bx) (n : Nat) : St w B (wr.drewN n) bx := h.step ⟨rfl, rfl, rfl, Nat.le_refl _, fun _ _ => rfl⟩
theorem St.drew {w : World} {B : Nat} {wr : World} {bx : List (Nat × Array Value × TypeId)} (h : St w B wr bx) : St w B wr.drew bx := h.step (Below.refl _ _).drew
/-- The boundary may be put higher. -/
theorem St.up {w : World} {B : Nat} {wr : World} {bx : List (Nat × Array Value × TypeId)} (h : St w B wr bx) {B' : Nat} (h1 : B ≤ B') (h2 : B' ≤ wr.heap.size) : St w B' wr bx :=
  ⟨h.bel, Nat.le_trans h.lo h1, h2, fun x hx => ⟨(h.box x hx).1, Nat.lt_of_lt_of_le (h.box x hx).2.1 h1, (h.box x hx).2.2⟩⟩
theorem St.sub {w : World} {B : Nat} {wr : World} {bx bx' : List (Nat × Array Value × TypeId)} (h : St w B wr bx) (hs : ∀ x, x ∈ bx' → x ∈ bx) : St w B wr bx' :=
  ⟨h.bel, h.lo, h.hi, fun x hx => h.box x (hs x hx)⟩
theorem St.cell {w : World} {B : Nat} {wr : World} {bx : List (Nat × Array Value × TypeId)} (h : St w B wr bx) (g : Nat) (cs : Array Value) (t : TypeId) (hm : (g, cs, t) ∈ bx) (o : Nat) : wr.cell? ⟨g, o, none⟩ = cs[o]? := cell_at_block (h.box _ hm).2.2
theorem St.free {w : World} {B : Nat} {wr : World} {bx : List (Nat × Array Value × TypeId)} (h : St w B wr bx) (g : Nat) (cs : Array Value) (t : TypeId) (hm : (g, cs, t) ∈ bx) (o : Nat) : wr.frozen? ⟨g, o, none⟩ = false := free_at_block (h.box _ hm).2.2
/-- Cell o of box number i. -/
theorem St.cellAt {w : World} {B : Nat} {wr : World} {bx : List (Nat × Array Value × TypeId)} (h : St w B wr bx) (i : Nat) {g : Nat} {cs : Array Value} {t : TypeId} (hi : bx[i]? = some (g, cs, t)) (o : Nat) {v : Value} (hv : cs[o]? = some v) : wr.cell? ⟨g, o, none⟩ = some v :=
  (h.cell g cs t (List.mem_of_getElem? hi) o).trans hv
theorem St.freeAt {w : World} {B : Nat} {wr : World} {bx : List (Nat × Array Value × TypeId)} (h : St w B wr bx) (i : Nat) {g : Nat} {cs : Array Value} {t : TypeId} (hi : bx[i]? = some (g, cs, t)) (o : Nat) : wr.frozen? ⟨g, o, none⟩ = false :=
  h.free g cs t (List.mem_of_getElem? hi) o
/-- A store into the box in the middle of the list. -/
theorem St.set {w : World} {B : Nat} {wr : World} {p q : List (Nat × Array Value × TypeId)} {g : Nat} {cs : Array Value} {t : TypeId} (h : St w B wr (p ++ (g, cs, t) :: q)) (hd : ∀ x, x ∈ p ++ q → x.1 ≠ g) (o : Nat) (u : Value) :
    St w B (wr.setCell ⟨g, o, none⟩ u) (p ++ (g, cs.setIfInBounds o u, t) :: q) := by
  have hg := h.box (g, cs, t) (by simp)
  refine ⟨h.bel.setCell hg.1 _, h.lo, by simpa [World.setCell] using h.hi, fun x hx => ?_⟩
  by_cases hx' : x = (g, cs.setIfInBounds o u, t)
  · subst hx'
    exact ⟨hg.1, hg.2.1, heap_setCell_at _ _ _ _ _ _ _ hg.2.2⟩
  · have hm : x ∈ p ++ q := by
      rcases List.mem_append.1 hx with hx | hx
      · exact List.mem_append.2 (.inl hx)
      · rcases List.mem_cons.1 hx with hx | hx
        · exact absurd hx hx'
        · exact List.mem_append.2 (.inr hx)
    have h1 := h.box x (by rcases List.mem_append.1 hm with hm | hm <;> simp [hm])
    exact ⟨h1.1, h1.2.1, by rw [Below.heap_setCell _ _ _ _ (hd x hm)]; exact h1.2.2⟩
theorem Fresh.block {α : Type} [Rep α] {lo : Nat} {w : World} {b o n c : Nat} {l : List α} (h : Fresh lo w [.slice (some ⟨b, o, none⟩) n c] l) (hl : l ≠ []) : lo ≤ b ∧ b < w.heap.size := by
  obtain ⟨ps, ⟨v, e, h1⟩, h2, h3⟩ := h
  obtain rfl : .slice (some ⟨b, o, none⟩) n c = v := by simpa using e
  rcases h1 with ⟨rfl, _⟩ | ⟨g, o', c', cur, e', pss, hv, _, _, hh, rfl, _⟩
  · exact absurd rfl hl
  · simp only [Value.slice.injEq, Option.some.injEq, Addr.mk.injEq] at hv
    obtain ⟨⟨rfl, _⟩, _⟩ := hv
    exact ⟨h3 _ (by simp), (Array.getElem?_eq_some_iff.1 hh).1⟩
theorem cellK {w w' : World} {b o : Nat} {v : Value} (h : w.cell? ⟨b, o, none⟩ = some v) (hk : w'.heap[b]? = w.heap[b]?) : w'.cell? ⟨b, o, none⟩ = some v := by rw [← h]; exact World.cell?_of_block (a := ⟨b, o, none⟩) hk
theorem fresh_nil_list {α : Type} [Rep α] {H : Nat} {w : World} : Fresh H w [.slice none 0 0] ([] : List α) := ⟨[], ⟨_, rfl, .inl ⟨rfl, rfl, none, 0, rfl, Nat.zero_le _⟩⟩, by simp, by simp⟩
theorem St.acc {α : Type} [Rep α] {w : World} {B H : Nat} {wr w1 : World} {bx : List (Nat × Array Value × TypeId)} {e : TypeId} {v : Value} {l : List α} (_ : St w B wr bx) (h : Acc B H e wr v l) (hb : Below wr.heap.size wr w1) : Acc B H e w1 v l := h.mono hb

/-- What stood there is as it was, but for the blocks ps. -/
structure But (ps : List Nat) (w w' : World) : Prop where
  os : w'.os = w.os
  tape : w'.tape = w.tape
  output : w'.output = w.output
  size : w.heap.size ≤ w'.heap.size
  block : ∀ k, k < w.heap.size → k ∉ ps → w'.heap[k]? = w.heap[k]?
theorem But.refl (ps : List Nat) (w : World) : But ps w w := ⟨rfl, rfl, rfl, Nat.le_refl _, fun _ _ _ => rfl⟩
theorem But.trans {ps : List Nat} {a b c : World} (h : But ps a b) (k : But ps b c) : But ps a c :=
  ⟨k.os.trans h.os, k.tape.trans h.tape, k.output.trans h.output, Nat.le_trans h.size k.size, fun i hi hp => (k.block i (Nat.lt_of_lt_of_le hi h.size) hp).trans (h.block i hi hp)⟩
theorem OnlyAt.but {ps : List Nat} {a b : World} (h : OnlyAt ps a b) : But ps a b := ⟨h.os, h.tape, h.output, by rw [h.size]; exact Nat.le_refl _, fun k _ hp => h.block k hp⟩
theorem but_of {ps : List Nat} {a b : World} (h : Below a.heap.size a b) : But ps a b := ⟨h.os, h.tape, h.output, h.size, fun k hk _ => h.block k hk⟩
theorem But.mono {ps qs : List Nat} {a b : World} (h : But ps a b) (hs : ∀ k, k ∈ ps → k ∈ qs) : But qs a b := ⟨h.os, h.tape, h.output, h.size, fun i hi hp => h.block i hi (fun hk => hp (hs i hk))⟩
theorem But.below {ps : List Nat} {B : Nat} {a b : World} (h : But ps a b) (hp : ∀ k, k ∈ ps → B ≤ k) (hB : B ≤ a.heap.size) : Below B a b :=
  ⟨h.os, h.tape, h.output, h.size, fun k hk => h.block k (by omega) (fun hm => by have := hp k hm; omega)⟩
theorem Own.but {α : Type} [Rep α] {ps qs : List Nat} {w w' : World} {vs : List Value} {x : α} (h : Own ps w vs x) (hb : But qs w w') (hd : ∀ k, k ∈ ps → k ∉ qs) : Own ps w' vs x :=
  Rep.own_frame (fun k hk => hb.block k (Rep.own_lt h k hk) (hd k hk)) h
theorem St.but {w : World} {B : Nat} {wr w1 : World} {bx : List (Nat × Array Value × TypeId)} (h : St w B wr bx) {ps : List Nat} (hb : But ps wr w1) (hp : ∀ k, k ∈ ps → B ≤ k) : St w B w1 bx := h.stepB (hb.below hp h.hi)

/-- Owned, in blocks of [lo, hi), none twice. -/
def Iv {α : Type} [Rep α] (lo hi : Nat) (w : World) (vs : List Value) (x : α) : Prop := ∃ ps, Own ps w vs x ∧ ps.Nodup ∧ ∀ k, k ∈ ps → lo ≤ k ∧ k < hi
theorem Fresh.iv {α : Type} [Rep α] {lo : Nat} {w : World} {vs : List Value} {x : α} (h : Fresh lo w vs x) : Iv lo w.heap.size w vs x := by
  obtain ⟨ps, h1, h2, h3⟩ := h
  exact ⟨ps, h1, h2, fun k hk => ⟨h3 k hk, Rep.own_lt h1 k hk⟩⟩
theorem Iv.mono {α : Type} [Rep α] {lo hi : Nat} {w w' : World} {vs : List Value} {x : α} (h : Iv lo hi w vs x) (hb : Below w.heap.size w w') : Iv lo hi w' vs x := by
  obtain ⟨ps, h1, h2, h3⟩ := h
  exact ⟨ps, Own.mono h1 hb, h2, h3⟩
theorem Iv.but {α : Type} [Rep α] {lo hi : Nat} {w w' : World} {vs : List Value} {x : α} (h : Iv lo hi w vs x) {ps : List Nat} (hb : But ps w w') (hd : ∀ k, k ∈ ps → ¬ (lo ≤ k ∧ k < hi)) : Iv lo hi w' vs x := by
  obtain ⟨qs, h1, h2, h3⟩ := h
  exact ⟨qs, Own.but h1 hb (fun k hk hp => hd k hp (h3 k hk)), h2, h3⟩
theorem Iv.rd {α : Type} [Rep α] {lo hi : Nat} {w : World} {vs : List Value} {x : α} (h : Iv lo hi w vs x) : Rd w vs x := by
  obtain ⟨ps, h1, _⟩ := h; exact Rep.own_rd h1
/-- A writing call: the boxes stay. -/
theorem St.butIv {w : World} {B : Nat} {wr w1 : World} {bx : List (Nat × Array Value × TypeId)} (h : St w B wr bx) {ps : List Nat} (hb : But ps wr w1) (hp : ∀ k, k ∈ ps → w.heap.size ≤ k) (hx : ∀ x, x ∈ bx → x.1 ∉ ps) : St w B w1 bx :=
  ⟨h.bel.trans (hb.below hp (Nat.le_trans h.lo h.hi)), h.lo, Nat.le_trans h.hi hb.size, fun x hm => by
    have h1 := h.box x hm
    exact ⟨h1.1, h1.2.1, by rw [hb.block _ (Nat.lt_of_lt_of_le h1.2.1 h.hi) (hx x hm)]; exact h1.2.2⟩⟩

end Go.Proofs.YtamkfnkikiekaaaGreat

/-
  What the table says of the slice types.
-/
namespace Go.Proofs.YtamkfnkikiekaaaGreat
open Go.RowKit
open Rep (Rd Own sz)

abbrev Eqn := List Int × Int
abbrev Sys := Int × Int × List Eqn
abbrev RelT := Int × List (List Int)
abbrev OpT := Int × List Int
abbrev Tmpl := Int × List RelT
abbrev Inst := Int × List OpT

theorem own0_int (w : World) : Own [] w (Value.cells (.int .i64 0)).toList (0 : Int) := ⟨rfl, rfl, ⟨by decide, by decide⟩⟩
theorem E_ints : ElemT Tryz.prog 47 2 (Int) (.int .i64 0) 8 := ElemT.mk' Tryz.underlying47 (by kernel_rfl) rfl (by decide) (by decide)
theorem E_lists : ElemT Tryz.prog 32 47 (List Int) (.slice none 0 0) 24 := ElemT.mk' Tryz.underlying32 (by kernel_rfl) rfl (by decide) (by decide)
theorem E_rels : ElemT Tryz.prog 24 57 (RelT) (.agg #[.int .i64 0, .slice none 0 0]) 32 := ElemT.mk' Tryz.underlying24 (by kernel_rfl) rfl (by decide) (by decide)
theorem E_cons : ElemT Tryz.prog 27 60 (OpT) (.agg #[.int .i64 0, .slice none 0 0]) 32 := ElemT.mk' Tryz.underlying27 (by kernel_rfl) rfl (by decide) (by decide)
theorem E_arcs : ElemT Tryz.prog 35 41 ((Int × Int × Int)) (.agg #[.int .i64 0, .int .i64 0, .int .i64 0]) 24 := ElemT.mk' Tryz.underlying35 (by kernel_rfl) rfl (by decide) (by decide)
end Go.Proofs.YtamkfnkikiekaaaGreat

/-
  PLAIN: an element of an owned slice is written anew; owned structs put together.
-/
namespace Go.Proofs.YtamkfnkikiekaaaGreat
open Go.RowKit
open Rep (Rd Own sz)
set_option linter.unusedSimpArgs false
set_option linter.unusedVariables false

def putCells (w : World) (g : Nat) : Nat → List Value → World
  | _, [] => w
  | o, v :: vs => putCells (w.setCell ⟨g, o, none⟩ v) g (o + 1) vs
def putArr (cur : Array Value) : Nat → List Value → Array Value
  | _, [] => cur
  | o, v :: vs => putArr (cur.setIfInBounds o v) (o + 1) vs
theorem putCells_heap (g : Nat) (e : TypeId) (fr : Nat × Nat) : ∀ (vs : List Value) (o : Nat) (w : World) (cur : Array Value), w.heap[g]? = some (.cells cur e fr) → (putCells w g o vs).heap[g]? = some (.cells (putArr cur o vs) e fr)
  | [], _, _, _, h => h
  | v :: vs, o, w, cur, h => putCells_heap g e fr vs (o + 1) _ _ (heap_setCell_at w g o v cur e fr h)
theorem putCells_only (g : Nat) : ∀ (vs : List Value) (o : Nat) (w : World), OnlyAt [g] w (putCells w g o vs)
  | [], _, w => OnlyAt.refl _ _
  | v :: vs, o, w => ((OnlyAt.refl [g] w).setCell (p := ⟨g, o, none⟩) (by simp) v).trans (putCells_only g vs (o + 1) _)
theorem putArr_out : ∀ (vs : List Value) (o q : Nat) (cur : Array Value), (q < o ∨ o + vs.length ≤ q) → (putArr cur o vs)[q]? = cur[q]?
  | [], _, _, _, _ => rfl
  | v :: vs, o, q, cur, h => by
    simp only [List.length_cons] at h
    rw [putArr, putArr_out vs (o + 1) q _ (by omega), Array.getElem?_setIfInBounds_ne (by omega)]
theorem putArr_in : ∀ (vs : List Value) (o k : Nat) (cur : Array Value), k < vs.length → o + k < cur.size → (putArr cur o vs)[o + k]? = vs[k]?
  | [], _, _, _, h, _ => absurd h (Nat.not_lt_zero _)
  | v :: vs, o, 0, cur, _, hs => by
    rw [putArr, putArr_out vs (o + 1) _ _ (by omega)]
    have : o < cur.size := by omega
    simp [Array.getElem?_setIfInBounds, this]
  | v :: vs, o, k + 1, cur, h, hs => by
    simp only [List.length_cons] at h
    have := putArr_in vs (o + 1) k (cur.setIfInBounds o v) (by omega) (by simp; omega)
    rw [putArr, show o + (k + 1) = o + 1 + k by omega, this]
    simp

theorem cell_of_heap {w : World} {g q : Nat} {cur : Array Value} {e : TypeId} (h : w.heap[g]? = some (.cells cur e (0, 0))) (hq : q < cur.size) : w.cell? ⟨g, q, none⟩ = some cur[q] := by
  rw [cell_at_block h, Array.getElem?_eq_getElem hq]
theorem idx_lt {n j k s : Nat} (hj : j < n) (hk : k < s) : j * s + k < n * s := by
  have : (j + 1) * s ≤ n * s := Nat.mul_le_mul_right _ hj
  rw [Nat.add_mul] at this
  omega
theorem Iv.fresh {α : Type} [Rep α] {lo hi : Nat} {w : World} {vs : List Value} {x : α} (h : Iv lo hi w vs x) : Fresh lo w vs x := by
  obtain ⟨q, o2, n2, b2⟩ := h
  exact ⟨q, o2, n2, fun k hk => (b2 k hk).1⟩
theorem Iv.frame {α : Type} [Rep α] {lo hi : Nat} {w w' : World} {vs : List Value} {x : α} (h : Iv lo hi w vs x) (hb : ∀ k, lo ≤ k → k < hi → w'.heap[k]? = w.heap[k]?) : Iv lo hi w' vs x := by
  obtain ⟨q, o2, n2, b2⟩ := h
  exact ⟨q, Rep.own_frame (fun k hk => hb k (b2 k hk).1 (b2 k hk).2) o2, n2, b2⟩
theorem Iv.setCell {α : Type} [Rep α] {lo hi : Nat} {w : World} {vs : List Value} {x : α} (h : Iv lo hi w vs x) {a : Addr} (ha : a.block < lo) (u : Value) : Iv lo hi (w.setCell a u) vs x :=
  h.frame (fun k hk _ => Below.heap_setCell _ _ _ _ (by omega))
theorem own_cons {α β : Type} [Rep α] [Rep β] {ps : List Nat} {w : World} {v0 : Value} {vs : List Value} {x : α × β} (hα : sz α = 1) (h : Own ps w (v0 :: vs) x) : ∃ p q, ps = p ++ q ∧ Own p w [v0] x.1 ∧ Own q w vs x.2 := by
  obtain ⟨p, q, a, b, hp, e, h1, h2⟩ := h
  have := Rep.rd_len (Rep.own_rd h1)
  rw [hα] at this
  match a, this with
  | [a0], _ => simp only [List.cons_append, List.nil_append, List.cons.injEq] at e; obtain ⟨rfl, rfl⟩ := e; exact ⟨p, q, hp, h1, h2⟩
theorem mk_own {α β : Type} [Rep α] [Rep β] {p q : List Nat} {w : World} {v0 : Value} {vs : List Value} {x : α} {y : β} (h1 : Own p w [v0] x) (h2 : Own q w vs y) : Own (p ++ q) w (v0 :: vs) (x, y) := ⟨p, q, [v0], vs, rfl, rfl, h1, h2⟩

end Go.Proofs.YtamkfnkikiekaaaGreat

/-
  CONTRACTS of the small functions on numbers.
-/
namespace Go.Proofs.YtamkfnkikiekaaaGreat
open Go.RowKit
open Rep (Rd Own sz)
set_option linter.unusedSimpArgs false
set_option linter.unusedVariables false

def inB (n lo hi : Int) : Bool := decide (lo ≤ n ∧ n ≤ hi)
theorem inB_true {n lo hi : Int} (h : inB n lo hi = true) : lo ≤ n ∧ n ≤ hi := by simpa [inB] using h
theorem inB_mk {n lo hi : Int} (h : lo ≤ n ∧ n ≤ hi) : inB n lo hi = true := by simpa [inB] using h
set_option maxHeartbeats 400000 in
theorem l00In_c (n lo hi : Int) (w : World) :
    Calls Tryz.prog 43 #[.int .i64 n, .int .i64 lo, .int .i64 hi] w fun e w' => e = .returned (.bool (inB n lo hi)) ∧ w = w' := by
  by_cases h1 : lo ≤ n
  all_goals
    go_enter Tryz.func43, Tryz.ntmps43
    go_wp2
    go_ret
    exact ⟨ret_bool (by simp [inB]; omega), rfl⟩
set_option maxHeartbeats 400000 in
theorem within_c (n lo hi : Int) (w : World) :
    Calls Tryz.prog 49 #[.int .i64 n, .int .i64 lo, .int .i64 hi] w fun e w' => e = .returned (.bool (inB n lo hi)) ∧ w = w' := by
  by_cases h1 : lo ≤ n
  all_goals
    go_enter Tryz.func49, Tryz.ntmps49
    go_wp2
    go_ret
    exact ⟨ret_bool (by simp [inB]; omega), rfl⟩
set_option maxHeartbeats 400000 in
theorem l00Max_c (a b : Int) (w : World) :
    Calls Tryz.prog 110 #[.int .i64 a, .int .i64 b] w fun e w' => e = .returned (.int .i64 (max a b)) ∧ w = w' := by
  by_cases h : b < a
  · go_enter Tryz.func110, Tryz.ntmps110
    go_wp2
    go_ret
    exact ⟨ret_int (by rw [Int.max_eq_left (by omega)]), rfl⟩
  · go_enter Tryz.func110, Tryz.ntmps110
    go_wp2
    go_ret
    exact ⟨ret_int (by rw [Int.max_eq_right (by omega)]), rfl⟩
end Go.Proofs.YtamkfnkikiekaaaGreat

/-
  CONTRACTS of the functions on slices of ints.
-/
namespace Go.Proofs.YtamkfnkikiekaaaGreat
open Go.RowKit
open Rep (Rd Own sz)
set_option linter.unusedSimpArgs false
set_option linter.unusedVariables false

theorem take_eq_succ {l1 l2 : List Int} {k n : Nat} (h1 : l1.length = n) (h2 : l2.length = n) (hk : k < n) (h : l1.take k = l2.take k) (e : l1.getD k 0 = l2.getD k 0) : l1.take (k + 1) = l2.take (k + 1) := by
  rw [List.take_succ_eq_append_getElem (by omega), List.take_succ_eq_append_getElem (by omega), h]
  have : l1[k]'(by omega) = l2[k]'(by omega) := by simpa [List.getD, h1, h2, hk] using e
  rw [this]
theorem drewN_below (w : World) (n : Nat) : Below w.heap.size w (w.drewN n) := ⟨rfl, rfl, rfl, Nat.le_refl _, fun _ _ => rfl⟩


set_option maxHeartbeats 400000 in
theorem l00Same_c (l1 l2 : List Int) (v1 v2 : Value) (w : World) (r1 : Rd w [v1] l1) (r2 : Rd w [v2] l2) :
    Calls Tryz.prog 28 #[v1, v2] w fun e w' => e = .returned (.bool (decide (l1 = l2))) ∧ ∃ n, w' = w.drewN n := by
  obtain ⟨a1, c1, rfl, h1⟩ := rd_list r1
  obtain ⟨a2, c2, rfl, h2⟩ := rd_list r2
  clear r1 r2
  have b1 := (rdSl_len h1).2
  have b2 := (rdSl_len h2).2
  unfold maxLen at b1 b2
  by_cases hl : l1.length = l2.length
  · generalize hn1 : l1.length = n1 at *
    generalize hn2 : l2.length = n2 at *
    have H1 := Lib.hid hn1
    have H2 := Lib.hid hn2
    clear hn1 hn2
    subst hl
    have hl' : ((n1 : Int) != n1) = false := by simp
    go_enter Tryz.func28, Tryz.ntmps28
    go_wp2
    go_loopw [5] (fun i wr => ∃ k n : Nat, k ≤ n1 ∧ i = .int .i64 k ∧ wr = w.drewN n ∧ l1.take k = l2.take k) (fun i _ => n1 - (intOf i).toNat)
    case atStart => exact ⟨0, 0, Nat.zero_le _, rfl, rfl, by simp⟩
    case round =>
      obtain ⟨k, n, hk, rfl, rfl, hr⟩ := hrel
      by_cases hlt : k < n1
      · obtain ⟨b1, o1, rfl, hc1, _⟩ := rdSl_int h1 k (by rw [H1.out]; exact hlt)
        obtain ⟨b2, o2, rfl, hc2, _⟩ := rdSl_int h2 k (by rw [H2.out]; exact hlt)
        clear h1 h2
        have HR := Lib.hid hr
        clear hr
        go_wp2
        go_quiet (fail)
        go_wp2
        · rename_i hne
          go_ret
          refine ⟨ret_bool ?_, _, by simp; rfl⟩
          simp only [bne_iff_ne, ne_eq] at hne
          symm
          simp only [decide_eq_false_iff_not]
          rintro rfl
          exact hne rfl
        · rename_i he
          go_roundw
          case rel => exact ⟨k + 1, n + _, by omega, by go_num, rfl, take_eq_succ H1.out H2.out hlt HR.out (by simpa using he)⟩
          case measure => simp [intOf]; omega
      · obtain rfl : k = n1 := by omega
        have HR := Lib.hid hr
        clear hr
        go_wp2
        go_ret
        refine ⟨ret_bool ?_, n, rfl⟩
        have := HR.out
        rw [List.take_of_length_le (by rw [H1.out]; exact Nat.le_refl _), List.take_of_length_le (by rw [H2.out]; exact Nat.le_refl _)] at this
        simp [this]
  · have hl' : ((l1.length : Int) != l2.length) = true := by simp; omega
    have HL := Lib.hid hl
    clear hl
    go_enter Tryz.func28, Tryz.ntmps28
    go_wp2
    go_ret
    refine ⟨ret_bool ?_, 0, rfl⟩
    symm
    simp only [decide_eq_false_iff_not]
    rintro rfl
    exact HL.out rfl

/-- The numbers that 'mark' writes. -/
def marks (k : Int) : Nat → List Int
  | 0 => []
  | n + 1 => k :: marks (k + 1) n
@[simp] theorem marks_length (k : Int) (n : Nat) : (marks k n).length = n := by induction n generalizing k with
  | zero => rfl
  | succ n ih => simp [marks, ih]
theorem i64_of (n : Int) (h1 : 0 ≤ n) (h2 : n ≤ 1000000000000) : I64 n := ⟨by omega, by omega⟩

/-- What is left of a budget. -/
def less (left n : Int) : Int := if left - n < 0 then -1 else left - n
end Go.Proofs.YtamkfnkikiekaaaGreat

/-
  PLAIN: a region that draws its order, walked once: what only reads (a copy, an address, a load of a cell that nobody writes who may come before) is taken as soon as it may come up; the other operations wait for one another.
-/
namespace Go.Proofs.YtamkfnkikiekaaaGreat
open Go.RowKit
set_option linter.unusedSimpArgs false
set_option linter.unusedVariables false

section
variable {P : Program} {ops : Array Oper} {Q : Exit → Act → World → Prop} {S : World → Prop}

/-- What operation j waits for. -/
def needsB (ops : Array Oper) (j : Nat) : List Nat := match ops[j]? with | some o => (o.after.toList.filter (fun e => Region.binds .any e)).map (fun e => e.on) | none => []
def reachB (ops : Array Oper) : Nat → Nat → Nat → Bool
  | 0, _, _ => false
  | f + 1, j, i => (needsB ops j).any fun k => k == i || reachB ops f k i
/-- Operation j waits for all others, if not at once then through others. -/
def sinkB (ops : Array Oper) (j : Nat) : Bool :=
  (List.range ops.size).all fun k => k == j || reachB ops ops.size j k
/-- What is listed has all listed that it waits for. -/
def Shut (ops : Array Oper) (listed : Array Bool) : Prop := ∀ (k : Nat) (o : Oper), listed.getD k false = true → ops[k]? = some o → ∀ e ∈ o.after, Region.binds .any e = true → listed.getD e.on false = true
theorem getD_keep {listed : Array Bool} {i k : Nat} (h : listed.getD k false = true) : (listed.setIfInBounds i true).getD k false = true := by
  simp only [Array.getD_eq_getD_getElem?, Array.getElem?_setIfInBounds] at h ⊢
  split
  · split <;> simp_all
  · exact h
theorem shut_set {listed : Array Bool} {i : Nat} (h : Shut ops listed) (hi : i ∈ Region.ready .any ops listed) : Shut ops (listed.setIfInBounds i true) := by
  intro k o hk ho e he hb
  obtain ⟨_, oi, hoi, hall⟩ := mem_ready.1 hi
  by_cases hki : k = i
  · subst hki
    rw [ho] at hoi
    cases hoi
    exact getD_keep (hall e he hb)
  · refine getD_keep (h k o ?_ ho e he hb)
    rw [getD_set_ne false (Ne.symm hki)] at hk
    exact hk
theorem shut_start : Shut ops (Array.replicate ops.size false) := by
  intro k o hk
  simp only [Array.getD_eq_getD_getElem?, Array.getElem?_replicate] at hk
  split at hk <;> simp at hk
theorem reach_listed {listed : Array Bool} (h : Shut ops listed) : ∀ (f j i : Nat), (∀ k, k ∈ needsB ops j → listed.getD k false = true) → reachB ops f j i = true → listed.getD i false = true
  | 0, _, _, _, hr => by simp [reachB] at hr
  | f + 1, j, i, hn, hr => by
    simp only [reachB, List.any_eq_true, Bool.or_eq_true, beq_iff_eq] at hr
    obtain ⟨k, hk, hr⟩ := hr
    rcases hr with rfl | hr
    · exact hn k hk
    · refine reach_listed h f k i (fun q hq => ?_) hr
      unfold needsB at hq
      cases ho : ops[k]? with
      | none => rw [ho] at hq; simp at hq
      | some o =>
        rw [ho] at hq
        simp only [List.mem_map, List.mem_filter, Array.mem_toList_iff] at hq
        obtain ⟨e, ⟨he, hb⟩, rfl⟩ := hq
        exact h k o (hn k hk) ho e he hb

def wpAnyK (P : Program) (ops : Array Oper) (Q : Exit → Act → World → Prop) (S : World → Prop) : Nat → Array Bool → Act → World → Prop
  | 0, listed, a, w => Region.ready .any ops listed = [] ∧ Q .normal a w
  | fuel + 1, listed, a, w =>
    (Region.ready .any ops listed = [] → Q .normal a w) ∧
    ∀ i ∈ Region.ready .any ops listed, wpOp P ops Q i (fun a' w' => (sinkB ops i = false → S w') ∧ wpAnyK P ops Q S fuel (listed.setIfInBounds i true) a' w') a w

theorem wpAny_of_K : ∀ (fuel : Nat) (listed : Array Bool) (a : Act) (w : World), wpAnyK P ops Q S fuel listed a w → wpAny P .any ops Q fuel listed a w
  | 0, _, _, _, h => h
  | fuel + 1, _, _, _, h => ⟨h.1, fun i hi => wpOp_mono (fun a' w' h' => wpAny_of_K fuel _ a' w' h'.2) (h.2 i hi)⟩

theorem sink_no {listed : Array Bool} {i j : Nat} (hcl : Shut ops listed) (hi : i < ops.size) (hir : i ∈ Region.ready .any ops listed) (hjr : j ∈ Region.ready .any ops listed) (hne : j ≠ i) : sinkB ops j = false := by
  cases h : sinkB ops j with
  | false => rfl
  | true =>
    simp only [sinkB, List.all_eq_true, List.mem_range] at h
    have h1 := h i hi
    simp only [Bool.or_eq_true, beq_iff_eq, Ne.symm hne, false_or] at h1
    obtain ⟨_, oj, hoj, hall⟩ := mem_ready.1 hjr
    have h2 := reach_listed hcl _ j i (fun k hk => by
      unfold needsB at hk
      rw [hoj] at hk
      simp only [List.mem_map, List.mem_filter, Array.mem_toList_iff] at hk
      obtain ⟨e, ⟨he, hb⟩, rfl⟩ := hk
      exact hall e he hb) h1
    have h0 := (mem_ready.1 hir).1
    simp only [Array.getD_eq_getD_getElem?] at h0 h2
    cases hl : listed[i]? with
    | none => rw [hl] at h0; simp at h0
    | some b => rw [hl] at h0 h2; simp at h0 h2; rw [h0] at h2; cases h2

theorem wpAnyK_first {i : Nat} {oi : Oper} {v : Value} (hi : ops[i]? = some oi) (hsel : ∀ (j : Nat) (o : Oper) cs b, ops[j]? = some o → o.op ≠ .select cs b)
    (hQ : ∀ c a w, Q (.panic c) (a.put oi.dst v) w → Q (.panic c) a w) :
    ∀ (fuel : Nat) (listed : Array Bool) (a : Act) (w : World), Shut ops listed →
      (∀ j oj, ops[j]? = some oj → j ≠ i → listed.getD j true = false → (∀ e ∈ oj.after, Region.binds .any e = true → e.on ≠ i) → oi.apart ops oj = true) →
      i ∈ Region.ready .any ops listed → YieldsIf P ops S oi v a → S w →
      wpAnyK P ops Q S fuel (listed.setIfInBounds i true) (a.put oi.dst v) w → wpAnyK P ops Q S (fuel + 1) listed a w := by
  intro fuel
  induction fuel with
  | zero =>
    intro listed a w _ _ hr hy hS H
    refine ⟨fun h => (by rw [h] at hr; cases hr), fun j hj => ?_⟩
    by_cases hji : j = i
    · subst hji; exact hy.wpOp hi hS ⟨fun _ => hS, H⟩
    · have := ready_mono hj hji
      rw [H.1] at this
      cases this
  | succ fuel ih =>
    intro listed a w hcl hfree hr hy hS H
    refine ⟨fun h => (by rw [h] at hr; cases hr), fun j hj => ?_⟩
    by_cases hji : j = i
    · subst hji; exact hy.wpOp hi hS ⟨fun _ => hS, H⟩
    · have h1 := H.2 j (ready_mono hj hji)
      obtain ⟨hjun, oj, hoj, hall⟩ := mem_ready.1 hj
      have hnot : ∀ e ∈ oj.after, Region.binds .any e = true → e.on ≠ i := fun e he hb heq => by
        have h1 := hall e he hb
        have h0 := (mem_ready.1 hr).1
        rw [heq] at h1
        rcases Nat.lt_or_ge i listed.size with h' | h'
        · simp [h'] at h0 h1; rw [h0] at h1; cases h1
        · simp [Array.getElem?_eq_none h'] at h1
      have hns := sink_no hcl (Array.getElem?_eq_some_iff.1 hi).1 hr hj hji
      have h2 := wpOp_putIf hoj (hfree j oj hoj hji hjun hnot) (fun cs b => hsel i oi cs b hi) (fun cs b => hsel j oj cs b hoj) hQ hy h1
      have hfree' : ∀ k ok, ops[k]? = some ok → k ≠ i → (listed.setIfInBounds j true).getD k true = false →
          (∀ e ∈ ok.after, Region.binds .any e = true → e.on ≠ i) → oi.apart ops ok = true := fun k ok hk hki hun hno => by
        refine hfree k ok hk hki ?_ hno
        by_cases hjk : j = k
        · subst hjk; exact hjun
        · rw [getD_set_ne true hjk] at hun; exact hun
      refine wpOp_mono (fun a' w' h3 => ⟨fun _ => h3.2.1 hns, ih (listed.setIfInBounds j true) a' w' (shut_set hcl hj) hfree' (ready_mono hr (Ne.symm hji)) h3.1 (h3.2.1 hns) ?_⟩) h2
      rw [Array.setIfInBounds_comm _ _ hji]
      exact h3.2.2

/-- The walk of a plan: 0: taken as soon as it may come up; 1: alone may come up, S behind it; 2: alone may come up, waits for all, last of those that S is for. -/
def wpEl (P : Program) (ops : Array Oper) (Q : Exit → Act → World → Prop) (S : World → Prop) : List (Nat × Nat) → Act → World → Prop
  | [], a, w => Q .normal a w
  | (i, 0) :: rest, a, w => ∃ o v, ops[i]? = some o ∧ YieldsIf P ops S o v a ∧ wpEl P ops Q S rest (a.put o.dst v) w
  | (i, 1) :: rest, a, w => wpOp P ops Q i (fun a' w' => S w' ∧ wpEl P ops Q S rest a' w') a w
  | (i, _) :: rest, a, w => wpOp P ops Q i (wpEl P ops Q S rest) a w

def planB (ops : Array Oper) : Array Bool → List (Nat × Nat) → Bool
  | listed, [] => (Region.ready .any ops listed).isEmpty
  | listed, (i, 0) :: rest => (Region.ready .any ops listed).contains i && Region.free .any ops listed i && planB ops (listed.setIfInBounds i true) rest
  | listed, (i, 1) :: rest => (Region.ready .any ops listed) == [i] && planB ops (listed.setIfInBounds i true) rest
  | listed, (i, _) :: rest => (Region.ready .any ops listed) == [i] && sinkB ops i && rest.all (fun x => x.2 != 0 && x.2 != 1) && planB ops (listed.setIfInBounds i true) rest

theorem wpAnyK_of_el (hsel : Region.noSelect ops = true) (hQ : ∀ c a d v w, Q (.panic c) (a.put d v) w → Q (.panic c) a w) :
    ∀ (π : List (Nat × Nat)) (listed : Array Bool) (a : Act) (w : World), Shut ops listed → planB ops listed π = true → (π.all (fun x => x.2 != 0 && x.2 != 1) = false → S w) →
      wpEl P ops Q S π a w → wpAnyK P ops Q S π.length listed a w := by
  intro π
  induction π with
  | nil => intro listed a w _ hp _ h; exact ⟨by simpa [planB] using hp, h⟩
  | cons x rest ih =>
    obtain ⟨i, k⟩ := x
    intro listed a w hcl hp hS h
    match k with
    | 0 =>
      simp only [planB, Bool.and_eq_true] at hp
      obtain ⟨o, v, ho, hy, hr⟩ := h
      have hSw : S w := hS (by simp)
      refine wpAnyK_first ho (Region.noSelect_spec hsel) (fun c a w h => hQ c a _ _ w h) _ listed a w hcl (Region.free_spec ho hp.1.2) (by simpa using hp.1.1) hy hSw ?_
      exact ih _ _ _ (shut_set hcl (by simpa using hp.1.1)) hp.2 (fun _ => hSw) hr
    | 1 =>
      simp only [planB, Bool.and_eq_true, beq_iff_eq] at hp
      have h : wpOp P ops Q i (fun a' w' => S w' ∧ wpEl P ops Q S rest a' w') a w := h
      refine ⟨fun h0 => (by rw [hp.1] at h0; cases h0), fun j hj => ?_⟩
      have hj0 := hj
      rw [hp.1] at hj
      obtain rfl : j = i := by simpa using hj
      exact wpOp_mono (fun a' w' h' => ⟨fun _ => h'.1, ih _ _ _ (shut_set hcl hj0) hp.2 (fun _ => h'.1) h'.2⟩) h
    | n + 2 =>
      simp only [planB, Bool.and_eq_true, beq_iff_eq] at hp
      have h : wpOp P ops Q i (wpEl P ops Q S rest) a w := h
      refine ⟨fun h0 => (by rw [hp.1.1.1] at h0; cases h0), fun j hj => ?_⟩
      have hj0 := hj
      rw [hp.1.1.1] at hj
      obtain rfl : j = i := by simpa using hj
      exact wpOp_mono (fun a' w' h' => ⟨fun hs => (by rw [hp.1.1.2] at hs; cases hs), ih _ _ _ (shut_set hcl hj0) hp.2 (fun hall => by rw [hp.1.2] at hall; cases hall) h'⟩) h

/-- THE BEGINNING. -/
theorem wp_region_el {id : Nat} {a : Act} {w : World} (S : World → Prop) (π : List (Nat × Nat)) (hm : P.follows .mixedOrders = true) (hsel : Region.noSelect ops = true)
    (hp : planB ops (Array.replicate ops.size false) π = true) (hl : π.length = ops.size) (hS : S w.drew)
    (hQ : ∀ c a d v w, Q (.panic c) (a.put d v) w → Q (.panic c) a w) (h : wpEl P ops Q S π a w.drew) : (Code.region id ops true).wp P Q a w := by
  refine wp_region_any hm (wpAny_of_K _ _ _ _ (?_ : wpAnyK P ops Q S ops.size (Array.replicate ops.size false) a w.drew))
  have := wpAnyK_of_el hsel hQ π _ a w.drew shut_start hp (fun _ => hS) h
  rw [hl] at this
  exact this

theorem el_nil {a : Act} {w : World} (h : Q .normal a w) : wpEl P ops Q S [] a w := h
variable {i : Nat} {dst : Option Tmp} {op : Op} {ty : TypeId} {pos : String} {after : Array Edge} {guard : Option (Nat × Bool)} {rest : List (Nat × Nat)} {a : Act} {w : World}
theorem el_float {v : Value} (ho : ops[i]? = some ⟨dst, op, ty, pos, after, guard⟩) (hw : Region.wanted ⟨dst, op, ty, pos, after, guard⟩ (yielded ops a.tmps) = true)
    (hy : ∀ w', S w' → (execOp a.eval ⟨dst, op, ty, pos, after, guard⟩).run P w' = .ok (.value v) w') (h : wpEl P ops Q S rest (a.put dst v) w) : wpEl P ops Q S ((i, 0) :: rest) a w :=
  ⟨_, v, ho, .inl ⟨hw, hy⟩, h⟩
theorem el_skip (ho : ops[i]? = some ⟨dst, op, ty, pos, after, guard⟩) (hw : Region.wanted ⟨dst, op, ty, pos, after, guard⟩ (yielded ops a.tmps) = false)
    (h : wpEl P ops Q S rest (a.put dst undef) w) : wpEl P ops Q S ((i, 0) :: rest) a w :=
  ⟨_, undef, ho, .inr ⟨hw, rfl⟩, h⟩
end
end Go.Proofs.YtamkfnkikiekaaaGreat

/-
  PLAIN: one element of an owned slice is taken out and put back; what is marked, as a relation.
-/
namespace Go.Proofs.YtamkfnkikiekaaaGreat
open Go.RowKit
open Rep (Rd Own sz)
set_option linter.unusedSimpArgs false
set_option linter.unusedVariables false

/-- Element j of an owned slice, and how it is put back. -/
theorem own_elem {α : Type} [Rep α] {ps : List Nat} {w : World} {v : Value} {l : List α} (h : OwnSl ps w v l) (hn : ps.Nodup) (j : Nat) (hj : j < l.length) :
    ∃ g o c cur e p vs, v = .slice (some ⟨g, o, none⟩) l.length c ∧ w.heap[g]? = some (.cells cur e (0, 0)) ∧ Own p w vs l[j] ∧ (∀ k, k < vs.length → cur[o + j * sz α + k]? = vs[k]?) ∧
      g ∈ ps ∧ g ∉ p ∧ p.Nodup ∧ (∀ k, k ∈ p → k ∈ ps) ∧
      ∀ (w' : World) (vs' : List Value) (y : α), w'.heap[g]? = some (.cells (putArr cur (o + j * sz α) vs') e (0, 0)) → Own p w' vs' y → (∀ k, k ∈ ps → k ∉ p → k ≠ g → w'.heap[k]? = w.heap[k]?) → OwnSl ps w' v (l.set j y) := by
  rcases h with ⟨rfl, _⟩ | ⟨g, o, c, cur, e, pss, rfl, h1, h2, h3, rfl, h5, h6⟩
  · exact absurd hj (Nat.not_lt_zero _)
  obtain ⟨p, vs, hp, hO, hc⟩ := h6 j hj
  have hjp : j < pss.length := by omega
  have hpj : pss[j] = p := by rw [List.getElem?_eq_getElem hjp] at hp; simpa using hp
  have hwhole : pss = pss.take j ++ p :: pss.drop (j + 1) := by
    conv => lhs; rw [← List.take_append_drop j pss, List.drop_eq_getElem_cons hjp, hpj]
  have hmem : ∀ k, k ∈ p → k ∈ List.flatten pss := fun k hk => List.mem_flatten.2 ⟨p, List.mem_of_getElem? hp, hk⟩
  have hgn := (List.nodup_cons.1 hn).1
  have hfn := (List.nodup_cons.1 hn).2
  have hdis : ∀ i q, i ≠ j → pss[i]? = some q → ∀ k, k ∈ q → k ∉ p := by
    intro i q hij hq k hk hkp
    rw [hwhole, List.flatten_append, List.flatten_cons] at hfn
    simp only [List.nodup_append, List.mem_append] at hfn
    obtain ⟨_, ⟨_, _, n3⟩, n4⟩ := hfn
    rcases Nat.lt_or_gt_of_ne hij with hlt | hlt
    · refine n4 k (List.mem_flatten.2 ⟨q, ?_, hk⟩) k (.inl hkp) rfl
      refine List.mem_iff_getElem?.2 ⟨i, ?_⟩
      rw [List.getElem?_take_of_lt hlt]; exact hq
    · refine n3 k hkp k (List.mem_flatten.2 ⟨q, ?_, hk⟩) rfl
      refine List.mem_iff_getElem?.2 ⟨i - (j + 1), ?_⟩
      rw [List.getElem?_drop, show j + 1 + (i - (j + 1)) = i by omega]; exact hq
  refine ⟨g, o, c, cur, e, p, vs, rfl, h3, hO, hc, by simp, fun hk => hgn (hmem g hk), ?_, fun k hk => List.mem_cons_of_mem _ (hmem k hk), ?_⟩
  · rw [hwhole, List.flatten_append, List.flatten_cons] at hfn
    simp only [List.nodup_append] at hfn
    exact hfn.2.1.1
  · intro w' vs' y hg hy hk
    have hvl' := Rep.rd_len (Rep.own_rd hy)
    have hvl := Rep.rd_len (Rep.own_rd hO)
    refine .inr ⟨g, o, c, _, e, pss, by simp, by simpa using h1, h2, hg, rfl, by simpa using h5, fun i hi => ?_⟩
    simp only [List.length_set] at hi
    by_cases hij : j = i
    · subst hij
      refine ⟨p, vs', hp, by simpa using hy, fun k hk' => putArr_in vs' _ k cur hk' ?_⟩
      have := hc k (by omega)
      rw [List.getElem?_eq_getElem (by omega)] at this
      exact (Array.getElem?_eq_some_iff.1 this).1
    · obtain ⟨q, us, hq, hOq, hcq⟩ := h6 i hi
      have hul := Rep.rd_len (Rep.own_rd hOq)
      refine ⟨q, us, hq, ?_, fun k hk' => ?_⟩
      · simp only [List.getElem_set_ne hij]
        refine Rep.own_frame (fun k hkq => hk k (List.mem_cons_of_mem _ (List.mem_flatten.2 ⟨q, List.mem_of_getElem? hq, hkq⟩)) (hdis i q (Ne.symm hij) hq k hkq) ?_) hOq
        rintro rfl
        exact hgn (List.mem_flatten.2 ⟨q, List.mem_of_getElem? hq, hkq⟩)
      · rw [putArr_out]
        · exact hcq k hk'
        · have hks : k < sz α := by omega
          rcases Nat.lt_or_gt_of_ne hij with hlt | hlt
          · right
            have : (j + 1) * sz α ≤ i * sz α := Nat.mul_le_mul_right _ hlt
            rw [Nat.add_mul] at this
            omega
          · left
            have := idx_lt (s := sz α) hlt hks
            omega

end Go.Proofs.YtamkfnkikiekaaaGreat

/-
  PLAIN: one number of an owned slice is written anew; a list that is turned number by number.
-/
namespace Go.Proofs.YtamkfnkikiekaaaGreat
open Go.RowKit
open Rep (Rd Own sz)
set_option linter.unusedSimpArgs false
set_option linter.unusedVariables false

/-- A number that is read. -/
theorem rd_int_at {w : World} {a : Option Addr} {n c : Nat} {l : List Int} (h : Rd w [.slice a n c] l) (i : Nat) (hi : i < l.length) :
    ∃ b o, a = some ⟨b, o, none⟩ ∧ w.cell? ⟨b, o + i, none⟩ = some (.int .i64 l[i]) ∧ I64 l[i] := by
  obtain ⟨a', c', e, h⟩ := rd_list h
  simp only [Value.slice.injEq] at e
  obtain ⟨rfl, rfl, rfl⟩ := e
  obtain ⟨b, o, rfl, hc, hI⟩ := rdSl_int h i hi
  have e : l.getD i 0 = l[i] := by simp [List.getD, hi]
  rw [e] at hc hI
  exact ⟨b, o, rfl, hc, hI⟩
theorem rd_two_at {α : Type} [Rep α] (hα : sz α = 2) {w : World} {a : Option Addr} {n c : Nat} {l : List α} (h : Rd w [.slice a n c] l) (i : Nat) (hi : i < l.length) :
    ∃ b o v0 v1, a = some ⟨b, o, none⟩ ∧ w.cell? ⟨b, o + i * 2, none⟩ = some v0 ∧ w.cell? ⟨b, o + i * 2 + 1, none⟩ = some v1 ∧ Rd w [v0, v1] l[i] := by
  obtain ⟨a', c', e, h⟩ := rd_list h
  simp only [Value.slice.injEq] at e
  obtain ⟨rfl, rfl, rfl⟩ := e
  exact rdSl_two hα h i hi
/-- All numbers of a list lie in [0, p). -/
def Res (p : Int) (l : List Int) : Prop := ∀ a, a ∈ l → 0 ≤ a ∧ a < p
theorem Res.get {p : Int} {l : List Int} (h : Res p l) (i : Nat) (hi : i < l.length) : 0 ≤ l[i] ∧ l[i] < p := h _ (List.getElem_mem hi)
theorem Res.i64 {p : Int} {l : List Int} (h : Res p l) (hp : p ≤ 1000) (i : Nat) (hi : i < l.length) : I64 l[i] := ⟨by have := h.get i hi; omega, by have := h.get i hi; omega⟩

end Go.Proofs.YtamkfnkikiekaaaGreat

/-
  PLAIN: numbers are appended, many at once.
-/
namespace Go.Proofs.YtamkfnkikiekaaaGreat
open Go.RowKit
open Rep (Rd Own sz)
set_option linter.unusedSimpArgs false
set_option linter.unusedVariables false

def ivals (l : List Int) : List Value := l.map (Value.int .i64)
theorem flat_nil (n : Nat) : List.flatten (List.replicate n ([] : List Nat)) = [] := by induction n with
  | zero => rfl
  | succ n ih => simp [List.replicate_succ, ih]
theorem acc_ints_mk {B H : Nat} {e : TypeId} {w : World} {v : Value} {l : List Int} (h : w.ownsRow B e 1 v l.length (ivals l)) (hb : ∀ g, v.ownBlock = some g → B ≤ g ∧ g < H) (hi : ∀ a, a ∈ l → I64 a) : Acc B H e w v l := by
  refine ⟨ivals l, List.replicate l.length [], h, by simp, ?_, ?_, fun i hil => ⟨[], [.int .i64 l[i]], by simp [hil], ⟨rfl, rfl, hi _ (List.getElem_mem hil)⟩, fun k hk => ?_⟩⟩
  · rw [flat_nil, List.append_nil]; cases v.ownBlock <;> simp
  · rw [flat_nil, List.append_nil]; intro k hk; exact hb k (by simpa using hk)
  · obtain rfl : k = 0 := by simpa using hk
    show (ivals l)[i * 1 + 0]? = _
    simp [ivals, hil]
theorem acc_ints_get {B H : Nat} {e : TypeId} {w : World} {v : Value} {l : List Int} (h : Acc B H e w v l) : w.ownsRow B e 1 v l.length (ivals l) ∧ (∀ g, v.ownBlock = some g → B ≤ g ∧ g < H) ∧ ∀ a, a ∈ l → I64 a := by
  obtain ⟨xs, pss, h1, h2, h3, h4, h5⟩ := h
  have hx : xs = ivals l := by
    apply List.ext_getElem?
    intro i
    by_cases hi : i < l.length
    · obtain ⟨p, vs, _, hO, hc⟩ := h5 i hi
      obtain ⟨_, rfl, _⟩ := hO
      have := hc 0 (by simp)
      rw [show i * sz Int + 0 = i from Nat.mul_one i] at this
      rw [this]; simp [ivals, hi]
    · have e1 : xs.length = l.length * 1 := h1.1
      rw [List.getElem?_eq_none (by omega), List.getElem?_eq_none (by simp [ivals]; omega)]
  subst hx
  refine ⟨h1, fun g hg => h4 g (by simp [hg]), fun a ha => ?_⟩
  obtain ⟨i, hi, rfl⟩ := List.getElem_of_mem ha
  obtain ⟨p, vs, _, hO, _⟩ := h5 i hi
  exact hO.2.2
theorem run_append_ints {P : Program} (w : World) (t ty e : TypeId) {z : Value} {bytes : Nat} (E : ElemT P t e Int z bytes) {B H : Nat} {v : Value} {l ns : List Int} (hacc : Acc B H e w v l) (hBH : B ≤ H) (hH : H ≤ w.heap.size)
    (ad : Addr) (c : Nat) (hnews : ∀ j u, (ivals ns)[j]? = some u → w.cell? (ad.add j) = some u) (hI : ∀ a, a ∈ ns → I64 a) (hlen : l.length + ns.length ≤ 1073741824) :
    ∃ v' w', (Builtin.append_ #[t, t] ty #[v, .slice (some ad) ns.length c]).run P w = .ok v' w' ∧ Acc B w'.heap.size e w' v' (l ++ ns) ∧ Below B w w' ∧ (∀ k, H ≤ k → k < w.heap.size → w'.heap[k]? = w.heap[k]?) := by
  obtain ⟨i, hi, hz, hs, hb⟩ := E.info
  obtain ⟨h1, h4, hIl⟩ := acc_ints_get hacc
  have hbytes : (l.length + ns.length) * bytes ≤ 140737488355328 := by
    have h1 := E.small
    calc (l.length + ns.length) * bytes ≤ 1073741824 * 1000 := Nat.mul_le_mul hlen h1
      _ ≤ _ := by decide
  have hm : l.length + ns.length ≤ maxLen := by unfold maxLen; omega
  obtain ⟨v', w', hr, ho, hg, _, hat⟩ := run_append_own_at (P := P) w B t ty e i z (sz Int) bytes E.und hi hz hs hb E.zs E.pos v l.length (ivals l) h1 ad ns.length c (ivals ns) (by simp [ivals]) hnews (by intro u hu; simp [ivals] at hu; obtain ⟨a, _, rfl⟩ := hu; rfl) hm hbytes (by omega)
  refine ⟨v', w', hr, acc_ints_mk (by simpa [ivals] using ho) (fun g hgv => ?_) (fun a ha => ?_), grownBy_below hg (by omega) (fun k hk => (h4 k hk).1), fun k hk hkw => hg.block k hkw (fun e => by have := (h4 k e.symm).2; omega)⟩
  · exact ho.lt g hgv
  · rcases List.mem_append.1 ha with ha | ha
    · exact hIl a ha
    · exact hI a ha

theorem wp_append_ints {P : Program} (w : World) {o : Oper} {a : Act} {K : Act → World → Prop} {Q : Exit → Act → World → Prop} (s x : Operand) (t : TypeId)
    (ho : o.op = .call { callee := .builtin .append, args := #[s, x], argTypes := #[t, t] }) {e : TypeId} {z : Value} {bytes : Nat} (E : ElemT P t e Int z bytes) {B H : Nat} {v : Value} {l ns : List Int}
    (hs : a.eval s = v) (hacc : Acc B H e w v l) (hBH : B ≤ H) (hH : H ≤ w.heap.size) (ad : Addr) (c : Nat) (hx : a.eval x = .slice (some ad) ns.length c) (hnews : ∀ j u, (ivals ns)[j]? = some u → w.cell? (ad.add j) = some u) (hI : ∀ a, a ∈ ns → I64 a) (hlen : l.length + ns.length ≤ 1073741824)
    (h : ∀ a' c' w', Acc B w'.heap.size e w' (.slice a' (l.length + ns.length) c') (l ++ ns) → Below B w w' → (∀ k, H ≤ k → k < w.heap.size → w'.heap[k]? = w.heap[k]?) → K (a.put o.dst (.slice a' (l.length + ns.length) c')) w') : o.wp P a w K Q := by
  obtain ⟨v', w', hr, h2, h3, h4⟩ := run_append_ints (P := P) w t o.type e E hacc hBH hH ad c hnews hI hlen
  obtain ⟨a', c', rfl, _⟩ := h2.len
  simp only [List.length_append] at h2 hr
  unfold Oper.wp execOp
  simp only [ho, resolve, invoke, builtin, Sem.run_bind, Sem.run_pure, Result.andThen_ok, List.map_toArray, List.map_cons, List.map_nil, hs, hx, hr]
  exact h a' c' w' h2 h3 h4
theorem wpList_append_ints {P : Program} (w : World) {ops : Array Oper} {rest : List Oper} {o : Oper} {a : Act} {Q : Exit → Act → World → Prop} (hgd : o.guard = none) (s x : Operand) (t : TypeId)
    (ho : o.op = .call { callee := .builtin .append, args := #[s, x], argTypes := #[t, t] }) {e : TypeId} {z : Value} {bytes : Nat} (E : ElemT P t e Int z bytes) {B H : Nat} {v : Value} {l ns : List Int}
    (hs : a.eval s = v) (hacc : Acc B H e w v l) (hBH : B ≤ H) (hH : H ≤ w.heap.size) (ad : Addr) (c : Nat) (hx : a.eval x = .slice (some ad) ns.length c) (hnews : ∀ j u, (ivals ns)[j]? = some u → w.cell? (ad.add j) = some u) (hI : ∀ a, a ∈ ns → I64 a) (hlen : l.length + ns.length ≤ 1073741824)
    (h : ∀ a' c' w', Acc B w'.heap.size e w' (.slice a' (l.length + ns.length) c') (l ++ ns) → Below B w w' → (∀ k, H ≤ k → k < w.heap.size → w'.heap[k]? = w.heap[k]?) → wpList P ops Q rest (a.put o.dst (.slice a' (l.length + ns.length) c')) w') : wpList P ops Q (o :: rest) a w :=
  wpList_plain hgd fun _ hK => wp_append_ints w s x t ho E hs hacc hBH hH ad c hx hnews hI hlen fun a' c' w' h2 h3 h4 => hK _ _ (h a' c' w' h2 h3 h4)

end Go.Proofs.YtamkfnkikiekaaaGreat

/-
  PLAIN: a region that draws its order, in which several hard operations may come up at once: the plan is a tree.
-/
namespace Go.Proofs.YtamkfnkikiekaaaGreat
open Go.RowKit
set_option linter.unusedSimpArgs false
set_option linter.unusedVariables false

/-- A plan: float: taken as soon as it may come up; hard: alone may come up; fork: these and no others may come up. -/
inductive Plan where
  | nil
  | float (i : Nat) (r : Plan)
  | hard (i : Nat) (r : Plan)
  | last (i : Nat) (r : Plan)
  | fork2 (i : Nat) (ri : Plan) (j : Nat) (rj : Plan)
  | fork3 (i : Nat) (ri : Plan) (j : Nat) (rj : Plan) (k : Nat) (rk : Plan)
def Plan.len : Plan → Nat
  | .nil => 0
  | .float _ r => r.len + 1
  | .hard _ r => r.len + 1
  | .last _ r => r.len + 1
  | .fork2 _ r _ _ => r.len + 1
  | .fork3 _ r _ _ _ _ => r.len + 1
/-- No float, no hard one, no fork any more: S is not asked. -/
def Plan.free : Plan → Bool
  | .nil => true
  | .last _ r => r.free
  | _ => false

section
variable {P : Program} {ops : Array Oper} {Q : Exit → Act → World → Prop} {S : World → Prop}
variable {i : Nat} {dst : Option Tmp} {op : Op} {ty : TypeId} {pos : String} {after : Array Edge} {guard : Option (Nat × Bool)} {rest : Plan} {a : Act} {w : World}
end
end Go.Proofs.YtamkfnkikiekaaaGreat

/-
  PLAIN: a region that draws its order, in which several hard operations may come up at once: the plan is a tree.
-/
namespace Go.Proofs.YtamkfnkikiekaaaGreat
open Go.RowKit
set_option linter.unusedSimpArgs false
set_option linter.unusedVariables false

/-- A plan: float: taken as soon as it may come up; hard: alone may come up; fork: these and no others may come up. -/
inductive Plan4 where
  | nil
  | float (i : Nat) (r : Plan4)
  | hard (i : Nat) (r : Plan4)
  | last (i : Nat) (r : Plan4)
  | fork2 (i : Nat) (ri : Plan4) (j : Nat) (rj : Plan4)
  | fork3 (i : Nat) (ri : Plan4) (j : Nat) (rj : Plan4) (k : Nat) (rk : Plan4)
  | fork4 (i : Nat) (ri : Plan4) (j : Nat) (rj : Plan4) (k : Nat) (rk : Plan4) (m : Nat) (rm : Plan4)
def Plan4.len : Plan4 → Nat
  | .nil => 0
  | .float _ r => r.len + 1
  | .hard _ r => r.len + 1
  | .last _ r => r.len + 1
  | .fork2 _ r _ _ => r.len + 1
  | .fork3 _ r _ _ _ _ => r.len + 1
  | .fork4 _ r _ _ _ _ _ _ => r.len + 1
/-- No float, no hard one, no fork any more: S is not asked. -/
def Plan4.free : Plan4 → Bool
  | .nil => true
  | .last _ r => r.free
  | _ => false

section
variable {P : Program} {ops : Array Oper} {Q : Exit → Act → World → Prop} {S : World → Prop}
def wpTree4 (P : Program) (ops : Array Oper) (Q : Exit → Act → World → Prop) (S : World → Prop) : Plan4 → Act → World → Prop
  | .nil, a, w => Q .normal a w
  | .float i r, a, w => ∃ o v, ops[i]? = some o ∧ YieldsIf P ops S o v a ∧ wpTree4 P ops Q S r (a.put o.dst v) w
  | .hard i r, a, w => wpOp P ops Q i (fun a' w' => S w' ∧ wpTree4 P ops Q S r a' w') a w
  | .last i r, a, w => wpOp P ops Q i (wpTree4 P ops Q S r) a w
  | .fork2 i ri j rj, a, w => wpOp P ops Q i (fun a' w' => S w' ∧ wpTree4 P ops Q S ri a' w') a w ∧ wpOp P ops Q j (fun a' w' => S w' ∧ wpTree4 P ops Q S rj a' w') a w
  | .fork3 i ri j rj k rk, a, w => wpOp P ops Q i (fun a' w' => S w' ∧ wpTree4 P ops Q S ri a' w') a w ∧ wpOp P ops Q j (fun a' w' => S w' ∧ wpTree4 P ops Q S rj a' w') a w ∧ wpOp P ops Q k (fun a' w' => S w' ∧ wpTree4 P ops Q S rk a' w') a w
  | .fork4 i ri j rj k rk m rm, a, w => wpOp P ops Q i (fun a' w' => S w' ∧ wpTree4 P ops Q S ri a' w') a w ∧ wpOp P ops Q j (fun a' w' => S w' ∧ wpTree4 P ops Q S rj a' w') a w ∧ wpOp P ops Q k (fun a' w' => S w' ∧ wpTree4 P ops Q S rk a' w') a w ∧ wpOp P ops Q m (fun a' w' => S w' ∧ wpTree4 P ops Q S rm a' w') a w

def treeB4 (ops : Array Oper) : Array Bool → Plan4 → Bool
  | listed, .nil => (Region.ready .any ops listed).isEmpty
  | listed, .float i r => (Region.ready .any ops listed).contains i && Region.free .any ops listed i && treeB4 ops (listed.setIfInBounds i true) r
  | listed, .hard i r => (Region.ready .any ops listed) == [i] && treeB4 ops (listed.setIfInBounds i true) r
  | listed, .last i r => (Region.ready .any ops listed) == [i] && sinkB ops i && r.free && treeB4 ops (listed.setIfInBounds i true) r
  | listed, .fork2 i ri j rj => (Region.ready .any ops listed) == [i, j] && ri.len == rj.len && treeB4 ops (listed.setIfInBounds i true) ri && treeB4 ops (listed.setIfInBounds j true) rj
  | listed, .fork3 i ri j rj k rk => (Region.ready .any ops listed) == [i, j, k] && ri.len == rj.len && ri.len == rk.len && treeB4 ops (listed.setIfInBounds i true) ri && treeB4 ops (listed.setIfInBounds j true) rj && treeB4 ops (listed.setIfInBounds k true) rk
  | listed, .fork4 i ri j rj k rk m rm => (Region.ready .any ops listed) == [i, j, k, m] && ri.len == rj.len && ri.len == rk.len && ri.len == rm.len && treeB4 ops (listed.setIfInBounds i true) ri && treeB4 ops (listed.setIfInBounds j true) rj && treeB4 ops (listed.setIfInBounds k true) rk && treeB4 ops (listed.setIfInBounds m true) rm

theorem wpAnyK_of_tree4 (hsel : Region.noSelect ops = true) (hQ : ∀ c a d v w, Q (.panic c) (a.put d v) w → Q (.panic c) a w) :
    ∀ (π : Plan4) (listed : Array Bool) (a : Act) (w : World), Shut ops listed → treeB4 ops listed π = true → (π.free = false → S w) →
      wpTree4 P ops Q S π a w → wpAnyK P ops Q S π.len listed a w
  | .nil, listed, a, w, hcl, hp, _, h => ⟨by simpa [treeB4] using hp, h⟩
  | .float i r, listed, a, w, hcl, hp, hS, h => by
    simp only [treeB4, Bool.and_eq_true] at hp
    obtain ⟨o, v, ho, hy, hr⟩ := h
    have hSw : S w := hS rfl
    refine wpAnyK_first ho (Region.noSelect_spec hsel) (fun c a w h => hQ c a _ _ w h) _ listed a w hcl (Region.free_spec ho hp.1.2) (by simpa using hp.1.1) hy hSw ?_
    exact wpAnyK_of_tree4 hsel hQ r _ _ _ (shut_set hcl (by simpa using hp.1.1)) hp.2 (fun _ => hSw) hr
  | .hard i r, listed, a, w, hcl, hp, hS, h => by
    simp only [treeB4, Bool.and_eq_true, beq_iff_eq] at hp
    refine ⟨fun h0 => (by rw [hp.1] at h0; cases h0), fun j hj => ?_⟩
    have hj0 := hj
    rw [hp.1] at hj
    obtain rfl : j = i := by simpa using hj
    exact wpOp_mono (fun a' w' h' => ⟨fun _ => h'.1, wpAnyK_of_tree4 hsel hQ r _ _ _ (shut_set hcl hj0) hp.2 (fun _ => h'.1) h'.2⟩) h
  | .last i r, listed, a, w, hcl, hp, hS, h => by
    simp only [treeB4, Bool.and_eq_true, beq_iff_eq] at hp
    refine ⟨fun h0 => (by rw [hp.1.1.1] at h0; cases h0), fun j hj => ?_⟩
    have hj0 := hj
    rw [hp.1.1.1] at hj
    obtain rfl : j = i := by simpa using hj
    exact wpOp_mono (fun a' w' h' => ⟨fun hs => (by rw [hp.1.1.2] at hs; cases hs), wpAnyK_of_tree4 hsel hQ r _ _ _ (shut_set hcl hj0) hp.2 (fun hall => by rw [hp.1.2] at hall; cases hall) h'⟩) h
  | .fork2 i ri j rj, listed, a, w, hcl, hp, hS, h => by
    simp only [treeB4, Bool.and_eq_true, beq_iff_eq] at hp
    obtain ⟨⟨⟨h1, h2⟩, h3⟩, h4⟩ := hp
    obtain ⟨k1, k2⟩ := h
    refine ⟨fun h0 => (by rw [h1] at h0; cases h0), fun z hz => ?_⟩
    have hz0 := hz
    rw [h1] at hz
    simp only [List.mem_cons, List.not_mem_nil, or_false] at hz
    rcases hz with rfl | rfl
    · exact wpOp_mono (fun a' w' h' => ⟨fun _ => h'.1, wpAnyK_of_tree4 hsel hQ ri _ _ _ (shut_set hcl hz0) h3 (fun _ => h'.1) h'.2⟩) k1
    · exact wpOp_mono (fun a' w' h' => ⟨fun _ => h'.1, by show wpAnyK P ops Q S ri.len _ _ _; rw [h2]; exact wpAnyK_of_tree4 hsel hQ rj _ _ _ (shut_set hcl hz0) h4 (fun _ => h'.1) h'.2⟩) k2
  | .fork3 i ri j rj k rk, listed, a, w, hcl, hp, hS, h => by
    simp only [treeB4, Bool.and_eq_true, beq_iff_eq] at hp
    obtain ⟨⟨⟨⟨⟨h1, h2⟩, h2'⟩, h3⟩, h4⟩, h5⟩ := hp
    obtain ⟨k1, k2, k3⟩ := h
    refine ⟨fun h0 => (by rw [h1] at h0; cases h0), fun z hz => ?_⟩
    have hz0 := hz
    rw [h1] at hz
    simp only [List.mem_cons, List.not_mem_nil, or_false] at hz
    rcases hz with rfl | rfl | rfl
    · exact wpOp_mono (fun a' w' h' => ⟨fun _ => h'.1, wpAnyK_of_tree4 hsel hQ ri _ _ _ (shut_set hcl hz0) h3 (fun _ => h'.1) h'.2⟩) k1
    · exact wpOp_mono (fun a' w' h' => ⟨fun _ => h'.1, by show wpAnyK P ops Q S ri.len _ _ _; rw [h2]; exact wpAnyK_of_tree4 hsel hQ rj _ _ _ (shut_set hcl hz0) h4 (fun _ => h'.1) h'.2⟩) k2
    · exact wpOp_mono (fun a' w' h' => ⟨fun _ => h'.1, by show wpAnyK P ops Q S ri.len _ _ _; rw [h2']; exact wpAnyK_of_tree4 hsel hQ rk _ _ _ (shut_set hcl hz0) h5 (fun _ => h'.1) h'.2⟩) k3

  | .fork4 i ri j rj k rk m rm, listed, a, w, hcl, hp, hS, h => by
    simp only [treeB4, Bool.and_eq_true, beq_iff_eq] at hp
    obtain ⟨⟨⟨⟨⟨⟨⟨h1, h2⟩, h2'⟩, h2''⟩, h3⟩, h4⟩, h5⟩, h6⟩ := hp
    obtain ⟨k1, k2, k3, k4⟩ := h
    refine ⟨fun h0 => (by rw [h1] at h0; cases h0), fun z hz => ?_⟩
    have hz0 := hz
    rw [h1] at hz
    simp only [List.mem_cons, List.not_mem_nil, or_false] at hz
    rcases hz with rfl | rfl | rfl | rfl
    · exact wpOp_mono (fun a' w' h' => ⟨fun _ => h'.1, wpAnyK_of_tree4 hsel hQ ri _ _ _ (shut_set hcl hz0) h3 (fun _ => h'.1) h'.2⟩) k1
    · exact wpOp_mono (fun a' w' h' => ⟨fun _ => h'.1, by show wpAnyK P ops Q S ri.len _ _ _; rw [h2]; exact wpAnyK_of_tree4 hsel hQ rj _ _ _ (shut_set hcl hz0) h4 (fun _ => h'.1) h'.2⟩) k2
    · exact wpOp_mono (fun a' w' h' => ⟨fun _ => h'.1, by show wpAnyK P ops Q S ri.len _ _ _; rw [h2']; exact wpAnyK_of_tree4 hsel hQ rk _ _ _ (shut_set hcl hz0) h5 (fun _ => h'.1) h'.2⟩) k3
    · exact wpOp_mono (fun a' w' h' => ⟨fun _ => h'.1, by show wpAnyK P ops Q S ri.len _ _ _; rw [h2'']; exact wpAnyK_of_tree4 hsel hQ rm _ _ _ (shut_set hcl hz0) h6 (fun _ => h'.1) h'.2⟩) k4

/-- THE BEGINNING. -/
theorem wp_region_tree4 {id : Nat} {a : Act} {w : World} (S : World → Prop) (π : Plan4) (hm : P.follows .mixedOrders = true) (hsel : Region.noSelect ops = true)
    (hp : treeB4 ops (Array.replicate ops.size false) π = true) (hl : π.len = ops.size) (hS : S w.drew)
    (hQ : ∀ c a d v w, Q (.panic c) (a.put d v) w → Q (.panic c) a w) (h : wpTree4 P ops Q S π a w.drew) : (Code.region id ops true).wp P Q a w := by
  refine wp_region_any hm (wpAny_of_K _ _ _ _ (?_ : wpAnyK P ops Q S ops.size (Array.replicate ops.size false) a w.drew))
  have := wpAnyK_of_tree4 hsel hQ π _ a w.drew shut_start hp (fun _ => hS) h
  rw [hl] at this
  exact this
theorem t4_nil {a : Act} {w : World} (h : Q .normal a w) : wpTree4 P ops Q S .nil a w := h
variable {i : Nat} {dst : Option Tmp} {op : Op} {ty : TypeId} {pos : String} {after : Array Edge} {guard : Option (Nat × Bool)} {rest : Plan4} {a : Act} {w : World}
theorem t4_float {v : Value} (ho : ops[i]? = some ⟨dst, op, ty, pos, after, guard⟩) (hw : Region.wanted ⟨dst, op, ty, pos, after, guard⟩ (yielded ops a.tmps) = true)
    (hy : ∀ w', S w' → (execOp a.eval ⟨dst, op, ty, pos, after, guard⟩).run P w' = .ok (.value v) w') (h : wpTree4 P ops Q S rest (a.put dst v) w) : wpTree4 P ops Q S (.float i rest) a w :=
  ⟨_, v, ho, .inl ⟨hw, hy⟩, h⟩
theorem t4_skip (ho : ops[i]? = some ⟨dst, op, ty, pos, after, guard⟩) (hw : Region.wanted ⟨dst, op, ty, pos, after, guard⟩ (yielded ops a.tmps) = false)
    (h : wpTree4 P ops Q S rest (a.put dst undef) w) : wpTree4 P ops Q S (.float i rest) a w :=
  ⟨_, undef, ho, .inr ⟨hw, rfl⟩, h⟩
theorem t4_hard (ho : ops[i]? = some ⟨dst, op, ty, pos, after, guard⟩) (hw : Region.wanted ⟨dst, op, ty, pos, after, guard⟩ (yielded ops a.tmps) = true)
    (h : ∀ K : Act → World → Prop, (∀ a w, S w ∧ wpTree4 P ops Q S rest a w → K a w) → Oper.wp P ⟨dst, op, ty, pos, after, guard⟩ a w K Q) : wpTree4 P ops Q S (.hard i rest) a w := by
  show wpOp P ops Q i _ a w
  unfold wpOp
  simp only [ho]
  rw [if_pos hw]
  exact .inl (h _ (fun _ _ h => h))
theorem t4_last (ho : ops[i]? = some ⟨dst, op, ty, pos, after, guard⟩) (hw : Region.wanted ⟨dst, op, ty, pos, after, guard⟩ (yielded ops a.tmps) = true)
    (h : ∀ K : Act → World → Prop, (∀ a w, wpTree4 P ops Q S rest a w → K a w) → Oper.wp P ⟨dst, op, ty, pos, after, guard⟩ a w K Q) : wpTree4 P ops Q S (.last i rest) a w := by
  show wpOp P ops Q i _ a w
  unfold wpOp
  simp only [ho]
  rw [if_pos hw]
  exact .inl (h _ (fun _ _ h => h))
theorem t4_hskip (ho : ops[i]? = some ⟨dst, op, ty, pos, after, guard⟩) (hw : Region.wanted ⟨dst, op, ty, pos, after, guard⟩ (yielded ops a.tmps) = false)
    (hS : S w) (h : wpTree4 P ops Q S rest (a.put dst undef) w) : wpTree4 P ops Q S (.hard i rest) a w := by
  show wpOp P ops Q i _ a w
  unfold wpOp
  simp only [ho]
  rw [if_neg (by rw [hw]; decide)]
  exact ⟨hS, h⟩
theorem t4_fork2 {ri rj : Plan4} {j : Nat} (h1 : wpTree4 P ops Q S (.hard i ri) a w) (h2 : wpTree4 P ops Q S (.hard j rj) a w) : wpTree4 P ops Q S (.fork2 i ri j rj) a w := ⟨h1, h2⟩
end
end Go.Proofs.YtamkfnkikiekaaaGreat

/-
  PLAIN: as XRegion, and with operations behind which other things hold ('barriers': every other operation comes before it or behind it).
-/
namespace Go.Proofs.YtamkfnkikiekaaaGreat
open Go.RowKit
set_option linter.unusedSimpArgs false
set_option linter.unusedVariables false

section
variable {P : Program} {ops : Array Oper} {Q : Exit → Act → World → Prop} {S : World → Prop}
variable {i : Nat} {dst : Option Tmp} {op : Op} {ty : TypeId} {pos : String} {after : Array Edge} {guard : Option (Nat × Bool)} {rest : List (Nat × Nat)} {a : Act} {w : World}
end
end Go.Proofs.YtamkfnkikiekaaaGreat

