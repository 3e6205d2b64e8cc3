/-
  PLAIN LIBRARY of this seat: what a Go value of ints, slices and structs reads as ('Rd'), and which blocks it owns ('Own'). No program is named here.
-/
import Derived.WalkKit
import Derived.WalkSpells
import Derived.WalkLawsBesides
import Derived.Lib.Hide
namespace Go.Proofs.Ytkbeihkjhmillaa
open Go.RowKit
set_option linter.unusedSimpArgs false
set_option linter.unusedVariables false

/-- n is an int64. Not reducible: the numerals stay out of the walk. -/
def I64 (n : Int) : Prop := -9223372036854775808 ≤ n ∧ n ≤ 9223372036854775807
theorem I64.lo {n : Int} (h : I64 n) : -9223372036854775808 ≤ n := h.1
theorem I64.hi {n : Int} (h : I64 n) : n ≤ 9223372036854775807 := h.2

/-- How a Lean value stands in a Go program's values and memory. -/
class Rep (α : Type) where
  sz : Nat
  Rd : World → List Value → α → Prop
  Own : List Nat → World → List Value → α → Prop
  rd_len : ∀ {w vs x}, Rd w vs x → vs.length = sz
  rd_mono : ∀ {w w' vs x}, Below w.heap.size w w' → Rd w vs x → Rd w' vs x
  own_rd : ∀ {ps w vs x}, Own ps w vs x → Rd w vs x
  own_frame : ∀ {ps w w' vs x}, (∀ k, k ∈ ps → w'.heap[k]? = w.heap[k]?) → Own ps w vs x → Own ps w' vs x
  own_lt : ∀ {ps w vs x}, Own ps w vs x → ∀ k, k ∈ ps → k < w.heap.size
  rd_one : ∀ {w vs x}, Rd w vs x → ∀ u, u ∈ vs → u.oneCell' = true
open Rep (Rd Own sz)

theorem Rd.mono {α : Type} [Rep α] {w w' : World} {vs : List Value} {x : α} (h : Rd w vs x) (hb : Below w.heap.size w w') : Rd w' vs x := Rep.rd_mono hb h
theorem Own.rd {α : Type} [Rep α] {ps : List Nat} {w : World} {vs : List Value} {x : α} (h : Own ps w vs x) : Rd w vs x := Rep.own_rd h
theorem Own.mono {α : Type} [Rep α] {ps : List Nat} {w w' : World} {vs : List Value} {x : α} (h : Own ps w vs x) (hb : Below w.heap.size w w') : Own ps w' vs x :=
  Rep.own_frame (fun k hk => hb.block k (Rep.own_lt h k hk)) h

instance : Rep Int where
  sz := 1
  Rd _ vs n := vs = [.int .i64 n] ∧ I64 n
  Own ps _ vs n := ps = [] ∧ vs = [.int .i64 n] ∧ I64 n
  rd_len h := by rw [h.1]; rfl
  rd_mono _ h := h
  own_rd h := h.2
  own_frame _ h := h
  own_lt h k hk := by rw [h.1] at hk; cases hk
  rd_one h u hu := by rw [h.1] at hu; simp only [List.mem_singleton] at hu; subst hu; rfl

instance : Rep Bool where
  sz := 1
  Rd _ vs n := vs = [.bool n]
  Own ps _ vs n := ps = [] ∧ vs = [.bool n]
  rd_len h := by rw [h]; rfl
  rd_mono _ h := h
  own_rd h := h.2
  own_frame _ h := h
  own_lt h k hk := by rw [h.1] at hk; cases hk
  rd_one h u hu := by rw [h] at hu; simp only [List.mem_singleton] at hu; subst hu; rfl

instance {α β : Type} [Rep α] [Rep β] : Rep (α × β) where
  sz := sz α + sz β
  Rd w vs x := ∃ v1 v2, vs = v1 ++ v2 ∧ Rd w v1 x.1 ∧ Rd w v2 x.2
  Own ps w vs x := ∃ p1 p2 v1 v2, ps = p1 ++ p2 ∧ vs = v1 ++ v2 ∧ Own p1 w v1 x.1 ∧ Own p2 w v2 x.2
  rd_len := by rintro _ _ _ ⟨v1, v2, rfl, h1, h2⟩; simp [Rep.rd_len h1, Rep.rd_len h2]
  rd_mono := by rintro _ _ _ _ hb ⟨v1, v2, rfl, h1, h2⟩; exact ⟨v1, v2, rfl, Rep.rd_mono hb h1, Rep.rd_mono hb h2⟩
  own_rd := by rintro _ _ _ _ ⟨p1, p2, v1, v2, _, rfl, h1, h2⟩; exact ⟨v1, v2, rfl, Rep.own_rd h1, Rep.own_rd h2⟩
  own_frame := by
    rintro _ _ _ _ _ hk ⟨p1, p2, v1, v2, rfl, rfl, h1, h2⟩
    exact ⟨p1, p2, v1, v2, rfl, rfl, Rep.own_frame (fun k h => hk k (List.mem_append.2 (.inl h))) h1, Rep.own_frame (fun k h => hk k (List.mem_append.2 (.inr h))) h2⟩
  own_lt := by
    rintro _ _ _ _ ⟨p1, p2, v1, v2, rfl, rfl, h1, h2⟩ k hk
    rcases List.mem_append.1 hk with h | h
    · exact Rep.own_lt h1 k h
    · exact Rep.own_lt h2 k h
  rd_one := by
    rintro _ _ _ ⟨v1, v2, rfl, h1, h2⟩ u hu
    rcases List.mem_append.1 hu with h | h
    · exact Rep.rd_one h1 u h
    · exact Rep.rd_one h2 u h

/-- The cells from ⟨b, o⟩ on hold vs. -/
def CellsAt (w : World) (b o : Nat) (vs : List Value) : Prop := ∀ k, k < vs.length → w.cell? ⟨b, o + k, none⟩ = vs[k]?

theorem CellsAt.lt {w : World} {b o : Nat} {vs : List Value} (h : CellsAt w b o vs) (hv : 0 < vs.length) : b < w.heap.size := by
  have := h 0 hv
  rw [List.getElem?_eq_getElem hv] at this
  exact World.block_lt_of_cell? w _ this
theorem CellsAt.mono {w w' : World} {b o : Nat} {vs : List Value} (h : CellsAt w b o vs) (hb : Below w.heap.size w w') : CellsAt w' b o vs := by
  intro k hk
  have hl := h.lt (by omega)
  rw [hb.cell (p := ⟨b, o + k, none⟩) hl]
  exact h k hk

/-- Slice (a, l.length, c) reads as l. -/
def RdSl {α : Type} [Rep α] (w : World) (a : Option Addr) (c : Nat) (l : List α) : Prop :=
  l.length ≤ c ∧ c ≤ maxLen ∧ ∀ i (h : i < l.length), ∃ b o vs, a = some ⟨b, o, none⟩ ∧ Rd w vs l[i] ∧ CellsAt w b (o + i * sz α) vs

def OwnSl {α : Type} [Rep α] (ps : List Nat) (w : World) (v : Value) (l : List α) : Prop :=
  (l = [] ∧ ps = [] ∧ ∃ a c, v = .slice a 0 c ∧ c ≤ maxLen) ∨
  ∃ g o c cur e pss, v = .slice (some ⟨g, o, none⟩) l.length c ∧ l.length ≤ c ∧ c ≤ maxLen ∧ w.heap[g]? = some (.cells cur e (0, 0)) ∧ ps = g :: List.flatten pss ∧ pss.length = l.length ∧
    ∀ i (h : i < l.length), ∃ p vs, pss[i]? = some p ∧ Own p w vs l[i] ∧ ∀ k, k < vs.length → cur[o + i * sz α + k]? = vs[k]?

theorem rdSl_mono {α : Type} [Rep α] {w w' : World} {a : Option Addr} {c : Nat} {l : List α} (hb : Below w.heap.size w w') (h : RdSl w a c l) : RdSl w' a c l := by
  refine ⟨h.1, h.2.1, fun i hi => ?_⟩
  obtain ⟨b, o, vs, ha, hr, hc⟩ := h.2.2 i hi
  exact ⟨b, o, vs, ha, Rep.rd_mono hb hr, hc.mono hb⟩

instance {α : Type} [Rep α] : Rep (List α) where
  sz := 1
  Rd w vs l := ∃ a c, vs = [.slice a l.length c] ∧ RdSl w a c l
  Own ps w vs l := ∃ v, vs = [v] ∧ OwnSl ps w v l
  rd_len := by rintro _ _ _ ⟨a, c, rfl, _⟩; rfl
  rd_mono := by rintro _ _ _ _ hb ⟨a, c, rfl, h⟩; exact ⟨a, c, rfl, rdSl_mono hb h⟩
  own_rd := by
    rintro ps w vs l ⟨v, rfl, h⟩
    rcases h with ⟨rfl, rfl, a, c, rfl, hc⟩ | ⟨g, o, c, cur, e, pss, rfl, h1, h2, h3, rfl, h5, h6⟩
    · exact ⟨a, c, rfl, Nat.zero_le _, hc, fun i hi => absurd hi (Nat.not_lt_zero _)⟩
    · refine ⟨_, c, rfl, h1, h2, fun i hi => ?_⟩
      obtain ⟨p, vs, _, hO, hc⟩ := h6 i hi
      refine ⟨g, o, vs, rfl, Rep.own_rd hO, fun k hk => ?_⟩
      rw [← hc k hk]
      simp [World.cell?, h3]
  own_frame := by
    rintro ps w w' vs l hk ⟨v, rfl, h⟩
    refine ⟨v, rfl, ?_⟩
    rcases h with ⟨rfl, rfl, a, c, rfl, hc⟩ | ⟨g, o, c, cur, e, pss, rfl, h1, h2, h3, rfl, h5, h6⟩
    · exact .inl ⟨rfl, rfl, a, c, rfl, hc⟩
    · refine .inr ⟨g, o, c, cur, e, pss, rfl, h1, h2, ?_, rfl, h5, fun i hi => ?_⟩
      · rw [hk g (List.mem_cons_self ..)]; exact h3
      · obtain ⟨p, vs, hp, hO, hc⟩ := h6 i hi
        refine ⟨p, vs, hp, Rep.own_frame (fun k hkp => hk k (List.mem_cons_of_mem _ ?_)) hO, hc⟩
        exact List.mem_flatten.2 ⟨p, List.mem_of_getElem? hp, hkp⟩
  own_lt := by
    rintro ps w vs l ⟨v, rfl, h⟩ k hk
    rcases h with ⟨rfl, rfl, a, c, rfl, hc⟩ | ⟨g, o, c, cur, e, pss, rfl, h1, h2, h3, rfl, h5, h6⟩
    · cases hk
    · rcases List.mem_cons.1 hk with rfl | hk
      · exact (Array.getElem?_eq_some_iff.1 h3).1
      · obtain ⟨p, hp, hkp⟩ := List.mem_flatten.1 hk
        obtain ⟨i, hi, rfl⟩ := List.mem_iff_getElem.1 hp
        obtain ⟨p', vs, hp', hO, _⟩ := h6 i (by omega)
        rw [List.getElem?_eq_getElem hi] at hp'
        cases hp'
        exact Rep.own_lt hO k hkp
  rd_one := by
    rintro w vs l ⟨a, c, rfl, _⟩ u hu
    simp only [List.mem_singleton] at hu
    subst hu
    rfl

@[simp] theorem sz_int : sz Int = 1 := rfl
@[simp] theorem sz_bool : sz Bool = 1 := rfl
@[simp] theorem sz_list {α : Type} [Rep α] : sz (List α) = 1 := rfl
@[simp] theorem sz_prod {α β : Type} [Rep α] [Rep β] : sz (α × β) = sz α + sz β := rfl

/-- What the call made: owned, in blocks from lo on, no block twice. -/
def Fresh {α : Type} [Rep α] (lo : Nat) (w : World) (vs : List Value) (x : α) : Prop := ∃ ps, Own ps w vs x ∧ ps.Nodup ∧ ∀ k, k ∈ ps → lo ≤ k

theorem Fresh.rd {α : Type} [Rep α] {lo : Nat} {w : World} {vs : List Value} {x : α} (h : Fresh lo w vs x) : Rd w vs x := by
  obtain ⟨ps, h, _⟩ := h; exact Rep.own_rd h
theorem Fresh.mono {α : Type} [Rep α] {lo : Nat} {w w' : World} {vs : List Value} {x : α} (h : Fresh lo w vs x) (hb : Below w.heap.size w w') : Fresh lo w' vs x := by
  obtain ⟨ps, h, h2⟩ := h; exact ⟨ps, Own.mono h hb, h2⟩
theorem Fresh.lower {α : Type} [Rep α] {lo lo' : Nat} {w : World} {vs : List Value} {x : α} (h : Fresh lo w vs x) (hl : lo' ≤ lo) : Fresh lo' w vs x := by
  obtain ⟨ps, h, h2, h3⟩ := h; exact ⟨ps, h, h2, fun k hk => Nat.le_trans hl (h3 k hk)⟩

/-! ### Reading, as the walk wants it -/

theorem rd_int {w : World} {vs : List Value} {n : Int} (h : Rd w vs n) : vs = [.int .i64 n] ∧ I64 n := h
theorem rd_bool {w : World} {vs : List Value} {n : Bool} (h : Rd w vs n) : vs = [.bool n] := h
theorem rd_list {α : Type} [Rep α] {w : World} {v : Value} {l : List α} (h : Rd w [v] l) : ∃ a c, v = .slice a l.length c ∧ RdSl w a c l := by
  obtain ⟨a, c, hv, h⟩ := h
  exact ⟨a, c, by simpa using hv, h⟩
theorem mk_rd {α : Type} [Rep α] {w : World} {a : Option Addr} {c : Nat} {l : List α} (h : RdSl w a c l) : Rd w [.slice a l.length c] l := ⟨a, c, rfl, h⟩
/-- A struct of two fields of one cell each. -/
theorem rd_pair {α β : Type} [Rep α] [Rep β] {w : World} {v0 v1 : Value} {x : α × β} (hα : sz α = 1) (h : Rd w [v0, v1] x) : Rd w [v0] x.1 ∧ Rd w [v1] x.2 := by
  obtain ⟨a, b, e, h1, h2⟩ := h
  have := Rep.rd_len h1
  rw [hα] at this
  match a, this with
  | [a0], _ => simp only [List.cons_append, List.nil_append, List.cons.injEq] at e; obtain ⟨rfl, rfl⟩ := e; exact ⟨h1, h2⟩
theorem rd_cons {α β : Type} [Rep α] [Rep β] {w : World} {v0 : Value} {vs : List Value} {x : α × β} (hα : sz α = 1) (h : Rd w (v0 :: vs) x) : Rd w [v0] x.1 ∧ Rd w vs x.2 := by
  obtain ⟨a, b, e, h1, h2⟩ := h
  have := Rep.rd_len h1
  rw [hα] at this
  match a, this with
  | [a0], _ => simp only [List.cons_append, List.nil_append, List.cons.injEq] at e; obtain ⟨rfl, rfl⟩ := e; exact ⟨h1, h2⟩
theorem mk_cons {α β : Type} [Rep α] [Rep β] {w : World} {v0 : Value} {vs : List Value} {x : α} {y : β} (h1 : Rd w [v0] x) (h2 : Rd w vs y) : Rd w (v0 :: vs) (x, y) := ⟨[v0], vs, rfl, h1, h2⟩
theorem mk_rdint {w : World} {n : Int} (h : I64 n) : Rd w [.int .i64 n] n := ⟨rfl, h⟩

theorem rdSl_len {α : Type} [Rep α] {w : World} {a : Option Addr} {c : Nat} {l : List α} (h : RdSl w a c l) : l.length ≤ c ∧ l.length ≤ maxLen := ⟨h.1, Nat.le_trans h.1 h.2.1⟩
/-- An int of a slice. -/
theorem rdSl_int {w : World} {a : Option Addr} {c : Nat} {l : List Int} (h : RdSl w a c l) (i : Nat) (hi : i < l.length) :
    ∃ b o, a = some ⟨b, o, none⟩ ∧ w.cell? ⟨b, o + i, none⟩ = some (.int .i64 (l.getD i 0)) ∧ I64 (l.getD i 0) := by
  obtain ⟨b, o, vs, ha, hr, hc⟩ := h.2.2 i hi
  obtain ⟨rfl, hI⟩ := rd_int hr
  refine ⟨b, o, ha, ?_, ?_⟩
  · have := hc 0 (by simp)
    simpa [List.getD, hi] using this
  · simpa [List.getD, hi] using hI
theorem rdSl_bool {w : World} {a : Option Addr} {c : Nat} {l : List Bool} (h : RdSl w a c l) (i : Nat) (hi : i < l.length) :
    ∃ b o, a = some ⟨b, o, none⟩ ∧ w.cell? ⟨b, o + i, none⟩ = some (.bool (l.getD i false)) := by
  obtain ⟨b, o, vs, ha, hr, hc⟩ := h.2.2 i hi
  obtain rfl := rd_bool hr
  exact ⟨b, o, ha, by have := hc 0 (by simp); simpa [List.getD, hi] using this⟩
/-- An element of one cell. -/
theorem rdSl_one {α : Type} [Rep α] (hα : sz α = 1) {w : World} {a : Option Addr} {c : Nat} {l : List α} (h : RdSl w a c l) (i : Nat) (hi : i < l.length) :
    ∃ b o v, a = some ⟨b, o, none⟩ ∧ w.cell? ⟨b, o + i, none⟩ = some v ∧ Rd w [v] l[i] := by
  obtain ⟨b, o, vs, ha, hr, hc⟩ := h.2.2 i hi
  have hl := Rep.rd_len hr
  rw [hα] at hl hc
  match vs, hl with
  | [v], _ => exact ⟨b, o, v, ha, by have := hc 0 (by simp); simpa using this, hr⟩
/-- An element of two cells. -/
theorem rdSl_two {α : Type} [Rep α] (hα : sz α = 2) {w : World} {a : Option Addr} {c : Nat} {l : List α} (h : RdSl w a c l) (i : Nat) (hi : i < l.length) :
    ∃ b o v0 v1, a = some ⟨b, o, none⟩ ∧ w.cell? ⟨b, o + i * 2, none⟩ = some v0 ∧ w.cell? ⟨b, o + i * 2 + 1, none⟩ = some v1 ∧ Rd w [v0, v1] l[i] := by
  obtain ⟨b, o, vs, ha, hr, hc⟩ := h.2.2 i hi
  have hl := Rep.rd_len hr
  rw [hα] at hl hc
  match vs, hl with
  | [v0, v1], _ => exact ⟨b, o, v0, v1, ha, by have := hc 0 (by simp); simpa using this, by have := hc 1 (by simp); simpa using this, hr⟩
/-- An element of three cells. -/
theorem rdSl_three {α : Type} [Rep α] (hα : sz α = 3) {w : World} {a : Option Addr} {c : Nat} {l : List α} (h : RdSl w a c l) (i : Nat) (hi : i < l.length) :
    ∃ b o v0 v1 v2, a = some ⟨b, o, none⟩ ∧ w.cell? ⟨b, o + i * 3, none⟩ = some v0 ∧ w.cell? ⟨b, o + i * 3 + 1, none⟩ = some v1 ∧ w.cell? ⟨b, o + i * 3 + 2, none⟩ = some v2 ∧ Rd w [v0, v1, v2] l[i] := by
  obtain ⟨b, o, vs, ha, hr, hc⟩ := h.2.2 i hi
  have hl := Rep.rd_len hr
  rw [hα] at hl hc
  match vs, hl with
  | [v0, v1, v2], _ =>
    exact ⟨b, o, v0, v1, v2, ha, by have := hc 0 (by simp); simpa using this, by have := hc 1 (by simp); simpa using this, by have := hc 2 (by simp); simpa using this, hr⟩

theorem cellL {w w' : World} {a : Addr} {v : Value} (hb : Below w.heap.size w w') (h : w.cell? a = some v) : w'.cell? a = some v := (hb.cell (World.block_lt_of_cell? w a h)).trans h
theorem freeL {w w' : World} {a : Addr} {v : Value} {c : Bool} (hb : Below w.heap.size w w') (h : w.cell? a = some v) (hf : w.frozen? a = c) : w'.frozen? a = c := (hb.frozen (World.block_lt_of_cell? w a h)).trans hf
theorem belowA (w : World) (o : Obj) : Below w.heap.size w (w.alloc o) := (Below.refl _ _).alloc (Nat.le_refl _) _
theorem belowD (w : World) : Below w.heap.size w w.drew := (Below.refl _ _).drew
/-- A cell that may be written. -/
def KC (w : World) (a : Addr) (v : Value) : Prop := w.cell? a = some v ∧ w.frozen? a = false
theorem KC.mono {w w' : World} {a : Addr} {v : Value} (h : KC w a v) (hb : Below w.heap.size w w') : KC w' a v := ⟨cellL hb h.1, freeL hb h.1 h.2⟩
theorem KC.below {B : Nat} {w w' : World} {a : Addr} {v : Value} (h : KC w a v) (hb : Below B w w') (ha : a.block < B) : KC w' a v := ⟨(hb.cell ha).trans h.1, (hb.frozen ha).trans h.2⟩
theorem ret_int {a b : Int} (h : a = b) : Ending.returned (.int .i64 a) = .returned (.int .i64 b) := by rw [h]
theorem ret_bool {a b : Bool} (h : a = b) : Ending.returned (.bool a) = .returned (.bool b) := by rw [h]

end Go.Proofs.Ytkbeihkjhmillaa
