import Derived.WalkKit
import Derived.WalkSpells
import Derived.WalkLawsBesides
import Derived.Lib.Hide
import Derived.Maps.AppendAt
import Derived.RegionTactic
import Derived.Deep.AppendLies
import Derived.Test.YtoblfnoaepbhfaaGreatRows
import Derived.Deep.QuietTactic
import Derived.BigQuiet
import Derived.OrdersHeld
set_option linter.unusedSimpArgs false
set_option linter.unusedVariables false
set_option maxHeartbeats 400000
namespace Go.Proofs.YtoblfnoaepbhfaaGreat
open Go.Proofs.Tryz
theorem sI {α : Type _} (l : List α) (i : Nat) (a : α) : l.toArray.setIfInBounds i a = (l.set i a).toArray := List.setIfInBounds_toArray l i a
theorem sZ {α : Type _} (a : α) (l : List α) (b : α) : (a :: l).set 0 b = b :: l := rfl
theorem sS {α : Type _} (a : α) (l : List α) (n : Nat) (b : α) : (a :: l).set (n + 1) b = a :: l.set n b := rfl
open Go.RowKit
def I64 (n : Int) : Prop := -9223372036854775808 ≤ n ∧ n ≤ 9223372036854775807
theorem I64.lo {n : Int} (h : I64 n) : -9223372036854775808 ≤ n := h.1
theorem I64.hi {n : Int} (h : I64 n) : n ≤ 9223372036854775807 := h.2
class Rep (α : Type) where
 sz : Nat
 Rd : World → List Value → α → Prop
 Own : List Nat → World → List Value → α → Prop
 dI : ∀ {w vs x}, Rd w vs x → vs.length = sz
 vJ : ∀ {w w' vs x}, Below w.heap.size w w' → Rd w vs x → Rd w' vs x
 bP : ∀ {ps w vs x}, Own ps w vs x → Rd w vs x
 dY : ∀ {ps w w' vs x}, (∀ k, k ∈ ps → w'.heap[k]? = w.heap[k]?) → Own ps w vs x → Own ps w' vs x
 jK : ∀ {ps w vs x}, Own ps w vs x → ∀ k, k ∈ ps → k < w.heap.size
 yc : ∀ {w vs x}, Rd w vs x → ∀ u, u ∈ vs → u.oneCell' = true
open Rep (Rd Own sz)
theorem Rd.mono {α : Type} [Rep α] {w w' : World} {vs : List Value} {x : α} (h : Rd w vs x) (hb : Below w.heap.size w w') : Rd w' vs x := Rep.vJ hb h
theorem Own.rd {α : Type} [Rep α] {ps : List Nat} {w : World} {vs : List Value} {x : α} (h : Own ps w vs x) : Rd w vs x := Rep.bP h
theorem Own.mono {α : Type} [Rep α] {ps : List Nat} {w w' : World} {vs : List Value} {x : α} (h : Own ps w vs x) (hb : Below w.heap.size w w') : Own ps w' vs x :=
 Rep.dY (fun k hk => hb.block k (Rep.jK h k hk)) h
instance : Rep Int where
 sz := 1
 Rd _ vs n := vs = [.int .i64 n] ∧ I64 n
 Own ps _ vs n := ps = [] ∧ vs = [.int .i64 n] ∧ I64 n
 dI h := by rw [h.1]; rfl
 vJ _ h := h
 bP h := h.2
 dY _ h := h
 jK h k hk := by rw [h.1] at hk; cases hk
 yc h u hu := by rw [h.1] at hu; simp only [List.mem_singleton] at hu; subst hu; rfl
instance : Rep Bool where
 sz := 1
 Rd _ vs n := vs = [.bool n]
 Own ps _ vs n := ps = [] ∧ vs = [.bool n]
 dI h := by rw [h]; rfl
 vJ _ h := h
 bP h := h.2
 dY _ h := h
 jK h k hk := by rw [h.1] at hk; cases hk
 yc h u hu := by rw [h] at hu; simp only [List.mem_singleton] at hu; subst hu; rfl
instance {α β : Type} [Rep α] [Rep β] : Rep (α × β) where
 sz := sz α + sz β
 Rd w vs x := ∃ v1 v2, vs = v1 ++ v2 ∧ Rd w v1 x.1 ∧ Rd w v2 x.2
 Own ps w vs x := ∃ p1 p2 v1 v2, ps = p1 ++ p2 ∧ vs = v1 ++ v2 ∧ Own p1 w v1 x.1 ∧ Own p2 w v2 x.2
 dI := by rintro _ _ _ ⟨v1, v2, rfl, h1, h2⟩; simp [Rep.dI h1, Rep.dI h2]
 vJ := by rintro _ _ _ _ hb ⟨v1, v2, rfl, h1, h2⟩; exact ⟨v1, v2, rfl, Rep.vJ hb h1, Rep.vJ hb h2⟩
 bP := by rintro _ _ _ _ ⟨p1, p2, v1, v2, _, rfl, h1, h2⟩; exact ⟨v1, v2, rfl, Rep.bP h1, Rep.bP h2⟩
 dY := by
  rintro _ _ _ _ _ hk ⟨p1, p2, v1, v2, rfl, rfl, h1, h2⟩
  exact ⟨p1, p2, v1, v2, rfl, rfl, Rep.dY (fun k h => hk k (List.mem_append.2 (.inl h))) h1, Rep.dY (fun k h => hk k (List.mem_append.2 (.inr h))) h2⟩
 jK := by
  rintro _ _ _ _ ⟨p1, p2, v1, v2, rfl, rfl, h1, h2⟩ k hk
  rcases List.mem_append.1 hk with h | h
  · exact Rep.jK h1 k h
  · exact Rep.jK h2 k h
 yc := by
  rintro _ _ _ ⟨v1, v2, rfl, h1, h2⟩ u hu
  rcases List.mem_append.1 hu with h | h
  · exact Rep.yc h1 u h
  · exact Rep.yc h2 u h
def Ai (w : World) (b o : Nat) (vs : List Value) : Prop := ∀ k, k < vs.length → w.cell? ⟨b, o + k, none⟩ = vs[k]?
theorem Ai.lt {w : World} {b o : Nat} {vs : List Value} (h : Ai w b o vs) (hv : 0 < vs.length) : b < w.heap.size := by
 have := h 0 hv
 rw [List.getElem?_eq_getElem hv] at this
 exact World.block_lt_of_cell? w _ this
theorem Ai.mono {w w' : World} {b o : Nat} {vs : List Value} (h : Ai w b o vs) (hb : Below w.heap.size w w') : Ai w' b o vs := by
 intro k hk
 have hl := h.lt (by omega)
 rw [hb.cell (p := ⟨b, o + k, none⟩) hl]
 exact h k hk
def Bz {α : Type} [Rep α] (w : World) (a : Option Addr) (c : Nat) (l : List α) : Prop :=
 l.length ≤ c ∧ c ≤ maxLen ∧ ∀ i (h : i < l.length), ∃ b o vs, a = some ⟨b, o, none⟩ ∧ Rd w vs l[i] ∧ Ai w b (o + i * sz α) vs
def bY {α : Type} [Rep α] (ps : List Nat) (w : World) (v : Value) (l : List α) : Prop :=
 (l = [] ∧ ps = [] ∧ ∃ a c, v = .slice a 0 c ∧ c ≤ maxLen) ∨
 ∃ g o c cur e cZ, v = .slice (some ⟨g, o, none⟩) l.length c ∧ l.length ≤ c ∧ c ≤ maxLen ∧ w.heap[g]? = some (.cells cur e (0, 0)) ∧ ps = g :: List.flatten cZ ∧ cZ.length = l.length ∧
  ∀ i (h : i < l.length), ∃ p vs, cZ[i]? = some p ∧ Own p w vs l[i] ∧ ∀ k, k < vs.length → cur[o + i * sz α + k]? = vs[k]?
theorem aS {α : Type} [Rep α] {w w' : World} {a : Option Addr} {c : Nat} {l : List α} (hb : Below w.heap.size w w') (h : Bz w a c l) : Bz w' a c l := by
 refine ⟨h.1, h.2.1, fun i hi => ?_⟩
 obtain ⟨b, o, vs, ha, hr, hc⟩ := h.2.2 i hi
 exact ⟨b, o, vs, ha, Rep.vJ hb hr, hc.mono hb⟩
instance {α : Type} [Rep α] : Rep (List α) where
 sz := 1
 Rd w vs l := ∃ a c, vs = [.slice a l.length c] ∧ Bz w a c l
 Own ps w vs l := ∃ v, vs = [v] ∧ bY ps w v l
 dI := by rintro _ _ _ ⟨a, c, rfl, _⟩; rfl
 vJ := by rintro _ _ _ _ hb ⟨a, c, rfl, h⟩; exact ⟨a, c, rfl, aS hb h⟩
 bP := by
  rintro ps w vs l ⟨v, rfl, h⟩
  rcases h with ⟨rfl, rfl, a, c, rfl, hc⟩ | ⟨g, o, c, cur, e, cZ, rfl, h1, h2, h3, rfl, h5, h6⟩
  · exact ⟨a, c, rfl, Nat.zero_le _, hc, fun i hi => absurd hi (Nat.not_lt_zero _)⟩
  · refine ⟨_, c, rfl, h1, h2, fun i hi => ?_⟩
    obtain ⟨p, vs, _, hO, hc⟩ := h6 i hi
    refine ⟨g, o, vs, rfl, Rep.bP hO, fun k hk => ?_⟩
    rw [← hc k hk]
    simp [World.cell?, h3]
 dY := by
  rintro ps w w' vs l hk ⟨v, rfl, h⟩
  refine ⟨v, rfl, ?_⟩
  rcases h with ⟨rfl, rfl, a, c, rfl, hc⟩ | ⟨g, o, c, cur, e, cZ, rfl, h1, h2, h3, rfl, h5, h6⟩
  · exact .inl ⟨rfl, rfl, a, c, rfl, hc⟩
  · refine .inr ⟨g, o, c, cur, e, cZ, rfl, h1, h2, ?_, rfl, h5, fun i hi => ?_⟩
    · rw [hk g (List.mem_cons_self ..)]; exact h3
    · obtain ⟨p, vs, hp, hO, hc⟩ := h6 i hi
      refine ⟨p, vs, hp, Rep.dY (fun k hkp => hk k (List.mem_cons_of_mem _ ?_)) hO, hc⟩
      exact List.mem_flatten.2 ⟨p, List.mem_of_getElem? hp, hkp⟩
 jK := by
  rintro ps w vs l ⟨v, rfl, h⟩ k hk
  rcases h with ⟨rfl, rfl, a, c, rfl, hc⟩ | ⟨g, o, c, cur, e, cZ, rfl, h1, h2, h3, rfl, h5, h6⟩
  · cases hk
  · rcases List.mem_cons.1 hk with rfl | hk
    · exact (Array.getElem?_eq_some_iff.1 h3).1
    · obtain ⟨p, hp, hkp⟩ := List.mem_flatten.1 hk
      obtain ⟨i, hi, rfl⟩ := List.mem_iff_getElem.1 hp
      obtain ⟨p', vs, hp', hO, _⟩ := h6 i (by omega)
      rw [List.getElem?_eq_getElem hi] at hp'
      cases hp'
      exact Rep.jK hO k hkp
 yc := by
  rintro w vs l ⟨a, c, rfl, _⟩ u hu
  simp only [List.mem_singleton] at hu
  subst hu
  rfl
@[simp] theorem apm : sz Int = 1 := rfl
@[simp] theorem an5 : sz Bool = 1 := rfl
@[simp] theorem an6 {α : Type} [Rep α] : sz (List α) = 1 := rfl
@[simp] theorem an7 {α β : Type} [Rep α] [Rep β] : sz (α × β) = sz α + sz β := rfl
def aQ {α : Type} [Rep α] (lo : Nat) (w : World) (vs : List Value) (x : α) : Prop := ∃ ps, Own ps w vs x ∧ ps.Nodup ∧ ∀ k, k ∈ ps → lo ≤ k
theorem aQ.rd {α : Type} [Rep α] {lo : Nat} {w : World} {vs : List Value} {x : α} (h : aQ lo w vs x) : Rd w vs x := by
 obtain ⟨ps, h, _⟩ := h; exact Rep.bP h
theorem aQ.mono {α : Type} [Rep α] {lo : Nat} {w w' : World} {vs : List Value} {x : α} (h : aQ lo w vs x) (hb : Below w.heap.size w w') : aQ lo w' vs x := by
 obtain ⟨ps, h, h2⟩ := h; exact ⟨ps, Own.mono h hb, h2⟩
theorem aQ.lower {α : Type} [Rep α] {lo lo' : Nat} {w : World} {vs : List Value} {x : α} (h : aQ lo w vs x) (hl : lo' ≤ lo) : aQ lo' w vs x := by
 obtain ⟨ps, h, h2, h3⟩ := h; exact ⟨ps, h, h2, fun k hk => Nat.le_trans hl (h3 k hk)⟩
theorem agG {w : World} {vs : List Value} {n : Int} (h : Rd w vs n) : vs = [.int .i64 n] ∧ I64 n := h
theorem ah {α : Type} [Rep α] {w : World} {v : Value} {l : List α} (h : Rd w [v] l) : ∃ a c, v = .slice a l.length c ∧ Bz w a c l := by
 obtain ⟨a, c, hv, h⟩ := h
 exact ⟨a, c, by simpa using hv, h⟩
theorem Wq {α : Type} [Rep α] {w : World} {a : Option Addr} {c : Nat} {l : List α} (h : Bz w a c l) : Rd w [.slice a l.length c] l := ⟨a, c, rfl, h⟩
theorem au {α β : Type} [Rep α] [Rep β] {w : World} {v0 : Value} {vs : List Value} {x : α × β} (hα : sz α = 1) (h : Rd w (v0 :: vs) x) : Rd w [v0] x.1 ∧ Rd w vs x.2 := by
 obtain ⟨a, b, e, h1, h2⟩ := h
 have := Rep.dI h1
 rw [hα] at this
 match a, this with
 | [a0], _ => simp only [List.cons_append, List.nil_append, List.cons.injEq] at e; obtain ⟨rfl, rfl⟩ := e; exact ⟨h1, h2⟩
theorem ru {α β : Type} [Rep α] [Rep β] {w : World} {v0 : Value} {vs : List Value} {x : α} {y : β} (h1 : Rd w [v0] x) (h2 : Rd w vs y) : Rd w (v0 :: vs) (x, y) := ⟨[v0], vs, rfl, h1, h2⟩
theorem aN {α : Type} [Rep α] {w : World} {a : Option Addr} {c : Nat} {l : List α} (h : Bz w a c l) : l.length ≤ c ∧ l.length ≤ maxLen := ⟨h.1, Nat.le_trans h.1 h.2.1⟩
theorem eF {w : World} {a : Option Addr} {c : Nat} {l : List Int} (h : Bz w a c l) (i : Nat) (hi : i < l.length) :
 ∃ b o, a = some ⟨b, o, none⟩ ∧ w.cell? ⟨b, o + i, none⟩ = some (.int .i64 (l.getD i 0)) ∧ I64 (l.getD i 0) := by
 obtain ⟨b, o, vs, ha, hr, hc⟩ := h.2.2 i hi
 obtain ⟨rfl, hI⟩ := agG hr
 refine ⟨b, o, ha, ?_, ?_⟩
 · have := hc 0 (by simp)
   simpa [List.getD, hi] using this
 simpa [List.getD, hi] using hI
theorem bF {α : Type} [Rep α] (hα : sz α = 1) {w : World} {a : Option Addr} {c : Nat} {l : List α} (h : Bz w a c l) (i : Nat) (hi : i < l.length) :
 ∃ b o v, a = some ⟨b, o, none⟩ ∧ w.cell? ⟨b, o + i, none⟩ = some v ∧ Rd w [v] l[i] := by
 obtain ⟨b, o, vs, ha, hr, hc⟩ := h.2.2 i hi
 have hl := Rep.dI hr
 rw [hα] at hl hc
 match vs, hl with
 | [v], _ => exact ⟨b, o, v, ha, by have := hc 0 (by simp); simpa using this, hr⟩
theorem dP {α : Type} [Rep α] (hα : sz α = 2) {w : World} {a : Option Addr} {c : Nat} {l : List α} (h : Bz w a c l) (i : Nat) (hi : i < l.length) :
 ∃ b o v0 v1, a = some ⟨b, o, none⟩ ∧ w.cell? ⟨b, o + i * 2, none⟩ = some v0 ∧ w.cell? ⟨b, o + i * 2 + 1, none⟩ = some v1 ∧ Rd w [v0, v1] l[i] := by
 obtain ⟨b, o, vs, ha, hr, hc⟩ := h.2.2 i hi
 have hl := Rep.dI hr
 rw [hα] at hl hc
 match vs, hl with
 | [v0, v1], _ => exact ⟨b, o, v0, v1, ha, by have := hc 0 (by simp); simpa using this, by have := hc 1 (by simp); simpa using this, hr⟩
theorem gU {α : Type} [Rep α] (hα : sz α = 3) {w : World} {a : Option Addr} {c : Nat} {l : List α} (h : Bz w a c l) (i : Nat) (hi : i < l.length) :
 ∃ b o v0 v1 v2, a = some ⟨b, o, none⟩ ∧ w.cell? ⟨b, o + i * 3, none⟩ = some v0 ∧ w.cell? ⟨b, o + i * 3 + 1, none⟩ = some v1 ∧ w.cell? ⟨b, o + i * 3 + 2, none⟩ = some v2 ∧ Rd w [v0, v1, v2] l[i] := by
 obtain ⟨b, o, vs, ha, hr, hc⟩ := h.2.2 i hi
 have hl := Rep.dI hr
 rw [hα] at hl hc
 match vs, hl with
 | [v0, v1, v2], _ =>
  exact ⟨b, o, v0, v1, v2, ha, by have := hc 0 (by simp); simpa using this, by have := hc 1 (by simp); simpa using this, by have := hc 2 (by simp); simpa using this, hr⟩
theorem cellL {w w' : World} {a : Addr} {v : Value} (hb : Below w.heap.size w w') (h : w.cell? a = some v) : w'.cell? a = some v := (hb.cell (World.block_lt_of_cell? w a h)).trans h
theorem akZ {w w' : World} {a : Addr} {v : Value} {c : Bool} (hb : Below w.heap.size w w') (h : w.cell? a = some v) (hf : w.frozen? a = c) : w'.frozen? a = c := (hb.frozen (World.block_lt_of_cell? w a h)).trans hf
theorem aB (w : World) (o : Obj) : Below w.heap.size w (w.alloc o) := (Below.refl _ _).alloc (Nat.le_refl _) _
theorem belowD (w : World) : Below w.heap.size w w.drew := (Below.refl _ _).drew
def KC (w : World) (a : Addr) (v : Value) : Prop := w.cell? a = some v ∧ w.frozen? a = false
theorem KC.mono {w w' : World} {a : Addr} {v : Value} (h : KC w a v) (hb : Below w.heap.size w w') : KC w' a v := ⟨cellL hb h.1, akZ hb h.1 h.2⟩
theorem KC.below {B : Nat} {w w' : World} {a : Addr} {v : Value} (h : KC w a v) (hb : Below B w w') (ha : a.block < B) : KC w' a v := ⟨(hb.cell ha).trans h.1, (hb.frozen ha).trans h.2⟩
theorem aU {a b : Int} (h : a = b) : Ending.returned (.int .i64 a) = .returned (.int .i64 b) := by rw [h]
theorem ak {a b : Bool} (h : a = b) : Ending.returned (.bool a) = .returned (.bool b) := by rw [h]
structure aP (ps : List Nat) (w w' : World) : Prop where
 os : w'.os = w.os
 tape : w'.tape = w.tape
 output : w'.output = w.output
 size : w'.heap.size = w.heap.size
 block : ∀ k, k ∉ ps → w'.heap[k]? = w.heap[k]?
theorem aP.refl (ps : List Nat) (w : World) : aP ps w w := ⟨rfl, rfl, rfl, rfl, fun _ _ => rfl⟩
theorem aP.trans {ps : List Nat} {a b c : World} (h : aP ps a b) (k : aP ps b c) : aP ps a c :=
 ⟨k.os.trans h.os, k.tape.trans h.tape, k.output.trans h.output, k.size.trans h.size, fun i hi => (k.block i hi).trans (h.block i hi)⟩
theorem aP.mono {ps qs : List Nat} {a b : World} (h : aP ps a b) (hs : ∀ k, k ∈ ps → k ∈ qs) : aP qs a b :=
 ⟨h.os, h.tape, h.output, h.size, fun i hi => h.block i (fun hk => hi (hs i hk))⟩
theorem aP.drewN {ps : List Nat} {a b : World} (h : aP ps a b) (n : Nat) : aP ps a (b.drewN n) := ⟨h.os, h.tape, h.output, h.size, h.block⟩
theorem aP.below {ps : List Nat} {B : Nat} {a b : World} (h : aP ps a b) (hp : ∀ k, k ∈ ps → B ≤ k) : Below B a b :=
 ⟨h.os, h.tape, h.output, by rw [h.size]; exact Nat.le_refl _, fun k hk => h.block k (fun hm => by have := hp k hm; omega)⟩
theorem aP.setCell {ps : List Nat} {a b : World} (h : aP ps a b) {p : Addr} (hp : p.block ∈ ps) (u : Value) : aP ps a (b.setCell p u) := by
 refine h.trans ⟨rfl, rfl, rfl, by simp [World.setCell], fun k hk => ?_⟩
 exact Below.heap_setCell _ _ _ _ (fun e => hk (e ▸ hp))
theorem Own.only {α : Type} [Rep α] {ps qs : List Nat} {w w' : World} {vs : List Value} {x : α} (h : Own ps w vs x) (hb : aP qs w w') (hd : ∀ k, k ∈ ps → k ∉ qs) : Own ps w' vs x :=
 Rep.dY (fun k hk => hb.block k (hd k hk)) h
theorem aZ (w : World) (g o : Nat) (u : Value) (cur : Array Value) (e : TypeId) (fr : Nat × Nat) (h : w.heap[g]? = some (.cells cur e fr)) :
 (w.setCell ⟨g, o, none⟩ u).heap[g]? = some (.cells (cur.setIfInBounds o u) e fr) := by
 simp [World.setCell, Array.getElem?_modify, h]
theorem aA {w : World} {g o : Nat} {cur : Array Value} {e : TypeId} {fr : Nat × Nat} (h : w.heap[g]? = some (.cells cur e fr)) : w.cell? ⟨g, o, none⟩ = cur[o]? := by simp [World.cell?, h]
theorem aO {w : World} {g o : Nat} {cur : Array Value} {e : TypeId} (h : w.heap[g]? = some (.cells cur e (0, 0))) : w.frozen? ⟨g, o, none⟩ = false := by simp [World.frozen?, h]
theorem iV (w : World) (o : Obj) {n : Nat} (h : w.heap.size = n) : (w.alloc o).heap[n]? = some o := by subst h; exact heap_alloc_new w o
theorem lF {ps : List Nat} {w : World} {v : Value} {l : List Int} (h : bY ps w v l) (i : Nat) (hi : i < l.length) :
 ∃ g o c, v = .slice (some ⟨g, o, none⟩) l.length c ∧ ps = [g] ∧ w.cell? ⟨g, o + i, none⟩ = some (.int .i64 (l.getD i 0)) ∧ w.frozen? ⟨g, o + i, none⟩ = false ∧
  ∀ x, I64 x → bY ps (w.setCell ⟨g, o + i, none⟩ (.int .i64 x)) v (l.set i x) := by
 rcases h with ⟨rfl, rfl, _⟩ | ⟨g, o, c, cur, e, cZ, rfl, h1, h2, h3, rfl, h5, h6⟩
 · exact absurd hi (Nat.not_lt_zero _)
 have hps : List.flatten cZ = [] := by
  rw [List.flatten_eq_nil_iff]
  intro p hp
  obtain ⟨j, hj, rfl⟩ := List.mem_iff_getElem.1 hp
  obtain ⟨p', vs, hp', hO, _⟩ := h6 j (by omega)
  rw [List.getElem?_eq_getElem hj] at hp'
  cases hp'
  exact hO.1
 obtain ⟨p, vs, hp, hO, hc⟩ := h6 i hi
 obtain ⟨rfl, rfl, hI⟩ := hO
 have hci := hc 0 (by simp)
 simp at hci
 have hlt : o + i < cur.size := (Array.getElem?_eq_some_iff.1 hci).1
 refine ⟨g, o, c, rfl, by rw [hps], ?_, aO h3, fun x hx => ?_⟩
 · rw [aA h3, hci]; simp [List.getD, hi]
 refine .inr ⟨g, o, c, _, e, cZ, by simp, by simpa using h1, h2, aZ _ _ _ _ _ _ _ h3, rfl, by simpa using h5, fun j hj => ?_⟩
 simp only [List.length_set] at hj
 obtain ⟨p', vs', hp', Y7, hc'⟩ := h6 j hj
 obtain ⟨rfl, rfl, hI'⟩ := Y7
 by_cases hij : i = j
 · subst hij
   refine ⟨[], [.int .i64 x], hp', ?_, fun k hk => ?_⟩
   · simp only [List.getElem_set_self]; exact ⟨rfl, rfl, hx⟩
   obtain rfl : k = 0 := by simpa using hk
   simp [Array.getElem?_setIfInBounds, hlt]
 refine ⟨[], [.int .i64 l[j]], hp', ?_, fun k hk => ?_⟩
 · simp only [List.getElem_set_ne hij]; exact ⟨rfl, rfl, hI'⟩
 obtain rfl : k = 0 := by simpa using hk
 have := hc' 0 (by simp)
 simp at this
 simp [Array.getElem?_setIfInBounds, hij, this]
theorem Aj {α : Type} [Rep α] {ps : List Nat} {w : World} {v : Value} {l : List α} (h : bY ps w v l) : ∃ a c, v = .slice a l.length c ∧ l.length ≤ maxLen := by
 rcases h with ⟨rfl, rfl, a, c, rfl, hc⟩ | ⟨g, o, c, cur, e, cZ, rfl, h1, h2, h3, rfl, h5, h6⟩
 · exact ⟨a, c, rfl, Nat.zero_le _⟩
 exact ⟨_, c, rfl, Nat.le_trans h1 h2⟩
theorem P5 {α : Type} [Rep α] {ps : List Nat} {w : World} {v : Value} {l : List α} (h : bY ps w v l) : Rd w [v] l := Rep.bP (ps := ps) ⟨v, rfl, h⟩
theorem jS {α : Type} [Rep α] {ps : List Nat} {w : World} {v : Value} {l : List α} (h : Own ps w [v] l) : bY ps w v l := by
 obtain ⟨v', e, h⟩ := h
 obtain rfl : v = v' := by simpa using e
 exact h
def Acc {α : Type} [Rep α] (B H : Nat) (e : TypeId) (w : World) (v : Value) (l : List α) : Prop :=
 ∃ (xs : List Value) (cZ : List (List Nat)), w.ownsRow B e (sz α) v l.length xs ∧ cZ.length = l.length ∧ (v.ownBlock.toList ++ List.flatten cZ).Nodup ∧ (∀ k, k ∈ v.ownBlock.toList ++ List.flatten cZ → B ≤ k ∧ k < H) ∧
  ∀ i (h : i < l.length), ∃ p vs, cZ[i]? = some p ∧ Own p w vs l[i] ∧ ∀ k, k < vs.length → xs[i * sz α + k]? = vs[k]?
theorem Acc.nil {α : Type} [Rep α] (B H : Nat) (e : TypeId) (w : World) : Acc (α := α) B H e w (.slice none 0 0) [] :=
 ⟨[], [], World.ownsRow_nil w B e _, rfl, by simp [Value.ownBlock], by simp [Value.ownBlock], fun i h => absurd h (Nat.not_lt_zero _)⟩
theorem ownsRow_below {w w' : World} {B : Nat} {e : TypeId} {size : Nat} {v : Value} {n : Nat} {xs : List Value} (h : w.ownsRow B e size v n xs) (hb : Below w.heap.size w w') : w'.ownsRow B e size v n xs := by
 refine ⟨h.1, ?_⟩
 rcases h.2 with hn | ⟨g, cap, cur, rfl, hg, hgg, rest⟩
 · exact .inl hn
 exact .inr ⟨g, cap, cur, rfl, hg, by rw [hb.block g (Array.getElem?_eq_some_iff.1 hgg).1]; exact hgg, rest⟩
theorem Acc.mono {α : Type} [Rep α] {B H : Nat} {e : TypeId} {w w' : World} {v : Value} {l : List α} (h : Acc B H e w v l) (hb : Below w.heap.size w w') : Acc B H e w' v l := by
 obtain ⟨xs, cZ, h1, h2, h3, h4, h5⟩ := h
 refine ⟨xs, cZ, ownsRow_below h1 hb, h2, h3, h4, fun i hi => ?_⟩
 obtain ⟨p, vs, hp, hO, hx⟩ := h5 i hi
 exact ⟨p, vs, hp, Own.mono hO hb, hx⟩
theorem Acc.frame {α : Type} [Rep α] {B H : Nat} {e : TypeId} {w w' : World} {v : Value} {l : List α} (h : Acc B H e w v l) (hb : ∀ k, B ≤ k → k < H → w'.heap[k]? = w.heap[k]?) : Acc B H e w' v l := by
 obtain ⟨xs, cZ, h1, h2, h3, h4, h5⟩ := h
 refine ⟨xs, cZ, ?_, h2, h3, h4, fun i hi => ?_⟩
 · refine ⟨h1.1, ?_⟩
   rcases h1.2 with hn | ⟨g, cap, cur, rfl, hg, hgg, rest⟩
   · exact .inl hn
   have := h4 g (by simp [Value.ownBlock])
   exact .inr ⟨g, cap, cur, rfl, hg, by rw [hb g this.1 this.2]; exact hgg, rest⟩
 obtain ⟨p, vs, hp, hO, hx⟩ := h5 i hi
 refine ⟨p, vs, hp, Rep.dY (fun k hk => ?_) hO, hx⟩
 have := h4 k (List.mem_append.2 (.inr (List.mem_flatten.2 ⟨p, List.mem_of_getElem? hp, hk⟩)))
 exact hb k this.1 this.2
theorem Acc.setCell {α : Type} [Rep α] {B H : Nat} {e : TypeId} {w : World} {v : Value} {l : List α} (h : Acc B H e w v l) {a : Addr} (ha : a.block < B) (u : Value) : Acc B H e (w.setCell a u) v l :=
 h.frame (fun k hk _ => Below.heap_setCell _ _ _ _ (by omega))
theorem Acc.drewN {α : Type} [Rep α] {B H : Nat} {e : TypeId} {w : World} {v : Value} {l : List α} (h : Acc B H e w v l) (n : Nat) : Acc B H e (w.drewN n) v l :=
 h.frame (fun _ _ _ => rfl)
theorem Acc.up {α : Type} [Rep α] {B H H' : Nat} {e : TypeId} {w : World} {v : Value} {l : List α} (h : Acc B H e w v l) (hH : H ≤ H') : Acc B H' e w v l := by
 obtain ⟨xs, cZ, h1, h2, h3, h4, h5⟩ := h
 exact ⟨xs, cZ, h1, h2, h3, fun k hk => ⟨(h4 k hk).1, Nat.lt_of_lt_of_le (h4 k hk).2 hH⟩, h5⟩
theorem Acc.len {α : Type} [Rep α] {B H : Nat} {e : TypeId} {w : World} {v : Value} {l : List α} (h : Acc B H e w v l) : ∃ a c, v = .slice a l.length c ∧ l.length ≤ maxLen := by
 obtain ⟨xs, cZ, h1, _⟩ := h
 rcases h1.2 with ⟨rfl, h0⟩ | ⟨g, cap, cur, rfl, _, _, hc, hm, _⟩
 · exact ⟨none, 0, by rw [h0], by rw [h0]; exact Nat.zero_le _⟩
 exact ⟨_, _, rfl, Nat.le_trans hc hm⟩
theorem Acc.zB {α : Type} [Rep α] {B H : Nat} {e : TypeId} {w : World} {v : Value} {l : List α} (h : Acc B H e w v l) : ∃ ps, bY ps w v l ∧ ps.Nodup ∧ ∀ k, k ∈ ps → B ≤ k ∧ k < H := by
 obtain ⟨xs, cZ, h1, h2, h3, h4, h5⟩ := h
 rcases h1.2 with ⟨rfl, h0⟩ | ⟨g, cap, cur, rfl, hg, hh, hc, hm, hs, ht⟩
 · have : l = [] := List.eq_nil_of_length_eq_zero h0
   subst this
   exact ⟨[], .inl ⟨rfl, rfl, none, 0, rfl, Nat.zero_le _⟩, List.nodup_nil, by simp⟩
 refine ⟨g :: List.flatten cZ, .inr ⟨g, 0, cap, cur, e, cZ, rfl, hc, hm, hh, rfl, h2, fun i hi => ?_⟩, by simpa [Value.ownBlock] using h3, by simpa [Value.ownBlock] using h4⟩
 obtain ⟨p, vs, hp, hO, hx⟩ := h5 i hi
 refine ⟨p, vs, hp, hO, fun k hk => ?_⟩
 have hsz := Rep.dI (Rep.bP hO)
 rw [← hx k hk, ← ht, List.getElem?_take]
 have hlt : i * sz α + k < l.length * sz α := by
  have : (i + 1) * sz α ≤ l.length * sz α := Nat.mul_le_mul_right _ hi
  rw [Nat.add_mul] at this
  omega
 rw [if_pos hlt, Nat.zero_add]
 simp
theorem Acc.fresh {α : Type} [Rep α] {B H : Nat} {e : TypeId} {w : World} {v : Value} {l : List α} (h : Acc B H e w v l) : aQ B w [v] l := by
 obtain ⟨ps, h1, h2, h3⟩ := h.zB
 exact ⟨ps, ⟨v, rfl, h1⟩, h2, fun k hk => (h3 k hk).1⟩
theorem Acc.rd {α : Type} [Rep α] {B H : Nat} {e : TypeId} {w : World} {v : Value} {l : List α} (h : Acc B H e w v l) : Rd w [v] l := h.fresh.rd
theorem grownBy_below {w w' : World} {row : Option Nat} {B : Nat} (hg : w.grownBy w' row) (hB : B ≤ w.heap.size) (hr : ∀ k, row = some k → B ≤ k) : Below B w w' := (Below.refl B w).grown hg hB hr
theorem Acc.append {α : Type} [Rep α] {B H : Nat} {e : TypeId} {w w' : World} {v v' : Value} {l : List α} {x : α} {vs : List Value} (h : Acc B H e w v l) (hx : aQ H w vs x) (Y8 : B ≤ H) (hH : H ≤ w.heap.size)
 (hown : ∀ xs, w.ownsRow B e (sz α) v l.length xs → w'.ownsRow B e (sz α) v' (l.length + 1) (xs ++ vs)) (hgrow : w.grownBy w' v.ownBlock) (hv' : v'.ownBlock = v.ownBlock ∨ ∃ g, v'.ownBlock = some g ∧ w.heap.size ≤ g) :
 Acc B w'.heap.size e w' v' (l ++ [x]) := by
 obtain ⟨xs, cZ, h1, h2, h3, h4, h5⟩ := h
 obtain ⟨q, hq, hqn, XQ⟩ := hx
 have hl1 := h1.1
 have P6 := Rep.jK hq
 have keep : ∀ {β : Type} [Rep β] (p : List Nat) (us : List Value) (y : β), Own p w us y → (∀ k, k ∈ p → v.ownBlock ≠ some k) → Own p w' us y := by
  intro β _ p us y hO hne
  exact Rep.dY (fun k hk => hgrow.block k (Rep.jK hO k hk) (fun e => hne k hk e.symm)) hO
 have hsub : ∀ k, v.ownBlock = some k → k < H := fun k hk => (h4 k (by simp [hk])).2
 have ak0 : ∀ k, v'.ownBlock = some k → B ≤ k ∧ k < w'.heap.size := (hown xs h1).lt
 have hsz := hgrow.size
 refine ⟨xs ++ vs, cZ ++ [q], by simpa using hown xs h1, by simp [h2], ?_, ?_, fun i hi => ?_⟩
 · rw [List.nodup_append] at h3
   obtain ⟨_, n2, n3⟩ := h3
   rw [List.flatten_append, List.nodup_append]
   refine ⟨by cases v'.ownBlock <;> simp, ?_, ?_⟩
   · rw [List.nodup_append]
     refine ⟨n2, by simpa using hqn, ?_⟩
     rintro a ha b hb rfl
     have h6 := (h4 a (by simp [ha])).2
     have h7 := XQ a (by simpa using hb)
     omega
   rintro a ha b hb rfl
   have ha' : v'.ownBlock = some a := by simpa using ha
   rcases List.mem_append.1 hb with hb | hb
   · rcases hv' with e1 | ⟨g, e1, hg⟩
     · exact n3 a (by rw [← e1]; simpa using ha) a hb rfl
     rw [e1] at ha'
     cases ha'
     have := (h4 _ (List.mem_append.2 (.inr hb))).2
     omega
   have hb : a ∈ q := by simpa using hb
   rcases hv' with e1 | ⟨g, e1, hg⟩
   · have := hsub a (by rw [← e1]; exact ha')
     have := XQ a hb
     omega
   rw [e1] at ha'
   cases ha'
   have := P6 _ hb
   omega
 · intro k hk
   rcases List.mem_append.1 hk with hk | hk
   · exact ak0 k (by simpa using hk)
   rw [List.flatten_append] at hk
   rcases List.mem_append.1 hk with hk | hk
   · have := h4 k (List.mem_append.2 (.inr hk))
     exact ⟨this.1, by omega⟩
   have hk : k ∈ q := by simpa using hk
   have := XQ k hk
   have := P6 k hk
   exact ⟨by omega, by omega⟩
 by_cases hil : i < l.length
 · obtain ⟨p, us, hp, hO, hxx⟩ := h5 i hil
   refine ⟨p, us, by rw [List.getElem?_append_left (by omega)]; exact hp, ?_, fun k hk => ?_⟩
   · simp only [List.getElem_append_left hil]
     refine keep p us _ hO (fun k hk e => ?_)
     rw [List.nodup_append] at h3
     exact h3.2.2 k (by simp [e]) k (List.mem_flatten.2 ⟨p, List.mem_of_getElem? hp, hk⟩) rfl
   have hus := Rep.dI (Rep.bP hO)
   have : (i + 1) * sz α ≤ l.length * sz α := Nat.mul_le_mul_right _ hil
   rw [Nat.add_mul] at this
   rw [List.getElem?_append_left (by omega)]
   exact hxx k hk
 have hi' : i = l.length := by simp at hi; omega
 subst hi'
 refine ⟨q, vs, by rw [List.getElem?_append_right (by omega)]; simp [h2], ?_, fun k hk => ?_⟩
 · simp only [List.getElem_concat_length]
   refine keep q vs _ hq (fun k hk e => ?_)
   have := hsub k e
   have := XQ k hk
   omega
 rw [List.getElem?_append_right (by omega)]
 congr 1
 omega
structure iK (P : Program) (t e : TypeId) (α : Type) [Rep α] (z : Value) (bytes : Nat) : Prop where
 und : P.underlying t = some (.slice e)
 info : ∃ i, P.info? e = some i ∧ i.zero = some z ∧ i.size = sz α ∧ i.bytes = bytes
 zs : z.cells.size = sz α
 pos : 0 < sz α
 small : bytes ≤ 1000
theorem iK.mk' {P : Program} {t e : TypeId} {α : Type} [Rep α] {z : Value} {bytes : Nat} (h1 : P.underlying t = some (.slice e))
 (h2 : (P.info? e).map (fun i => (i.zero, i.size, i.bytes)) = some (some z, sz α, bytes)) (h3 : z.cells.size = sz α) (h4 : 0 < sz α) (h5 : bytes ≤ 1000) : iK P t e α z bytes :=
 ⟨h1, info_parts h2, h3, h4, h5⟩
theorem Ho {P : Program} (w : World) (t ty e : TypeId) {α : Type} [Rep α] {z : Value} {bytes : Nat} (E : iK P t e α z bytes) {B H : Nat} {v : Value} {l : List α} (hacc : Acc B H e w v l)
 {y : α} {vs : List Value} (hy : aQ H w vs y) (Y8 : B ≤ H) (hH : H ≤ w.heap.size) (ad : Addr) (c : Nat) (hnews : ∀ j u, vs[j]? = some u → w.cell? (ad.add j) = some u) (hlen : l.length + 1 ≤ 1073741824) :
 ∃ v' w', (Builtin.append_ #[t, t] ty #[v, .slice (some ad) 1 c]).run P w = .ok v' w' ∧ Acc B w'.heap.size e w' v' (l ++ [y]) ∧ Below B w w' ∧ (∀ k, H ≤ k → k < w.heap.size → w'.heap[k]? = w.heap[k]?) := by
 obtain ⟨i, hi, hz, hs, hb⟩ := E.info
 have hvs := Rep.dI hy.rd
 have hacc' := hacc
 obtain ⟨xs, cZ, h1, h2, h3, h4, h5⟩ := hacc'
 have hbytes : (l.length + 1) * bytes ≤ 140737488355328 := by
  have h1 := E.small
  calc (l.length + 1) * bytes ≤ 1073741824 * 1000 := Nat.mul_le_mul hlen h1
   _ ≤ _ := by decide
 have hm : l.length + 1 ≤ maxLen := by unfold maxLen; omega
 have hn1 : ∀ j u, vs[j]? = some u → u ∈ vs := fun j u h => List.mem_of_getElem? h
 obtain ⟨v', w', hr, ho, hg, _, hat⟩ := run_append_own_at (P := P) w B t ty e i z (sz α) bytes E.und hi hz hs hb E.zs E.pos v l.length xs h1 ad 1 c vs (by omega) hnews (Rep.yc hy.rd) hm hbytes (by omega)
 refine ⟨v', w', hr, ?_, grownBy_below hg (by omega) (fun k hk => (h4 k (by simp [hk])).1), fun k hk hkw => hg.block k hkw (fun e => by have := (h4 k (by simp [← e])).2; omega)⟩
 refine Acc.append hacc hy Y8 hH (fun xs' hx' => ?_) hg ?_
 · -- the cells of the row are what they are
   have : xs' = xs := by
    rcases h1.2 with ⟨rfl, h0⟩ | ⟨g, cap, cur, rfl, _, hh, _, _, _, ht⟩
    · have e1 := h1.1
      have e2 := hx'.1
      rw [h0] at e1 e2
      have z1 : xs = [] := List.eq_nil_of_length_eq_zero (by rw [e1]; simp)
      have z2 : xs' = [] := List.eq_nil_of_length_eq_zero (by rw [e2]; simp)
      rw [z1, z2]
    rcases hx'.2 with ⟨hv, _⟩ | ⟨g', cap', cur', hv, _, hh', _, _, _, ht'⟩
    · simp at hv
    simp only [Value.slice.injEq, Option.some.injEq, Addr.mk.injEq] at hv
    obtain ⟨⟨rfl, _⟩, _, _⟩ := hv
    rw [hh] at hh'
    simp only [Option.some.injEq, Obj.cells.injEq] at hh'
    obtain ⟨rfl, _⟩ := hh'
    rw [← ht, ← ht']
   rw [this]
   exact ho
 rcases hat with h | h
 · exact .inl h
 exact .inr ⟨_, h, Nat.le_refl _⟩
theorem iq {P : Program} (w : World) {o : Oper} {a : Act} {K : Act → World → Prop} {Q : Exit → Act → World → Prop} (s x : Operand) (t : TypeId)
 (ho : o.op = .call { callee := .builtin .append, args := #[s, x], argTypes := #[t, t] }) {e : TypeId} {α : Type} [Rep α] {z : Value} {bytes : Nat} (E : iK P t e α z bytes) {B H : Nat} {v : Value} {l : List α}
 (hs : a.eval s = v) (hacc : Acc B H e w v l)
 {y : α} {vs : List Value} (hy : aQ H w vs y) (Y8 : B ≤ H) (hH : H ≤ w.heap.size) (ad : Addr) (c : Nat) (hx : a.eval x = .slice (some ad) 1 c) (hnews : ∀ j u, vs[j]? = some u → w.cell? (ad.add j) = some u) (hlen : l.length + 1 ≤ 1073741824)
 (h : ∀ a' c' w', Acc B w'.heap.size e w' (.slice a' (l.length + 1) c') (l ++ [y]) → Below B w w' → (∀ k, H ≤ k → k < w.heap.size → w'.heap[k]? = w.heap[k]?) → K (a.put o.dst (.slice a' (l.length + 1) c')) w') : o.wp P a w K Q := by
 obtain ⟨v', w', hr, h2, h3, h4⟩ := Ho (P := P) w t o.type e E hacc hy Y8 hH ad c hnews hlen
 obtain ⟨a', c', rfl, _⟩ := h2.len
 simp only [List.length_append, List.length_cons, List.length_nil, Nat.zero_add] at h2 hr
 unfold Oper.wp execOp
 simp only [ho, resolve, invoke, builtin, Sem.run_bind, Sem.run_pure, Result.andThen_ok, List.map_toArray, List.map_cons, List.map_nil, hs, hx, hr]
 exact h a' c' w' h2 h3 h4
theorem CS {P : Program} (w : World) {ops : Array Oper} {rest : List Oper} {o : Oper} {a : Act} {Q : Exit → Act → World → Prop} (hgd : o.guard = none) (s x : Operand) (t : TypeId)
 (ho : o.op = .call { callee := .builtin .append, args := #[s, x], argTypes := #[t, t] }) {e : TypeId} {α : Type} [Rep α] {z : Value} {bytes : Nat} (E : iK P t e α z bytes) {B H : Nat} {v : Value} {l : List α}
 (hs : a.eval s = v) (hacc : Acc B H e w v l)
 {y : α} {vs : List Value} (hy : aQ H w vs y) (Y8 : B ≤ H) (hH : H ≤ w.heap.size) (ad : Addr) (c : Nat) (hx : a.eval x = .slice (some ad) 1 c) (hnews : ∀ j u, vs[j]? = some u → w.cell? (ad.add j) = some u) (hlen : l.length + 1 ≤ 1073741824)
 (h : ∀ a' c' w', Acc B w'.heap.size e w' (.slice a' (l.length + 1) c') (l ++ [y]) → Below B w w' → (∀ k, H ≤ k → k < w.heap.size → w'.heap[k]? = w.heap[k]?) → wpList P ops Q rest (a.put o.dst (.slice a' (l.length + 1) c')) w') : wpList P ops Q (o :: rest) a w :=
 wpList_plain hgd fun _ hK => iq w s x t ho E hs hacc hy Y8 hH ad c hx hnews hlen fun a' c' w' h2 h3 h4 => hK _ _ (h a' c' w' h2 h3 h4)
theorem CU {P : Program} (w : World) (t e : TypeId) {α : Type} [Rep α] {z : Value} {bytes : Nat} (E : iK P t e α z bytes) (x0 : α) (h0 : ∀ w : World, Own [] w z.cells.toList x0) (n : Nat) (hn : n ≤ 1073741824) :
 ∃ w', (Instr.makeSlice t (.int .i64 (n : Int)) (.int .i64 (n : Int))).run P w = .ok (.slice (some ⟨w.heap.size, 0, none⟩) n n) w' ∧
  bY [w.heap.size] w' (.slice (some ⟨w.heap.size, 0, none⟩) n n) (List.replicate n x0) ∧ Below w.heap.size w w' ∧ w'.heap.size = w.heap.size + 1 := by
 obtain ⟨i, hi, hz, hs, hb⟩ := E.info
 have hbytes : (i.bytes : Int) * (n : Int) ≤ 281474976710656 := by
  have h1 := E.small
  rw [hb]
  have : bytes * n ≤ 1000 * 1073741824 := Nat.mul_le_mul h1 hn
  have h2 : ((bytes * n : Nat) : Int) ≤ ((1000 * 1073741824 : Nat) : Int) := by exact_mod_cast this
  rw [Int.natCast_mul] at h2
  omega
 have hr := run_make (P := P) w t e i z E.und hi hz .i64 .i64 (n : Int) (n : Int) (by omega) (by omega) hbytes (by omega)
 simp only [Int.toNat_natCast] at hr
 refine ⟨_, hr, ?_, (Below.refl _ _).alloc (Nat.le_refl _) _, by simp⟩
 refine .inr ⟨w.heap.size, 0, n, _, e, List.replicate n [], by simp, by simp, by unfold maxLen; omega, heap_alloc_new w _, by simp, by simp, fun j hj => ?_⟩
 simp only [List.length_replicate] at hj
 refine ⟨[], z.cells.toList, by simp [hj], by simpa using h0 _, fun k hk => ?_⟩
 have hzs := E.zs
 simp only [Array.length_toList] at hk
 have hk' : k < sz α := by omega
 rw [hs]
 have hlt : j * sz α + k < n * sz α := by
  have : (j + 1) * sz α ≤ n * sz α := Nat.mul_le_mul_right _ hj
  rw [Nat.add_mul] at this
  omega
 have hmod : (j * sz α + k) % z.cells.size = k := by rw [hzs, Nat.add_comm, Nat.add_mul_mod_self_right]; exact Nat.mod_eq_of_lt hk'
 simp [madeCells, hlt, hmod, hk]
theorem bV {P : Program} (w : World) {ops : Array Oper} {rest : List Oper} {o : Oper} {a : Act} {Q : Exit → Act → World → Prop} (hgd : o.guard = none) (l c : Operand) (t : TypeId) (hop : o.op = Op.makeSlice t l c)
 {e : TypeId} {α : Type} [Rep α] {z : Value} {bytes : Nat} (E : iK P t e α z bytes) (x0 : α) (h0 : ∀ w : World, Own [] w z.cells.toList x0) (n : Nat) (hn : n ≤ 1073741824)
 (hl : a.eval l = .int .i64 (n : Int)) (hc : a.eval c = .int .i64 (n : Int))
 (h : ∀ w', bY [w.heap.size] w' (.slice (some ⟨w.heap.size, 0, none⟩) n n) (List.replicate n x0) → Below w.heap.size w w' → w'.heap.size = w.heap.size + 1 → wpList P ops Q rest (a.put o.dst (.slice (some ⟨w.heap.size, 0, none⟩) n n)) w') :
 wpList P ops Q (o :: rest) a w := by
 refine wpList_plain hgd fun K hK' => ?_
 obtain ⟨w', hrun, r1, r2, r3⟩ := CU (P := P) w t e E x0 h0 n hn
 unfold Oper.wp
 simp [execOp, hop, hl, hc, hrun, Result.andThen]
 exact hK' _ _ (h w' r1 r2 r3)
theorem aQ.setCell {α : Type} [Rep α] {lo : Nat} {w : World} {vs : List Value} {x : α} (h : aQ lo w vs x) {a : Addr} (ha : a.block < lo) (u : Value) : aQ lo (w.setCell a u) vs x := by
 obtain ⟨ps, h1, h2, h3⟩ := h
 exact ⟨ps, Rep.dY (fun k hk => Below.heap_setCell _ _ _ _ (by have := h3 k hk; omega)) h1, h2, h3⟩
theorem aQ.frame {α : Type} [Rep α] {lo : Nat} {w w' : World} {vs : List Value} {x : α} (h : aQ lo w vs x) (hb : ∀ k, lo ≤ k → k < w.heap.size → w'.heap[k]? = w.heap[k]?) : aQ lo w' vs x := by
 obtain ⟨ps, h1, h2, h3⟩ := h
 exact ⟨ps, Rep.dY (fun k hk => hb k (h3 k hk) (Rep.jK h1 k hk)) h1, h2, h3⟩
structure St (w : World) (B : Nat) (wr : World) (bx : List (Nat × Array Value × TypeId)) : Prop where
 bel : Below w.heap.size w wr
 lo : w.heap.size ≤ B
 hi : B ≤ wr.heap.size
 box : ∀ x, x ∈ bx → w.heap.size ≤ x.1 ∧ x.1 < B ∧ wr.heap[x.1]? = some (.cells x.2.1 x.2.2 (0, 0))
theorem St.start (w : World) : St w w.heap.size w [] := ⟨Below.refl _ _, Nat.le_refl _, Nat.le_refl _, by simp⟩
theorem St.alloc {w : World} {B : Nat} {wr : World} {bx : List (Nat × Array Value × TypeId)} (h : St w B wr bx) (cs : Array Value) (t : TypeId) {n : Nat} (hn : n = wr.heap.size) :
 St w (n + 1) (wr.alloc (.cells cs t)) (bx ++ [(n, cs, t)]) := by
 subst hn
 refine ⟨h.bel.alloc (Nat.le_trans h.lo h.hi) _, by have := h.lo; have := h.hi; omega, by simp, fun x hx => ?_⟩
 rcases List.mem_append.1 hx with hx | hx
 · have h1 := h.box x hx
   have := h.hi
   exact ⟨h1.1, by omega, by rw [Below.heap_alloc _ _ _ (by omega)]; exact h1.2.2⟩
 obtain rfl : x = _ := by simpa using hx
 exact ⟨by have := h.lo; have := h.hi; simp; omega, by simp, iV _ _ rfl⟩
theorem St.step {w : World} {B : Nat} {wr w1 : World} {bx : List (Nat × Array Value × TypeId)} (h : St w B wr bx) (hb : Below wr.heap.size wr w1) : St w B w1 bx :=
 ⟨h.bel.trans (hb.mono (Nat.le_trans h.lo h.hi)), h.lo, Nat.le_trans h.hi hb.size, fun x hx => by
  have h1 := h.box x hx
  exact ⟨h1.1, h1.2.1, by rw [hb.block _ (Nat.lt_of_lt_of_le h1.2.1 h.hi)]; exact h1.2.2⟩⟩
theorem St.qA {w : World} {B : Nat} {wr w1 : World} {bx : List (Nat × Array Value × TypeId)} (h : St w B wr bx) (hb : Below B wr w1) : St w B w1 bx :=
 ⟨h.bel.trans (hb.mono h.lo), h.lo, Nat.le_trans h.hi hb.size, fun x hx => by
  have h1 := h.box x hx
  exact ⟨h1.1, h1.2.1, by rw [hb.block _ h1.2.1]; exact h1.2.2⟩⟩
theorem St.drewN {w : World} {B : Nat} {wr : World} {bx : List (Nat × Array Value × TypeId)} (h : St w B wr bx) (n : Nat) : St w B (wr.drewN n) bx := h.step ⟨rfl, rfl, rfl, Nat.le_refl _, fun _ _ => rfl⟩
theorem St.drew {w : World} {B : Nat} {wr : World} {bx : List (Nat × Array Value × TypeId)} (h : St w B wr bx) : St w B wr.drew bx := h.step (Below.refl _ _).drew
theorem St.up {w : World} {B : Nat} {wr : World} {bx : List (Nat × Array Value × TypeId)} (h : St w B wr bx) {B' : Nat} (h1 : B ≤ B') (h2 : B' ≤ wr.heap.size) : St w B' wr bx :=
 ⟨h.bel, Nat.le_trans h.lo h1, h2, fun x hx => ⟨(h.box x hx).1, Nat.lt_of_lt_of_le (h.box x hx).2.1 h1, (h.box x hx).2.2⟩⟩
theorem St.sub {w : World} {B : Nat} {wr : World} {bx bx' : List (Nat × Array Value × TypeId)} (h : St w B wr bx) (hs : ∀ x, x ∈ bx' → x ∈ bx) : St w B wr bx' :=
 ⟨h.bel, h.lo, h.hi, fun x hx => h.box x (hs x hx)⟩
theorem St.cell {w : World} {B : Nat} {wr : World} {bx : List (Nat × Array Value × TypeId)} (h : St w B wr bx) (g : Nat) (cs : Array Value) (t : TypeId) (hm : (g, cs, t) ∈ bx) (o : Nat) : wr.cell? ⟨g, o, none⟩ = cs[o]? := aA (h.box _ hm).2.2
theorem St.free {w : World} {B : Nat} {wr : World} {bx : List (Nat × Array Value × TypeId)} (h : St w B wr bx) (g : Nat) (cs : Array Value) (t : TypeId) (hm : (g, cs, t) ∈ bx) (o : Nat) : wr.frozen? ⟨g, o, none⟩ = false := aO (h.box _ hm).2.2
theorem St.cellAt {w : World} {B : Nat} {wr : World} {bx : List (Nat × Array Value × TypeId)} (h : St w B wr bx) (i : Nat) {g : Nat} {cs : Array Value} {t : TypeId} (hi : bx[i]? = some (g, cs, t)) (o : Nat) {v : Value} (hv : cs[o]? = some v) : wr.cell? ⟨g, o, none⟩ = some v :=
 (h.cell g cs t (List.mem_of_getElem? hi) o).trans hv
theorem St.aC {w : World} {B : Nat} {wr : World} {bx : List (Nat × Array Value × TypeId)} (h : St w B wr bx) (i : Nat) {g : Nat} {cs : Array Value} {t : TypeId} (hi : bx[i]? = some (g, cs, t)) (o : Nat) : wr.frozen? ⟨g, o, none⟩ = false :=
 h.free g cs t (List.mem_of_getElem? hi) o
theorem St.set {w : World} {B : Nat} {wr : World} {p q : List (Nat × Array Value × TypeId)} {g : Nat} {cs : Array Value} {t : TypeId} (h : St w B wr (p ++ (g, cs, t) :: q)) (hd : ∀ x, x ∈ p ++ q → x.1 ≠ g) (o : Nat) (u : Value) :
 St w B (wr.setCell ⟨g, o, none⟩ u) (p ++ (g, cs.setIfInBounds o u, t) :: q) := by
 have hg := h.box (g, cs, t) (by simp)
 refine ⟨h.bel.setCell hg.1 _, h.lo, by simpa [World.setCell] using h.hi, fun x hx => ?_⟩
 by_cases hx' : x = (g, cs.setIfInBounds o u, t)
 · subst hx'
   exact ⟨hg.1, hg.2.1, aZ _ _ _ _ _ _ _ hg.2.2⟩
 have hm : x ∈ p ++ q := by
  rcases List.mem_append.1 hx with hx | hx
  · exact List.mem_append.2 (.inl hx)
  rcases List.mem_cons.1 hx with hx | hx
  · exact absurd hx hx'
  exact List.mem_append.2 (.inr hx)
 have h1 := h.box x (by rcases List.mem_append.1 hm with hm | hm <;> simp [hm])
 exact ⟨h1.1, h1.2.1, by rw [Below.heap_setCell _ _ _ _ (hd x hm)]; exact h1.2.2⟩
theorem St.fin2 {α : Type} [Rep α] {w : World} {B lo : Nat} {w1 : World} {bx : List (Nat × Array Value × TypeId)} (h : St w B w1 bx) {g : Nat} (hg : w.heap.size ≤ g) (hgB : g < B) (hB : B ≤ lo) {vs : List Value} {x : α} (fr : aQ lo w1 vs x) (o0 o1 : Nat) (u0 u1 : Value) :
 aQ w.heap.size ((w1.setCell ⟨g, o0, none⟩ u0).setCell ⟨g, o1, none⟩ u1) vs x ∧ Below w.heap.size w ((w1.setCell ⟨g, o0, none⟩ u0).setCell ⟨g, o1, none⟩ u1) :=
 ⟨((fr.setCell (a := ⟨g, o0, none⟩) (Nat.lt_of_lt_of_le hgB hB) u0).setCell (a := ⟨g, o1, none⟩) (Nat.lt_of_lt_of_le hgB hB) u1).lower (Nat.le_trans h.lo hB), (h.bel.setCell hg _).setCell hg _⟩
theorem aQ.block {α : Type} [Rep α] {lo : Nat} {w : World} {b o n c : Nat} {l : List α} (h : aQ lo w [.slice (some ⟨b, o, none⟩) n c] l) (hl : l ≠ []) : lo ≤ b ∧ b < w.heap.size := by
 obtain ⟨ps, ⟨v, e, h1⟩, h2, h3⟩ := h
 obtain rfl : .slice (some ⟨b, o, none⟩) n c = v := by simpa using e
 rcases h1 with ⟨rfl, _⟩ | ⟨g, o', c', cur, e', cZ, hv, _, _, hh, rfl, _⟩
 · exact absurd rfl hl
 simp only [Value.slice.injEq, Option.some.injEq, Addr.mk.injEq] at hv
 obtain ⟨⟨rfl, _⟩, _⟩ := hv
 exact ⟨h3 _ (by simp), (Array.getElem?_eq_some_iff.1 hh).1⟩
theorem uw {w w' : World} {b o : Nat} {v : Value} (h : w.cell? ⟨b, o, none⟩ = some v) (hk : w'.heap[b]? = w.heap[b]?) : w'.cell? ⟨b, o, none⟩ = some v := by rw [← h]; exact World.cell?_of_block (a := ⟨b, o, none⟩) hk
theorem mg {α : Type} [Rep α] {H : Nat} {w : World} : aQ H w [.slice none 0 0] ([] : List α) := ⟨[], ⟨_, rfl, .inl ⟨rfl, rfl, none, 0, rfl, Nat.zero_le _⟩⟩, by simp, by simp⟩
theorem St.acc {α : Type} [Rep α] {w : World} {B H : Nat} {wr w1 : World} {bx : List (Nat × Array Value × TypeId)} {e : TypeId} {v : Value} {l : List α} (_ : St w B wr bx) (h : Acc B H e wr v l) (hb : Below wr.heap.size wr w1) : Acc B H e w1 v l := h.mono hb
structure But (ps : List Nat) (w w' : World) : Prop where
 os : w'.os = w.os
 tape : w'.tape = w.tape
 output : w'.output = w.output
 size : w.heap.size ≤ w'.heap.size
 block : ∀ k, k < w.heap.size → k ∉ ps → w'.heap[k]? = w.heap[k]?
theorem But.refl (ps : List Nat) (w : World) : But ps w w := ⟨rfl, rfl, rfl, Nat.le_refl _, fun _ _ _ => rfl⟩
theorem But.trans {ps : List Nat} {a b c : World} (h : But ps a b) (k : But ps b c) : But ps a c :=
 ⟨k.os.trans h.os, k.tape.trans h.tape, k.output.trans h.output, Nat.le_trans h.size k.size, fun i hi hp => (k.block i (Nat.lt_of_lt_of_le hi h.size) hp).trans (h.block i hi hp)⟩
theorem aP.but {ps : List Nat} {a b : World} (h : aP ps a b) : But ps a b := ⟨h.os, h.tape, h.output, by rw [h.size]; exact Nat.le_refl _, fun k _ hp => h.block k hp⟩
theorem Hq {ps : List Nat} {a b : World} (h : Below a.heap.size a b) : But ps a b := ⟨h.os, h.tape, h.output, h.size, fun k hk _ => h.block k hk⟩
theorem But.mono {ps qs : List Nat} {a b : World} (h : But ps a b) (hs : ∀ k, k ∈ ps → k ∈ qs) : But qs a b := ⟨h.os, h.tape, h.output, h.size, fun i hi hp => h.block i hi (fun hk => hp (hs i hk))⟩
theorem But.below {ps : List Nat} {B : Nat} {a b : World} (h : But ps a b) (hp : ∀ k, k ∈ ps → B ≤ k) (hB : B ≤ a.heap.size) : Below B a b :=
 ⟨h.os, h.tape, h.output, h.size, fun k hk => h.block k (by omega) (fun hm => by have := hp k hm; omega)⟩
theorem Own.but {α : Type} [Rep α] {ps qs : List Nat} {w w' : World} {vs : List Value} {x : α} (h : Own ps w vs x) (hb : But qs w w') (hd : ∀ k, k ∈ ps → k ∉ qs) : Own ps w' vs x :=
 Rep.dY (fun k hk => hb.block k (Rep.jK h k hk) (hd k hk)) h
theorem St.but {w : World} {B : Nat} {wr w1 : World} {bx : List (Nat × Array Value × TypeId)} (h : St w B wr bx) {ps : List Nat} (hb : But ps wr w1) (hp : ∀ k, k ∈ ps → B ≤ k) : St w B w1 bx := h.qA (hb.below hp h.hi)
def Iv {α : Type} [Rep α] (lo hi : Nat) (w : World) (vs : List Value) (x : α) : Prop := ∃ ps, Own ps w vs x ∧ ps.Nodup ∧ ∀ k, k ∈ ps → lo ≤ k ∧ k < hi
theorem aQ.iv {α : Type} [Rep α] {lo : Nat} {w : World} {vs : List Value} {x : α} (h : aQ lo w vs x) : Iv lo w.heap.size w vs x := by
 obtain ⟨ps, h1, h2, h3⟩ := h
 exact ⟨ps, h1, h2, fun k hk => ⟨h3 k hk, Rep.jK h1 k hk⟩⟩
theorem Iv.mono {α : Type} [Rep α] {lo hi : Nat} {w w' : World} {vs : List Value} {x : α} (h : Iv lo hi w vs x) (hb : Below w.heap.size w w') : Iv lo hi w' vs x := by
 obtain ⟨ps, h1, h2, h3⟩ := h
 exact ⟨ps, Own.mono h1 hb, h2, h3⟩
theorem Iv.but {α : Type} [Rep α] {lo hi : Nat} {w w' : World} {vs : List Value} {x : α} (h : Iv lo hi w vs x) {ps : List Nat} (hb : But ps w w') (hd : ∀ k, k ∈ ps → ¬ (lo ≤ k ∧ k < hi)) : Iv lo hi w' vs x := by
 obtain ⟨qs, h1, h2, h3⟩ := h
 exact ⟨qs, Own.but h1 hb (fun k hk hp => hd k hp (h3 k hk)), h2, h3⟩
theorem Iv.rd {α : Type} [Rep α] {lo hi : Nat} {w : World} {vs : List Value} {x : α} (h : Iv lo hi w vs x) : Rd w vs x := by
 obtain ⟨ps, h1, _⟩ := h; exact Rep.bP h1
theorem St.sK {w : World} {B : Nat} {wr w1 : World} {bx : List (Nat × Array Value × TypeId)} (h : St w B wr bx) {ps : List Nat} (hb : But ps wr w1) (hp : ∀ k, k ∈ ps → w.heap.size ≤ k) (hx : ∀ x, x ∈ bx → x.1 ∉ ps) : St w B w1 bx :=
 ⟨h.bel.trans (hb.below hp (Nat.le_trans h.lo h.hi)), h.lo, Nat.le_trans h.hi hb.size, fun x hm => by
  have h1 := h.box x hm
  exact ⟨h1.1, h1.2.1, by rw [hb.block _ (Nat.lt_of_lt_of_le h1.2.1 h.hi) (hx x hm)]; exact h1.2.2⟩⟩
abbrev nG := List Int × Int
abbrev Sys := Int × Int × List nG
abbrev bH := Int × List (List Int)
abbrev nI := Int × List Int
abbrev dB := Int × List bH
abbrev Inst := Int × List nI
theorem iL (w : World) : Own [] w (Value.cells (.int .i64 0)).toList (0 : Int) := ⟨rfl, rfl, ⟨by decide, by decide⟩⟩
theorem KY (w : World) : Own [] w (Value.cells (.bool false)).toList false := ⟨rfl, rfl⟩
theorem XR {α : Type} [Rep α] (w : World) : Own [] w (Value.cells (.slice none 0 0)).toList ([] : List α) := ⟨_, rfl, .inl ⟨rfl, rfl, none, 0, rfl, Nat.zero_le _⟩⟩
theorem adb (w : World) : Own [] w (Value.cells (.agg #[.int .i64 0, .slice none 0 0])).toList ((0, []) : nI) :=
 ⟨[], [], [.int .i64 0], [.slice none 0 0], rfl, rfl, ⟨rfl, rfl, ⟨by decide, by decide⟩⟩, ⟨_, rfl, .inl ⟨rfl, rfl, none, 0, rfl, Nat.zero_le _⟩⟩⟩
theorem Y9 (w : World) : Own [] w (Value.cells (.agg #[.int .i64 0, .slice none 0 0])).toList ((0, []) : bH) :=
 ⟨[], [], [.int .i64 0], [.slice none 0 0], rfl, rfl, ⟨rfl, rfl, ⟨by decide, by decide⟩⟩, ⟨_, rfl, .inl ⟨rfl, rfl, none, 0, rfl, Nat.zero_le _⟩⟩⟩
theorem Ws (w : World) : Own [] w (Value.cells (.agg #[.int .i64 0, .int .i64 0, .int .i64 0])).toList ((0, 0, 0) : Int × Int × Int) :=
 ⟨[], [], [.int .i64 0], [.int .i64 0, .int .i64 0], rfl, rfl, ⟨rfl, rfl, ⟨by decide, by decide⟩⟩, [], [], [.int .i64 0], [.int .i64 0], rfl, rfl, ⟨rfl, rfl, ⟨by decide, by decide⟩⟩, ⟨rfl, rfl, ⟨by decide, by decide⟩⟩⟩
theorem eH : iK prog 28 2 (Int) (.int .i64 0) 8 := iK.mk' Tryz.underlying28 (by kernel_rfl) rfl (by decide) (by decide)
theorem oq : iK prog 97 28 (List Int) (.slice none 0 0) 24 := iK.mk' Tryz.underlying97 (by kernel_rfl) rfl (by decide) (by decide)
theorem Wu : iK prog 334 4 (Bool) (.bool false) 1 := iK.mk' Tryz.underlying334 (by kernel_rfl) rfl (by decide) (by decide)
theorem BA : iK prog 59 200 (nG) (.agg #[.slice none 0 0, .int .i64 0]) 32 := iK.mk' Tryz.underlying59 (by kernel_rfl) rfl (by decide) (by decide)
theorem Tv : iK prog 40 118 (bH) (.agg #[.int .i64 0, .slice none 0 0]) 32 := iK.mk' Tryz.underlying40 (by kernel_rfl) rfl (by decide) (by decide)
theorem agH : iK prog 44 150 (nI) (.agg #[.int .i64 0, .slice none 0 0]) 32 := iK.mk' Tryz.underlying44 (by kernel_rfl) rfl (by decide) (by decide)
theorem agI : iK prog 34 180 ((Int × Int × Int)) (.agg #[.int .i64 0, .int .i64 0, .int .i64 0]) 24 := iK.mk' Tryz.underlying34 (by kernel_rfl) rfl (by decide) (by decide)
theorem ade : iK prog 35 169 ((Int × Int × Int)) (.agg #[.int .i64 0, .int .i64 0, .int .i64 0]) 24 := iK.mk' Tryz.underlying35 (by kernel_rfl) rfl (by decide) (by decide)
theorem Za : iK prog 219 223 ((List Int × List Int)) (.agg #[.slice none 0 0, .slice none 0 0]) 48 := iK.mk' Tryz.underlying219 (by kernel_rfl) rfl (by decide) (by decide)
theorem adf : iK prog 210 215 ((List Int × Int × List Int)) (.agg #[.slice none 0 0, .int .i64 0, .slice none 0 0]) 56 := iK.mk' Tryz.underlying210 (by kernel_rfl) rfl (by decide) (by decide)
def putCells (w : World) (g : Nat) : Nat → List Value → World
 | _, [] => w
 | o, v :: vs => putCells (w.setCell ⟨g, o, none⟩ v) g (o + 1) vs
def kQ (cur : Array Value) : Nat → List Value → Array Value
 | _, [] => cur
 | o, v :: vs => kQ (cur.setIfInBounds o v) (o + 1) vs
theorem lG (g : Nat) (e : TypeId) (fr : Nat × Nat) : ∀ (vs : List Value) (o : Nat) (w : World) (cur : Array Value), w.heap[g]? = some (.cells cur e fr) → (putCells w g o vs).heap[g]? = some (.cells (kQ cur o vs) e fr)
 | [], _, _, _, h => h
 | v :: vs, o, w, cur, h => lG g e fr vs (o + 1) _ _ (aZ w g o v cur e fr h)
theorem fC (g : Nat) : ∀ (vs : List Value) (o : Nat) (w : World), aP [g] w (putCells w g o vs)
 | [], _, w => aP.refl _ _
 | v :: vs, o, w => ((aP.refl [g] w).setCell (p := ⟨g, o, none⟩) (by simp) v).trans (fC g vs (o + 1) _)
theorem ER : ∀ (vs : List Value) (o : Nat) (cur : Array Value), (kQ cur o vs).size = cur.size
 | [], _, _ => rfl
 | v :: vs, o, cur => by rw [kQ, ER vs]; simp
theorem jX : ∀ (vs : List Value) (o q : Nat) (cur : Array Value), (q < o ∨ o + vs.length ≤ q) → (kQ cur o vs)[q]? = cur[q]?
 | [], _, _, _, _ => rfl
 | v :: vs, o, q, cur, h => by
  simp only [List.length_cons] at h
  rw [kQ, jX vs (o + 1) q _ (by omega), Array.getElem?_setIfInBounds_ne (by omega)]
theorem oM : ∀ (vs : List Value) (o k : Nat) (cur : Array Value), k < vs.length → o + k < cur.size → (kQ cur o vs)[o + k]? = vs[k]?
 | [], _, _, _, h, _ => absurd h (Nat.not_lt_zero _)
 | v :: vs, o, 0, cur, _, hs => by
  rw [kQ, jX vs (o + 1) _ _ (by omega)]
  have : o < cur.size := by omega
  simp [Array.getElem?_setIfInBounds, this]
 | v :: vs, o, k + 1, cur, h, hs => by
  simp only [List.length_cons] at h
  have := oM vs (o + 1) k (cur.setIfInBounds o v) (by omega) (by simp; omega)
  rw [kQ, show o + (k + 1) = o + 1 + k by omega, this]
  simp
theorem adg {α : Type} [Rep α] {lo hi : Nat} {w : World} {v : Value} {l : List α} (h : Iv lo hi w [v] l) (hl : 0 < l.length) :
 ∃ g o c cur e, v = .slice (some ⟨g, o, none⟩) l.length c ∧ l.length ≤ c ∧ w.heap[g]? = some (.cells cur e (0, 0)) ∧ lo ≤ g ∧ g < hi ∧ o + l.length * sz α ≤ cur.size ∨ sz α = 0 := by
 obtain ⟨ps, ⟨v', ev, ho⟩, hn, hb⟩ := h
 obtain rfl : v = v' := by simpa using ev
 rcases ho with ⟨rfl, _⟩ | ⟨g, o, c, cur, e, cZ, rfl, h1, h2, h3, rfl, h5, h6⟩
 · exact absurd hl (by simp)
 by_cases hz : sz α = 0
 · exact ⟨g, o, c, cur, e, .inr hz⟩
 refine ⟨g, o, c, cur, e, .inl ⟨rfl, h1, h3, (hb g (by simp)).1, (hb g (by simp)).2, ?_⟩⟩
 obtain ⟨p, vs, hp, hO, hc⟩ := h6 (l.length - 1) (by omega)
 have hv := Rep.dI (Rep.bP hO)
 have := hc (sz α - 1) (by omega)
 rw [List.getElem?_eq_getElem (by omega)] at this
 have := (Array.getElem?_eq_some_iff.1 this).1
 have e1 : l.length * sz α = (l.length - 1) * sz α + sz α := by
  obtain ⟨q, hq⟩ : ∃ q, l.length = q + 1 := ⟨l.length - 1, by omega⟩
  rw [hq, Nat.add_sub_cancel, Nat.add_mul, Nat.one_mul]
 omega
theorem zD {α : Type} [Rep α] {lo hi : Nat} {w : World} {v : Value} {l : List α} (h : Iv lo hi w [v] l) (hl : 0 < l.length) (hz : 0 < sz α) :
 ∃ g o c cur e, v = .slice (some ⟨g, o, none⟩) l.length c ∧ w.heap[g]? = some (.cells cur e (0, 0)) ∧ lo ≤ g ∧ g < hi ∧ o + l.length * sz α ≤ cur.size := by
 obtain ⟨g, o, c, cur, e, h | h⟩ := adg h hl
 · exact ⟨g, o, c, cur, e, h.1, h.2.2.1, h.2.2.2.1, h.2.2.2.2.1, h.2.2.2.2.2⟩
 omega
theorem cell_of_heap {w : World} {g q : Nat} {cur : Array Value} {e : TypeId} (h : w.heap[g]? = some (.cells cur e (0, 0))) (hq : q < cur.size) : w.cell? ⟨g, q, none⟩ = some cur[q] := by
 rw [aA h, Array.getElem?_eq_getElem hq]
theorem Eb {n j k s : Nat} (hj : j < n) (hk : k < s) : j * s + k < n * s := by
 have : (j + 1) * s ≤ n * s := Nat.mul_le_mul_right _ hj
 rw [Nat.add_mul] at this
 omega
theorem agJ {α : Type} [Rep α] {lo hi hi' : Nat} {w : World} {g o n c : Nat} {l : List α} (h : Iv lo hi w [.slice (some ⟨g, o, none⟩) n c] l) (j : Nat) (hj : j < l.length) {vs : List Value} {y : α} (hy : Iv hi hi' w vs y) (hh : hi ≤ hi') :
 Iv lo hi' (putCells w g (o + j * sz α) vs) [.slice (some ⟨g, o, none⟩) n c] (l.set j y) := by
 obtain ⟨ps, ⟨v', e', ho⟩, hn, hb⟩ := h
 obtain ⟨p', Y7, hn', hb'⟩ := hy
 obtain rfl : Value.slice (some ⟨g, o, none⟩) n c = v' := by simpa using e'
 rcases ho with ⟨rfl, _⟩ | ⟨g', o', c', cur, e, cZ, hv, h1, h2, h3, rfl, h5, h6⟩
 · exact absurd hj (Nat.not_lt_zero _)
 simp only [Value.slice.injEq, Option.some.injEq, Addr.mk.injEq, and_true] at hv
 obtain ⟨⟨rfl, rfl⟩, rfl, rfl⟩ := hv
 have hg := hb g (by simp)
 have hvl := Rep.dI (Rep.bP Y7)
 have hjp : j < cZ.length := by omega
 have hsplit : cZ.set j p' = cZ.take j ++ p' :: cZ.drop (j + 1) := List.set_eq_take_append_cons_drop .. |>.trans (by rw [if_pos hjp])
 have hwhole : cZ = cZ.take j ++ cZ[j] :: cZ.drop (j + 1) := by
  conv => lhs; rw [← List.take_append_drop j cZ, List.drop_eq_getElem_cons hjp]
 have hmem : ∀ k, k ∈ List.flatten (cZ.take j) ∨ k ∈ List.flatten (cZ.drop (j + 1)) → lo ≤ k ∧ k < hi := fun k hk => by
  refine hb k (List.mem_cons_of_mem _ ?_)
  rw [hwhole, List.flatten_append, List.flatten_cons]
  rcases hk with hk | hk <;> simp [hk]
 have hnd : (g :: List.flatten (cZ.set j p')).Nodup := by
  rw [hwhole, List.flatten_append, List.flatten_cons] at hn
  rw [hsplit, List.flatten_append, List.flatten_cons]
  simp only [List.nodup_cons, List.nodup_append, List.mem_append, not_or] at hn ⊢
  obtain ⟨⟨n1, _, n3⟩, n4, ⟨n5, n6, n7⟩, n8⟩ := hn
  refine ⟨⟨n1, fun hk => ?_, n3⟩, n4, ⟨hn', n6, fun a ha b hbb => ?_⟩, fun a ha b hbb => ?_⟩
  · have := hb' g hk; omega
  · have h1 := hb' a ha
    have h2 := hmem b (.inr hbb)
    omega
  rcases hbb with hbb | hbb
  · have h1 := hb' b hbb
    have h2 := hmem a (.inl ha)
    omega
  exact n8 a ha b (.inr hbb)
 have hkeep : ∀ {β : Type} [Rep β] (p : List Nat) (us : List Value) (z : β), Own p w us z → g ∉ p → Own p (putCells w g (o + j * sz α) vs) us z := by
  intro β _ p us z hO Zb
  exact Own.only hO (fC g vs _ w) (fun k hk hkg => by obtain rfl : k = g := (by simpa using hkg); exact Zb hk)
 refine ⟨g :: List.flatten (cZ.set j p'), ⟨_, rfl, .inr ⟨g, o, c, _, e, cZ.set j p', by simp, by simpa using h1, h2, lG g e (0, 0) vs _ w cur h3, rfl, by simpa using h5, fun i hi => ?_⟩⟩, hnd, fun k hk => ?_⟩
 · simp only [List.length_set] at hi
   obtain ⟨p, us, hp, hO, hc⟩ := h6 i hi
   have Zc := Rep.dI (Rep.bP hO)
   by_cases hij : j = i
   · subst hij
     refine ⟨p', vs, by simp [hjp], ?_, fun k hk => ?_⟩
     · simp only [List.getElem_set_self]
       exact hkeep p' vs y Y7 (fun hk => by have := hb' g hk; omega)
     refine oM vs _ k cur hk ?_
     have := hc k (by omega)
     rw [List.getElem?_eq_getElem (by omega)] at this
     exact (Array.getElem?_eq_some_iff.1 this).1
   refine ⟨p, us, by rw [List.getElem?_set_ne hij]; exact hp, ?_, fun k hk => ?_⟩
   · simp only [List.getElem_set_ne hij]
     refine hkeep p us _ hO (fun hk => ?_)
     exact (List.nodup_cons.1 hn).1 (List.mem_flatten.2 ⟨p, List.mem_of_getElem? hp, hk⟩)
   rw [jX]
   · exact hc k hk
   have hks : k < sz α := by omega
   rcases Nat.lt_or_gt_of_ne hij with hlt | hlt
   · right
     have : (j + 1) * sz α ≤ i * sz α := Nat.mul_le_mul_right _ hlt
     rw [Nat.add_mul] at this
     omega
   left
   have := Eb (s := sz α) hlt hks
   omega
 rcases List.mem_cons.1 hk with rfl | hk
 · exact ⟨hg.1, by omega⟩
 rw [hsplit, List.flatten_append, List.flatten_cons] at hk
 rcases List.mem_append.1 hk with hk | hk
 · have := hmem k (.inl hk); omega
 rcases List.mem_append.1 hk with hk | hk
 · have := hb' k hk; omega
 have := hmem k (.inr hk); omega
theorem Gw {α β : Type} [Rep α] [Rep β] {lo mid mid' hi : Nat} {w : World} {v : Value} {vs : List Value} {x : α} {y : β} (h1 : Iv lo mid w [v] x) (h2 : Iv mid' hi w vs y) (hm : mid ≤ mid') (hl : lo ≤ mid') (hh : mid ≤ hi) : Iv lo hi w (v :: vs) (x, y) := by
 obtain ⟨p, o1, n1, b1⟩ := h1
 obtain ⟨q, o2, n2, b2⟩ := h2
 refine ⟨p ++ q, ⟨p, q, [v], vs, rfl, rfl, o1, o2⟩, ?_, fun k hk => ?_⟩
 · rw [List.nodup_append]
   refine ⟨n1, n2, fun a ha b hb => ?_⟩
   have := b1 a ha
   have := b2 b hb
   omega
 rcases List.mem_append.1 hk with hk | hk
 · have := b1 k hk; omega
 have := b2 k hk; omega
theorem rF {β : Type} [Rep β] {lo hi : Nat} {w : World} {n : Int} {vs : List Value} {y : β} (h : I64 n) (h2 : Iv lo hi w vs y) : Iv lo hi w (.int .i64 n :: vs) (n, y) := by
 obtain ⟨q, o2, n2, b2⟩ := h2
 exact ⟨q, ⟨[], q, [_], vs, rfl, rfl, ⟨rfl, rfl, h⟩, o2⟩, n2, b2⟩
theorem Iv.fresh {α : Type} [Rep α] {lo hi : Nat} {w : World} {vs : List Value} {x : α} (h : Iv lo hi w vs x) : aQ lo w vs x := by
 obtain ⟨q, o2, n2, b2⟩ := h
 exact ⟨q, o2, n2, fun k hk => (b2 k hk).1⟩
theorem Iv.frame {α : Type} [Rep α] {lo hi : Nat} {w w' : World} {vs : List Value} {x : α} (h : Iv lo hi w vs x) (hb : ∀ k, lo ≤ k → k < hi → w'.heap[k]? = w.heap[k]?) : Iv lo hi w' vs x := by
 obtain ⟨q, o2, n2, b2⟩ := h
 exact ⟨q, Rep.dY (fun k hk => hb k (b2 k hk).1 (b2 k hk).2) o2, n2, b2⟩
theorem CV {α : Type} [Rep α] {g : Nat} {w : World} {v : Value} {l : List α} (h : bY [g] w v l) : Iv g (g + 1) w [v] l := ⟨[g], ⟨v, rfl, h⟩, by simp, by simp⟩
def lW {α : Type} (x0 : α) (l : List α) (i : Nat) : List α := l.take i ++ List.replicate (l.length - i) x0
theorem gu {α : Type} (x0 : α) (l : List α) (i : Nat) (h : i ≤ l.length) : (lW x0 l i).length = l.length := by simp [lW]; omega
theorem pI {α : Type} (x0 : α) (l : List α) : lW x0 l 0 = List.replicate l.length x0 := by simp [lW]
theorem rG {α : Type} (x0 : α) (l : List α) : lW x0 l l.length = l := by simp [lW]
theorem pJ {α : Type} (x0 : α) (l : List α) (i : Nat) (h : i < l.length) : (lW x0 l i).set i l[i] = lW x0 l (i + 1) := by
 simp only [lW]
 have h1 : (l.take i).length = i := by simp; omega
 rw [List.set_append_right _ _ (by omega), h1, Nat.sub_self]
 obtain ⟨q, hq⟩ : ∃ q, l.length - i = q + 1 := ⟨l.length - i - 1, by omega⟩
 rw [hq, List.replicate_succ, sZ, show l.length - (i + 1) = q by omega, List.take_succ_eq_append_getElem h, List.append_assoc]
 rfl
theorem CW {α : Type} [Rep α] {lo hi hi' : Nat} {w : World} {g o n c q : Nat} {l : List α} (h : Iv lo hi w [.slice (some ⟨g, o, none⟩) n c] l) (j : Nat) (hj : j < l.length) {vs : List Value} {y : α} (hy : Iv hi hi' w vs y) (hh : hi ≤ hi') (hq : o + j * sz α = q) :
 Iv lo hi' (putCells w g q vs) [.slice (some ⟨g, o, none⟩) n c] (l.set j y) := by subst hq; exact agJ h j hj hy hh
theorem Iv.setCell {α : Type} [Rep α] {lo hi : Nat} {w : World} {vs : List Value} {x : α} (h : Iv lo hi w vs x) {a : Addr} (ha : a.block < lo) (u : Value) : Iv lo hi (w.setCell a u) vs x :=
 h.frame (fun k hk _ => Below.heap_setCell _ _ _ _ (by omega))
theorem St.Tz {α : Type} [Rep α] {w : World} {B lo hi : Nat} {w1 : World} {bx : List (Nat × Array Value × TypeId)} (h : St w B w1 bx) {vs : List Value} {x : α} (iv : Iv lo hi w1 vs x) {g : Nat} (hg : w.heap.size ≤ g) (hgl : g < lo) (us : List Value) :
 aQ w.heap.size (putCells w1 g 0 us) vs x ∧ Below w.heap.size w (putCells w1 g 0 us) := by
 have ho := fC g us 0 w1
 exact ⟨(Iv.fresh (iv.frame (fun k hk _ => ho.block k (by simp; omega)))).lower (by omega), h.bel.trans (ho.below (by simp; exact hg))⟩
theorem Zd {ps : List Nat} {w : World} {v : Value} {n : Int} (h : Own ps w [v] n) : ps = [] ∧ v = .int .i64 n ∧ I64 n := ⟨h.1, by simpa using h.2.1, h.2.2⟩
theorem pK {α β : Type} [Rep α] [Rep β] {ps : List Nat} {w : World} {v0 : Value} {vs : List Value} {x : α × β} (hα : sz α = 1) (h : Own ps w (v0 :: vs) x) : ∃ p q, ps = p ++ q ∧ Own p w [v0] x.1 ∧ Own q w vs x.2 := by
 obtain ⟨p, q, a, b, hp, e, h1, h2⟩ := h
 have := Rep.dI (Rep.bP h1)
 rw [hα] at this
 match a, this with
 | [a0], _ => simp only [List.cons_append, List.nil_append, List.cons.injEq] at e; obtain ⟨rfl, rfl⟩ := e; exact ⟨p, q, hp, h1, h2⟩
theorem lS {α β : Type} [Rep α] [Rep β] {p q : List Nat} {w : World} {v0 : Value} {vs : List Value} {x : α} {y : β} (h1 : Own p w [v0] x) (h2 : Own q w vs y) : Own (p ++ q) w (v0 :: vs) (x, y) := ⟨p, q, [v0], vs, rfl, rfl, h1, h2⟩
def inB (n lo hi : Int) : Bool := decide (lo ≤ n ∧ n ≤ hi)
theorem bQ {n lo hi : Int} (h : inB n lo hi = true) : lo ≤ n ∧ n ≤ hi := by simpa [inB] using h
theorem Ec {n lo hi : Int} (h : lo ≤ n ∧ n ≤ hi) : inB n lo hi = true := by simpa [inB] using h
def sW (p : Int) : Bool := decide (p = 2 ∨ p = 3)
theorem lH {p : Int} (h : sW p = true) : p = 2 ∨ p = 3 := by simpa [sW] using h
theorem dw (n lo hi : Int) (w : World) :
 Calls prog 137 #[.int .i64 n, .int .i64 lo, .int .i64 hi] w fun e w' => e = .returned (.bool (inB n lo hi)) ∧ w = w' := by
 by_cases h1 : lo ≤ n
 all_goals
  go_enter func137, ntmps137
  go_wp2
  go_ret
  exact ⟨ak (by simp [inB]; omega), rfl⟩
theorem iZ (n lo hi : Int) (w : World) :
 Calls prog 146 #[.int .i64 n, .int .i64 lo, .int .i64 hi] w fun e w' => e = .returned (.bool (inB n lo hi)) ∧ w = w' := by
 by_cases h1 : lo ≤ n
 all_goals
  go_enter func146, ntmps146
  go_wp2
  go_ret
  exact ⟨ak (by simp [inB]; omega), rfl⟩
theorem KZ (p : Int) (w : World) :
 Calls prog 148 #[.int .i64 p] w fun e w' => e = .returned (.bool (sW p)) ∧ w = w' := by
 by_cases h1 : (p == 2) = true
 · have h2 : p = 2 := by simpa using h1
   go_enter func148, ntmps148
   go_wp2
   go_ret
   exact ⟨ak (by simp [sW, h2]), rfl⟩
 have h1 : (p == 2) = false := by simpa using h1
 have h2 : ¬ p = 2 := by simpa using h1
 go_enter func148, ntmps148
 go_wp2
 go_ret
 exact ⟨ak (by simp [sW, h2]; rfl), rfl⟩
theorem Hr (p : Int) (w : World) :
 Calls prog 139 #[.int .i64 p] w fun e w' => e = .returned (.bool (sW p)) ∧ w = w' := by
 by_cases h1 : (p == 2) = true
 · have h2 : p = 2 := by simpa using h1
   go_enter func139, ntmps139
   go_wp2
   go_ret
   exact ⟨ak (by simp [sW, h2]), rfl⟩
 have h1 : (p == 2) = false := by simpa using h1
 have h2 : ¬ p = 2 := by simpa using h1
 go_enter func139, ntmps139
 go_wp2
 go_ret
 exact ⟨ak (by simp [sW, h2]; rfl), rfl⟩
theorem Ze (a p : Int) : (a.tmod p + p) % p = a % p := by
 rw [Int.add_emod_right]
 have e : a = a.tmod p + p * a.tdiv p := (Int.tmod_add_mul_tdiv a p).symm
 conv => rhs; rw [e, Int.add_mul_emod_self_left]
theorem wV (a p : Int) (w : World) (hp : 0 < p) (hp2 : p ≤ 1000000) :
 Calls prog 262 #[.int .i64 a, .int .i64 p] w fun e w' => e = .returned (.int .i64 (a % p)) ∧ w = w' := by
 have h3 : -p < a.tmod p := by have := Int.lt_tmod_of_pos a hp; omega
 have h4 : a.tmod p < p := Int.tmod_lt_of_pos a hp
 have h5 : p ≠ 0 := by omega
 go_enter func262, ntmps262
 go_wp2
 go_ret
 exact ⟨aU (Ze a p), rfl⟩
theorem CX {l1 l2 : List Int} {k n : Nat} (h1 : l1.length = n) (h2 : l2.length = n) (hk : k < n) (h : l1.take k = l2.take k) (e : l1.getD k 0 = l2.getD k 0) : l1.take (k + 1) = l2.take (k + 1) := by
 rw [List.take_succ_eq_append_getElem (by omega), List.take_succ_eq_append_getElem (by omega), h]
 have : l1[k]'(by omega) = l2[k]'(by omega) := by simpa [List.getD, h1, h2, hk] using e
 rw [this]
theorem dQ (w : World) (n : Nat) : Below w.heap.size w (w.drewN n) := ⟨rfl, rfl, rfl, Nat.le_refl _, fun _ _ => rfl⟩
theorem TA (l1 l2 : List Int) (v1 v2 : Value) (w : World) (r1 : Rd w [v1] l1) (r2 : Rd w [v2] l2) :
 Calls prog 66 #[v1, v2] w fun e w' => e = .returned (.bool (decide (l1 = l2))) ∧ ∃ n, w' = w.drewN n := by
 obtain ⟨a1, c1, rfl, h1⟩ := ah r1
 obtain ⟨a2, c2, rfl, h2⟩ := ah r2
 clear r1 r2
 have b1 := (aN h1).2
 have b2 := (aN h2).2
 unfold maxLen at b1 b2
 by_cases hl : l1.length = l2.length
 rotate_left
 · have hl' : ((l1.length : Int) != l2.length) = true := by simp; omega
   have HL := Lib.hid hl
   clear hl
   go_enter func66, ntmps66
   go_wp2
   go_ret
   refine ⟨ak ?_, 0, rfl⟩
   symm
   simp only [decide_eq_false_iff_not]
   rintro rfl
   exact HL.out rfl
 generalize hn1 : l1.length = n1 at *
 generalize hn2 : l2.length = n2 at *
 have H1 := Lib.hid hn1
 have H2 := Lib.hid hn2
 clear hn1 hn2
 subst hl
 have hl' : ((n1 : Int) != n1) = false := by simp
 go_enter func66, ntmps66
 go_wp2
 go_loopw [5] (fun i wr => ∃ k n : Nat, k ≤ n1 ∧ i = .int .i64 k ∧ wr = w.drewN n ∧ l1.take k = l2.take k) (fun i _ => n1 - (intOf i).toNat)
 case atStart => exact ⟨0, 0, Nat.zero_le _, rfl, rfl, by simp⟩
 obtain ⟨k, n, hk, rfl, rfl, hr⟩ := hrel
 by_cases hlt : k < n1
 rotate_left
 · obtain rfl : k = n1 := by omega
   have HR := Lib.hid hr
   clear hr
   go_wp2
   go_ret
   refine ⟨ak ?_, n, rfl⟩
   have := HR.out
   rw [List.take_of_length_le (by rw [H1.out]; exact Nat.le_refl _), List.take_of_length_le (by rw [H2.out]; exact Nat.le_refl _)] at this
   simp [this]
 obtain ⟨b1, o1, rfl, hc1, _⟩ := eF h1 k (by rw [H1.out]; exact hlt)
 obtain ⟨b2, o2, rfl, hc2, _⟩ := eF h2 k (by rw [H2.out]; exact hlt)
 clear h1 h2
 have HR := Lib.hid hr
 clear hr
 go_wp2
 go_quiet (fail)
 go_wp2
 · rename_i hne
   go_ret
   refine ⟨ak ?_, _, by simp; rfl⟩
   simp only [bne_iff_ne, ne_eq] at hne
   symm
   simp only [decide_eq_false_iff_not]
   rintro rfl
   exact hne rfl
 rename_i he
 go_roundw
 case rel => exact ⟨k + 1, n + _, by omega, by go_num, rfl, CX H1.out H2.out hlt HR.out (by simpa using he)⟩
 simp [intOf]; omega
theorem XT (l1 l2 : List Int) (v1 v2 : Value) (w : World) (r1 : Rd w [v1] l1) (r2 : Rd w [v2] l2) :
 Calls prog 332 #[v1, v2] w fun e w' => e = .returned (.bool (decide (l1 = l2))) ∧ ∃ n, w' = w.drewN n := by
 obtain ⟨a1, c1, rfl, h1⟩ := ah r1
 obtain ⟨a2, c2, rfl, h2⟩ := ah r2
 clear r1 r2
 have b1 := (aN h1).2
 have b2 := (aN h2).2
 unfold maxLen at b1 b2
 by_cases hl : l1.length = l2.length
 rotate_left
 · have hl' : ((l1.length : Int) != l2.length) = true := by simp; omega
   have HL := Lib.hid hl
   clear hl
   go_enter func332, ntmps332
   go_wp2
   go_ret
   refine ⟨ak ?_, 0, rfl⟩
   symm
   simp only [decide_eq_false_iff_not]
   rintro rfl
   exact HL.out rfl
 generalize hn1 : l1.length = n1 at *
 generalize hn2 : l2.length = n2 at *
 have H1 := Lib.hid hn1
 have H2 := Lib.hid hn2
 clear hn1 hn2
 subst hl
 have hl' : ((n1 : Int) != n1) = false := by simp
 go_enter func332, ntmps332
 go_wp2
 go_loopw [5] (fun i wr => ∃ k n : Nat, k ≤ n1 ∧ i = .int .i64 k ∧ wr = w.drewN n ∧ l1.take k = l2.take k) (fun i _ => n1 - (intOf i).toNat)
 case atStart => exact ⟨0, 0, Nat.zero_le _, rfl, rfl, by simp⟩
 obtain ⟨k, n, hk, rfl, rfl, hr⟩ := hrel
 by_cases hlt : k < n1
 rotate_left
 · obtain rfl : k = n1 := by omega
   have HR := Lib.hid hr
   clear hr
   go_wp2
   go_ret
   refine ⟨ak ?_, n, rfl⟩
   have := HR.out
   rw [List.take_of_length_le (by rw [H1.out]; exact Nat.le_refl _), List.take_of_length_le (by rw [H2.out]; exact Nat.le_refl _)] at this
   simp [this]
 obtain ⟨b1, o1, rfl, hc1, _⟩ := eF h1 k (by rw [H1.out]; exact hlt)
 obtain ⟨b2, o2, rfl, hc2, _⟩ := eF h2 k (by rw [H2.out]; exact hlt)
 clear h1 h2
 have HR := Lib.hid hr
 clear hr
 go_wp2
 go_quiet (fail)
 go_wp2
 · rename_i hne
   go_ret
   refine ⟨ak ?_, _, by simp; rfl⟩
   simp only [bne_iff_ne, ne_eq] at hne
   symm
   simp only [decide_eq_false_iff_not]
   rintro rfl
   exact hne rfl
 rename_i he
 go_roundw
 case rel => exact ⟨k + 1, n + _, by omega, by go_num, rfl, CX H1.out H2.out hlt HR.out (by simpa using he)⟩
 simp [intOf]; omega
def marks (k : Int) : Nat → List Int
 | 0 => []
 | n + 1 => k :: marks (k + 1) n
@[simp] theorem adh (k : Int) (n : Nat) : (marks k n).length = n := by induction n generalizing k with
 | zero => rfl
 | succ n ih => simp [marks, ih]
theorem jf (n : Int) (h1 : 0 ≤ n) (h2 : n ≤ 1000000000000) : I64 n := ⟨by omega, by omega⟩
def less (left n : Int) : Int := if left - n < 0 then -1 else left - n
theorem TB (l : List Int) (v : Value) (left : Int) (w : World) (r : Rd w [v] l) (h0 : 0 ≤ left) (h1 : left ≤ 1048576) :
 Calls prog 45 #[v, .int .i64 left] w fun e w' => e = .returned (.int .i64 (less left l.length)) ∧ w = w' := by
 obtain ⟨a, c, rfl, h⟩ := ah r
 have hb := (aN h).2
 unfold maxLen at hb
 clear r h
 by_cases hl : left - l.length < 0
 all_goals
  go_enter func45, ntmps45
  go_wp2
  go_ret
  exact ⟨aU (by unfold less; split <;> omega), rfl⟩
def filled (l : List Int) (i : Nat) : List Int := l.take i ++ List.replicate (l.length - i) 0
theorem wu (l : List Int) (i : Nat) (h : i ≤ l.length) : (filled l i).length = l.length := by simp [filled]; omega
theorem P7 (l : List Int) : filled l 0 = List.replicate l.length 0 := by simp [filled]
theorem TD (l : List Int) : filled l l.length = l := by simp [filled]
theorem P8 (l : List Int) (i : Nat) (h : i < l.length) : (filled l i).set i (l.getD i 0) = filled l (i + 1) := by
 have hl := wu l i (by omega)
 have hl' := wu l (i + 1) (by omega)
 apply List.ext_getElem?
 intro j
 rw [List.getElem?_set]
 by_cases hj : j < l.length
 rotate_left
 · rw [List.getElem?_eq_none (by omega : (filled l (i + 1)).length ≤ j)]
   split
   · omega
   rw [List.getElem?_eq_none (by omega)]
 by_cases hij : i = j
 · subst hij
   rw [if_pos rfl, if_pos (by omega)]
   simp only [filled]
   rw [List.getElem?_append_left (by simp; omega)]
   simp [List.getElem?_take, List.getD, h]
 rw [if_neg hij]
 simp only [filled]
 by_cases hji : j < i
 · rw [List.getElem?_append_left (by simp; omega), List.getElem?_append_left (by simp; omega)]
   simp [List.getElem?_take, hji, show j < i + 1 by omega]
 rw [List.getElem?_append_right (by simp; omega), List.getElem?_append_right (by simp; omega)]
 simp only [List.length_take, List.getElem?_replicate]
 rw [if_pos (by omega), if_pos (by omega)]
theorem agK {w : World} {v : Value} {l : List Int} (r : Rd w [v] l) : ∀ i, i < l.length → I64 (l.getD i 0) := fun i hi => by
 obtain ⟨a, c, _, h⟩ := ah r
 obtain ⟨_, _, _, _, hI⟩ := eF h i hi
 exact hI
theorem TF (l : List Int) (v : Value) (w : World) (r : Rd w [v] l) (hl : l.length ≤ 1073741824) :
 Calls prog 56 #[v] w fun e w' => ∃ v', e = .returned v' ∧ aQ w.heap.size w' [v'] l ∧ Below w.heap.size w w' := by
 have RI := Lib.hid (agK r)
 obtain ⟨a, c, rfl, h⟩ := ah r
 clear r
 generalize hn : l.length = n at *
 have HN := Lib.hid hn
 clear hn
 go_enter func56, ntmps56
 go_wp2_with (at_make; refine bV w rfl _ _ 28 rfl eH (0 : Int) iL n hl rfl rfl ?_)
 intro w1 hown hb1 hs1
 have HO := Lib.hid hown
 have HB := Lib.hid hb1
 have HH := Lib.hid h
 clear hown h hb1
 go_wp2
 go_loopw [4] (fun i wr => ∃ j : Nat, j ≤ n ∧ i = .int .i64 j ∧ aP [w.heap.size] w1 wr ∧ bY [w.heap.size] wr (.slice (some ⟨w.heap.size, 0, none⟩) n n) (filled l j)) (fun i _ => n - (intOf i).toNat)
 case atStart => exact ⟨0, Nat.zero_le _, rfl, aP.refl _ _, by rw [P7, HN.out]; exact HO.out⟩
 obtain ⟨j, hj, rfl, ho, hw⟩ := hrel
 have HOn := Lib.hid ho
 clear ho
 by_cases hlt : j < n
 · have hbr : Below w.heap.size w wr := HB.out.trans (HOn.out.below (by simp))
   obtain ⟨b, o, rfl, hc, _⟩ := eF (aS hbr HH.out) j (by rw [HN.out]; exact hlt)
   have hlen := wu l j (by rw [HN.out]; omega)
   obtain ⟨g, o', c', hv, hps, hcd, hf, hset⟩ := lF hw j (by rw [hlen, HN.out]; exact hlt)
   simp only [Value.slice.injEq, Option.some.injEq, Addr.mk.injEq] at hv
   obtain ⟨⟨rfl, rfl, _⟩, _, rfl⟩ := hv
   have HS := Lib.hid (hset _ (RI.out j hlt))
   rw [P8 _ _ (by rw [HN.out]; exact hlt)] at HS
   rw [Nat.zero_add] at hcd hf HS
   clear hset hw hps hbr hlen
   go_wp2
   go_roundw
   case rel => exact ⟨j + 1, by omega, by go_num, HOn.out.setCell (by simp) _, HS.out⟩
   simp [intOf]; omega
 obtain rfl : j = n := by omega
 have HW := Lib.hid hw
 clear hw
 go_wp2
 go_ret
 refine ⟨_, rfl, ⟨[w.heap.size], ⟨_, rfl, ?_⟩, by simp, by simp⟩, HB.out.trans (HOn.out.below (by simp))⟩
 have := HW.out
 rw [← HN.out, TD] at this
 rw [HN.out] at this
 exact this
section
variable {P : Program} {ops : Array Oper} {Q : Exit → Act → World → Prop} {S : World → Prop}
def Ed (ops : Array Oper) (j : Nat) : List Nat := match ops[j]? with | some o => (o.after.toList.filter (fun e => Region.binds .any e)).map (fun e => e.on) | none => []
def BD (ops : Array Oper) : Nat → Nat → Nat → Bool
 | 0, _, _ => false
 | f + 1, j, i => (Ed ops j).any fun k => k == i || BD ops f k i
def sinkB (ops : Array Oper) (j : Nat) : Bool :=
 (List.range ops.size).all fun k => k == j || BD ops ops.size j k
def Shut (ops : Array Oper) (listed : Array Bool) : Prop := ∀ (k : Nat) (o : Oper), listed.getD k false = true → ops[k]? = some o → ∀ e ∈ o.after, Region.binds .any e = true → listed.getD e.on false = true
theorem Ee {listed : Array Bool} {i k : Nat} (h : listed.getD k false = true) : (listed.setIfInBounds i true).getD k false = true := by
 simp only [Array.getD_eq_getD_getElem?, Array.getElem?_setIfInBounds] at h ⊢
 split
 · split <;> simp_all
 exact h
theorem dR {listed : Array Bool} {i : Nat} (h : Shut ops listed) (hi : i ∈ Region.ready .any ops listed) : Shut ops (listed.setIfInBounds i true) := by
 intro k o hk ho e he hb
 obtain ⟨_, oi, hoi, hall⟩ := mem_ready.1 hi
 by_cases hki : k = i
 · subst hki
   rw [ho] at hoi
   cases hoi
   exact Ee (hall e he hb)
 refine Ee (h k o ?_ ho e he hb)
 rw [getD_set_ne false (Ne.symm hki)] at hk
 exact hk
theorem yg : Shut ops (Array.replicate ops.size false) := by
 intro k o hk
 simp only [Array.getD_eq_getD_getElem?, Array.getElem?_replicate] at hk
 split at hk <;> simp at hk
theorem tq {listed : Array Bool} (h : Shut ops listed) : ∀ (f j i : Nat), (∀ k, k ∈ Ed ops j → listed.getD k false = true) → BD ops f j i = true → listed.getD i false = true
 | 0, _, _, _, hr => by simp [BD] at hr
 | f + 1, j, i, hn, hr => by
  simp only [BD, List.any_eq_true, Bool.or_eq_true, beq_iff_eq] at hr
  obtain ⟨k, hk, hr⟩ := hr
  rcases hr with rfl | hr
  · exact hn k hk
  · refine tq h f k i (fun q hq => ?_) hr
    unfold Ed at hq
    cases ho : ops[k]? with
    | none => rw [ho] at hq; simp at hq
    | some o =>
     rw [ho] at hq
     simp only [List.mem_map, List.mem_filter, Array.mem_toList_iff] at hq
     obtain ⟨e, ⟨he, hb⟩, rfl⟩ := hq
     exact h k o (hn k hk) ho e he hb
def kR (P : Program) (ops : Array Oper) (Q : Exit → Act → World → Prop) (S : World → Prop) : Nat → Array Bool → Act → World → Prop
 | 0, listed, a, w => Region.ready .any ops listed = [] ∧ Q .normal a w
 | fuel + 1, listed, a, w =>
  (Region.ready .any ops listed = [] → Q .normal a w) ∧
  ∀ i ∈ Region.ready .any ops listed, wpOp P ops Q i (fun a' w' => (sinkB ops i = false → S w') ∧ kR P ops Q S fuel (listed.setIfInBounds i true) a' w') a w
theorem yh : ∀ (fuel : Nat) (listed : Array Bool) (a : Act) (w : World), kR P ops Q S fuel listed a w → wpAny P .any ops Q fuel listed a w
 | 0, _, _, _, h => h
 | fuel + 1, _, _, _, h => ⟨h.1, fun i hi => wpOp_mono (fun a' w' h' => yh fuel _ a' w' h'.2) (h.2 i hi)⟩
theorem adi {listed : Array Bool} {i j : Nat} (hcl : Shut ops listed) (hi : i < ops.size) (hir : i ∈ Region.ready .any ops listed) (hjr : j ∈ Region.ready .any ops listed) (hne : j ≠ i) : sinkB ops j = false := by
 cases h : sinkB ops j with
 | false => rfl
 | true =>
  simp only [sinkB, List.all_eq_true, List.mem_range] at h
  have h1 := h i hi
  simp only [Bool.or_eq_true, beq_iff_eq, Ne.symm hne, false_or] at h1
  obtain ⟨_, oj, hoj, hall⟩ := mem_ready.1 hjr
  have h2 := tq hcl _ j i (fun k hk => by
   unfold Ed at hk
   rw [hoj] at hk
   simp only [List.mem_map, List.mem_filter, Array.mem_toList_iff] at hk
   obtain ⟨e, ⟨he, hb⟩, rfl⟩ := hk
   exact hall e he hb) h1
  have h0 := (mem_ready.1 hir).1
  simp only [Array.getD_eq_getD_getElem?] at h0 h2
  cases hl : listed[i]? with
  | none => rw [hl] at h0; simp at h0
  | some b => rw [hl] at h0 h2; simp at h0 h2; rw [h0] at h2; cases h2
theorem yj {i : Nat} {oi : Oper} {v : Value} (hi : ops[i]? = some oi) (hsel : ∀ (j : Nat) (o : Oper) cs b, ops[j]? = some o → o.op ≠ .select cs b)
 (hQ : ∀ c a w, Q (.panic c) (a.put oi.dst v) w → Q (.panic c) a w) :
 ∀ (fuel : Nat) (listed : Array Bool) (a : Act) (w : World), Shut ops listed →
  (∀ j oj, ops[j]? = some oj → j ≠ i → listed.getD j true = false → (∀ e ∈ oj.after, Region.binds .any e = true → e.on ≠ i) → oi.apart ops oj = true) →
  i ∈ Region.ready .any ops listed → YieldsIf P ops S oi v a → S w →
  kR P ops Q S fuel (listed.setIfInBounds i true) (a.put oi.dst v) w → kR P ops Q S (fuel + 1) listed a w := by
 intro fuel
 induction fuel with
 | zero =>
  intro listed a w _ _ hr hy hS H
  refine ⟨fun h => (by rw [h] at hr; cases hr), fun j hj => ?_⟩
  by_cases hji : j = i
  · subst hji; exact hy.wpOp hi hS ⟨fun _ => hS, H⟩
  have := ready_mono hj hji
  rw [H.1] at this
  cases this
 | succ fuel ih =>
  intro listed a w hcl hfree hr hy hS H
  refine ⟨fun h => (by rw [h] at hr; cases hr), fun j hj => ?_⟩
  by_cases hji : j = i
  · subst hji; exact hy.wpOp hi hS ⟨fun _ => hS, H⟩
  have h1 := H.2 j (ready_mono hj hji)
  obtain ⟨hjun, oj, hoj, hall⟩ := mem_ready.1 hj
  have hnot : ∀ e ∈ oj.after, Region.binds .any e = true → e.on ≠ i := fun e he hb heq => by
   have h1 := hall e he hb
   have h0 := (mem_ready.1 hr).1
   rw [heq] at h1
   rcases Nat.lt_or_ge i listed.size with h' | h'
   · simp [h'] at h0 h1; rw [h0] at h1; cases h1
   · simp [Array.getElem?_eq_none h'] at h1
  have hns := adi hcl (Array.getElem?_eq_some_iff.1 hi).1 hr hj hji
  have h2 := wpOp_putIf hoj (hfree j oj hoj hji hjun hnot) (fun cs b => hsel i oi cs b hi) (fun cs b => hsel j oj cs b hoj) hQ hy h1
  have hfree' : ∀ k ok, ops[k]? = some ok → k ≠ i → (listed.setIfInBounds j true).getD k true = false →
   (∀ e ∈ ok.after, Region.binds .any e = true → e.on ≠ i) → oi.apart ops ok = true := fun k ok hk hki hun hno => by
   refine hfree k ok hk hki ?_ hno
   by_cases hjk : j = k
   · subst hjk; exact hjun
   · rw [getD_set_ne true hjk] at hun; exact hun
  refine wpOp_mono (fun a' w' h3 => ⟨fun _ => h3.2.1 hns, ih (listed.setIfInBounds j true) a' w' (dR hcl hj) hfree' (ready_mono hr (Ne.symm hji)) h3.1 (h3.2.1 hns) ?_⟩) h2
  rw [Array.setIfInBounds_comm _ _ hji]
  exact h3.2.2
def rH (P : Program) (ops : Array Oper) (Q : Exit → Act → World → Prop) (S : World → Prop) : List (Nat × Nat) → Act → World → Prop
 | [], a, w => Q .normal a w
 | (i, 0) :: rest, a, w => ∃ o v, ops[i]? = some o ∧ YieldsIf P ops S o v a ∧ rH P ops Q S rest (a.put o.dst v) w
 | (i, 1) :: rest, a, w => wpOp P ops Q i (fun a' w' => S w' ∧ rH P ops Q S rest a' w') a w
 | (i, _) :: rest, a, w => wpOp P ops Q i (rH P ops Q S rest) a w
def Bd (ops : Array Oper) : Array Bool → List (Nat × Nat) → Bool
 | listed, [] => (Region.ready .any ops listed).isEmpty
 | listed, (i, 0) :: rest => (Region.ready .any ops listed).contains i && Region.free .any ops listed i && Bd ops (listed.setIfInBounds i true) rest
 | listed, (i, 1) :: rest => (Region.ready .any ops listed) == [i] && Bd ops (listed.setIfInBounds i true) rest
 | listed, (i, _) :: rest => (Region.ready .any ops listed) == [i] && sinkB ops i && rest.all (fun x => x.2 != 0 && x.2 != 1) && Bd ops (listed.setIfInBounds i true) rest
theorem Nv (hsel : Region.noSelect ops = true) (hQ : ∀ c a d v w, Q (.panic c) (a.put d v) w → Q (.panic c) a w) :
 ∀ (π : List (Nat × Nat)) (listed : Array Bool) (a : Act) (w : World), Shut ops listed → Bd ops listed π = true → (π.all (fun x => x.2 != 0 && x.2 != 1) = false → S w) →
  rH P ops Q S π a w → kR P ops Q S π.length listed a w := by
 intro π
 induction π with
 | nil => intro listed a w _ hp _ h; exact ⟨by simpa [Bd] using hp, h⟩
 | cons x rest ih =>
  obtain ⟨i, k⟩ := x
  intro listed a w hcl hp hS h
  match k with
  | 0 =>
   simp only [Bd, Bool.and_eq_true] at hp
   obtain ⟨o, v, ho, hy, hr⟩ := h
   have hSw : S w := hS (by simp)
   refine yj ho (Region.noSelect_spec hsel) (fun c a w h => hQ c a _ _ w h) _ listed a w hcl (Region.free_spec ho hp.1.2) (by simpa using hp.1.1) hy hSw ?_
   exact ih _ _ _ (dR hcl (by simpa using hp.1.1)) hp.2 (fun _ => hSw) hr
  | 1 =>
   simp only [Bd, Bool.and_eq_true, beq_iff_eq] at hp
   have h : wpOp P ops Q i (fun a' w' => S w' ∧ rH P ops Q S rest a' w') a w := h
   refine ⟨fun h0 => (by rw [hp.1] at h0; cases h0), fun j hj => ?_⟩
   have hj0 := hj
   rw [hp.1] at hj
   obtain rfl : j = i := by simpa using hj
   exact wpOp_mono (fun a' w' h' => ⟨fun _ => h'.1, ih _ _ _ (dR hcl hj0) hp.2 (fun _ => h'.1) h'.2⟩) h
  | n + 2 =>
   simp only [Bd, Bool.and_eq_true, beq_iff_eq] at hp
   have h : wpOp P ops Q i (rH P ops Q S rest) a w := h
   refine ⟨fun h0 => (by rw [hp.1.1.1] at h0; cases h0), fun j hj => ?_⟩
   have hj0 := hj
   rw [hp.1.1.1] at hj
   obtain rfl : j = i := by simpa using hj
   exact wpOp_mono (fun a' w' h' => ⟨fun hs => (by rw [hp.1.1.2] at hs; cases hs), ih _ _ _ (dR hcl hj0) hp.2 (fun hall => by rw [hp.1.2] at hall; cases hall) h'⟩) h
theorem Nw {id : Nat} {a : Act} {w : World} (S : World → Prop) (π : List (Nat × Nat)) (hm : P.follows .mixedOrders = true) (hsel : Region.noSelect ops = true)
 (hp : Bd ops (Array.replicate ops.size false) π = true) (hl : π.length = ops.size) (hS : S w.drew)
 (hQ : ∀ c a d v w, Q (.panic c) (a.put d v) w → Q (.panic c) a w) (h : rH P ops Q S π a w.drew) : (Code.region id ops true).wp P Q a w := by
 refine wp_region_any hm (yh _ _ _ _ (?_ : kR P ops Q S ops.size (Array.replicate ops.size false) a w.drew))
 have := Nv hsel hQ π _ a w.drew yg hp (fun _ => hS) h
 rw [hl] at this
 exact this
theorem agL {a : Act} {w : World} (h : Q .normal a w) : rH P ops Q S [] a w := h
variable {i : Nat} {dst : Option Tmp} {op : Op} {ty : TypeId} {pos : String} {after : Array Edge} {guard : Option (Nat × Bool)} {rest : List (Nat × Nat)} {a : Act} {w : World}
theorem Zf {v : Value} (ho : ops[i]? = some ⟨dst, op, ty, pos, after, guard⟩) (hw : Region.wanted ⟨dst, op, ty, pos, after, guard⟩ (yielded ops a.tmps) = true)
 (hy : ∀ w', S w' → (execOp a.eval ⟨dst, op, ty, pos, after, guard⟩).run P w' = .ok (.value v) w') (h : rH P ops Q S rest (a.put dst v) w) : rH P ops Q S ((i, 0) :: rest) a w :=
 ⟨_, v, ho, .inl ⟨hw, hy⟩, h⟩
theorem adk (ho : ops[i]? = some ⟨dst, op, ty, pos, after, guard⟩) (hw : Region.wanted ⟨dst, op, ty, pos, after, guard⟩ (yielded ops a.tmps) = false)
 (h : rH P ops Q S rest (a.put dst undef) w) : rH P ops Q S ((i, 0) :: rest) a w :=
 ⟨_, undef, ho, .inr ⟨hw, rfl⟩, h⟩
theorem adl (ho : ops[i]? = some ⟨dst, op, ty, pos, after, guard⟩) (hw : Region.wanted ⟨dst, op, ty, pos, after, guard⟩ (yielded ops a.tmps) = true)
 (h : ∀ K : Act → World → Prop, (∀ a w, S w ∧ rH P ops Q S rest a w → K a w) → Oper.wp P ⟨dst, op, ty, pos, after, guard⟩ a w K Q) : rH P ops Q S ((i, 1) :: rest) a w := by
 show wpOp P ops Q i _ a w
 unfold wpOp
 simp only [ho]
 rw [if_pos hw]
 exact .inl (h _ (fun _ _ h => h))
theorem adn (ho : ops[i]? = some ⟨dst, op, ty, pos, after, guard⟩) (hw : Region.wanted ⟨dst, op, ty, pos, after, guard⟩ (yielded ops a.tmps) = true)
 (h : ∀ K : Act → World → Prop, (∀ a w, rH P ops Q S rest a w → K a w) → Oper.wp P ⟨dst, op, ty, pos, after, guard⟩ a w K Q) : rH P ops Q S ((i, 2) :: rest) a w := by
 show wpOp P ops Q i _ a w
 unfold wpOp
 simp only [ho]
 rw [if_pos hw]
 exact .inl (h _ (fun _ _ h => h))
end
theorem Ht {α : Type} [Rep α] {ps : List Nat} {w : World} {v : Value} {l : List α} (h : bY ps w v l) (hn : ps.Nodup) (j : Nat) (hj : j < l.length) :
 ∃ g o c cur e p vs, v = .slice (some ⟨g, o, none⟩) l.length c ∧ w.heap[g]? = some (.cells cur e (0, 0)) ∧ Own p w vs l[j] ∧ (∀ k, k < vs.length → cur[o + j * sz α + k]? = vs[k]?) ∧
  g ∈ ps ∧ g ∉ p ∧ p.Nodup ∧ (∀ k, k ∈ p → k ∈ ps) ∧
  ∀ (w' : World) (vs' : List Value) (y : α), w'.heap[g]? = some (.cells (kQ cur (o + j * sz α) vs') e (0, 0)) → Own p w' vs' y → (∀ k, k ∈ ps → k ∉ p → k ≠ g → w'.heap[k]? = w.heap[k]?) → bY ps w' v (l.set j y) := by
 rcases h with ⟨rfl, _⟩ | ⟨g, o, c, cur, e, cZ, rfl, h1, h2, h3, rfl, h5, h6⟩
 · exact absurd hj (Nat.not_lt_zero _)
 obtain ⟨p, vs, hp, hO, hc⟩ := h6 j hj
 have hjp : j < cZ.length := by omega
 have hpj : cZ[j] = p := by rw [List.getElem?_eq_getElem hjp] at hp; simpa using hp
 have hwhole : cZ = cZ.take j ++ p :: cZ.drop (j + 1) := by
  conv => lhs; rw [← List.take_append_drop j cZ, List.drop_eq_getElem_cons hjp, hpj]
 have hmem : ∀ k, k ∈ p → k ∈ List.flatten cZ := fun k hk => List.mem_flatten.2 ⟨p, List.mem_of_getElem? hp, hk⟩
 have hgn := (List.nodup_cons.1 hn).1
 have hfn := (List.nodup_cons.1 hn).2
 have hdis : ∀ i q, i ≠ j → cZ[i]? = some q → ∀ k, k ∈ q → k ∉ p := by
  intro i q hij hq k hk hkp
  rw [hwhole, List.flatten_append, List.flatten_cons] at hfn
  simp only [List.nodup_append, List.mem_append] at hfn
  obtain ⟨_, ⟨_, _, n3⟩, n4⟩ := hfn
  rcases Nat.lt_or_gt_of_ne hij with hlt | hlt
  · refine n4 k (List.mem_flatten.2 ⟨q, ?_, hk⟩) k (.inl hkp) rfl
    refine List.mem_iff_getElem?.2 ⟨i, ?_⟩
    rw [List.getElem?_take_of_lt hlt]; exact hq
  refine n3 k hkp k (List.mem_flatten.2 ⟨q, ?_, hk⟩) rfl
  refine List.mem_iff_getElem?.2 ⟨i - (j + 1), ?_⟩
  rw [List.getElem?_drop, show j + 1 + (i - (j + 1)) = i by omega]; exact hq
 refine ⟨g, o, c, cur, e, p, vs, rfl, h3, hO, hc, by simp, fun hk => hgn (hmem g hk), ?_, fun k hk => List.mem_cons_of_mem _ (hmem k hk), ?_⟩
 · rw [hwhole, List.flatten_append, List.flatten_cons] at hfn
   simp only [List.nodup_append] at hfn
   exact hfn.2.1.1
 intro w' vs' y hg hy hk
 have apq := Rep.dI (Rep.bP hy)
 have hvl := Rep.dI (Rep.bP hO)
 refine .inr ⟨g, o, c, _, e, cZ, by simp, by simpa using h1, h2, hg, rfl, by simpa using h5, fun i hi => ?_⟩
 simp only [List.length_set] at hi
 by_cases hij : j = i
 · subst hij
   refine ⟨p, vs', hp, by simpa using hy, fun k hk' => oM vs' _ k cur hk' ?_⟩
   have := hc k (by omega)
   rw [List.getElem?_eq_getElem (by omega)] at this
   exact (Array.getElem?_eq_some_iff.1 this).1
 obtain ⟨q, us, hq, hOq, hcq⟩ := h6 i hi
 have Zc := Rep.dI (Rep.bP hOq)
 refine ⟨q, us, hq, ?_, fun k hk' => ?_⟩
 · simp only [List.getElem_set_ne hij]
   refine Rep.dY (fun k hkq => hk k (List.mem_cons_of_mem _ (List.mem_flatten.2 ⟨q, List.mem_of_getElem? hq, hkq⟩)) (hdis i q (Ne.symm hij) hq k hkq) ?_) hOq
   rintro rfl
   exact hgn (List.mem_flatten.2 ⟨q, List.mem_of_getElem? hq, hkq⟩)
 rw [jX]
 · exact hcq k hk'
 have hks : k < sz α := by omega
 rcases Nat.lt_or_gt_of_ne hij with hlt | hlt
 · right
   have : (j + 1) * sz α ≤ i * sz α := Nat.mul_le_mul_right _ hlt
   rw [Nat.add_mul] at this
   omega
 left
 have := Eb (s := sz α) hlt hks
 omega
theorem Hu {lo hi : Nat} {w : World} {v : Value} {l : List Int} (h : Iv lo hi w [v] l) (i : Nat) (hi' : i < l.length) :
 ∃ g o c, v = .slice (some ⟨g, o, none⟩) l.length c ∧ lo ≤ g ∧ g < hi ∧ w.cell? ⟨g, o + i, none⟩ = some (.int .i64 l[i]) ∧ w.frozen? ⟨g, o + i, none⟩ = false ∧ I64 l[i] ∧
  ∀ x, I64 x → Iv lo hi (w.setCell ⟨g, o + i, none⟩ (.int .i64 x)) [v] (l.set i x) := by
 obtain ⟨ps, h1, h2, h3⟩ := h
 have hI := (eF (ah (Rep.bP h1)).choose_spec.choose_spec.2 i hi').choose_spec.choose_spec.2.2
 obtain ⟨g, o, c, hv, hps, hc, hf, hs⟩ := lF (jS h1) i hi'
 have e : l.getD i 0 = l[i] := by simp [List.getD, hi']
 rw [e] at hc hI
 have hg := h3 g (by rw [hps]; simp)
 exact ⟨g, o, c, hv, hg.1, hg.2, hc, hf, hI, fun x hx => ⟨ps, ⟨v, rfl, hs x hx⟩, h2, h3⟩⟩
theorem oN {ps : List Nat} {w : World} {v : Value} {l : List Int} (h : bY ps w v l) (i : Nat) (hi : i < l.length) :
 ∃ g o c, v = .slice (some ⟨g, o, none⟩) l.length c ∧ ps = [g] ∧ w.cell? ⟨g, o + i, none⟩ = some (.int .i64 l[i]) ∧ w.frozen? ⟨g, o + i, none⟩ = false ∧ I64 l[i] ∧
  ∀ x, I64 x → bY ps (w.setCell ⟨g, o + i, none⟩ (.int .i64 x)) v (l.set i x) := by
 have hI := (eF (ah (Rep.bP (ps := ps) ⟨v, rfl, h⟩)).choose_spec.choose_spec.2 i hi).choose_spec.choose_spec.2.2
 obtain ⟨g, o, c, hv, hps, hc, hf, hs⟩ := lF h i hi
 have e : l.getD i 0 = l[i] := by simp [List.getD, hi]
 rw [e] at hc hI
 exact ⟨g, o, c, hv, hps, hc, hf, hI, hs⟩
theorem dZ {α : Type} [Rep α] {ps qs : List Nat} {w w' : World} {v : Value} {l : List α} (h : bY ps w v l) (hb : aP qs w w') (hd : ∀ k, k ∈ ps → k ∉ qs) : bY ps w' v l := by
 have h2 : Own ps w [v] l := ⟨v, rfl, h⟩
 exact jS (Own.only h2 hb hd)
theorem bK {α : Type} [Rep α] {ps : List Nat} {w w' : World} {v : Value} {l : List α} (h : bY ps w v l) (hb : Below w.heap.size w w') : bY ps w' v l := by
 have h2 : Own ps w [v] l := ⟨v, rfl, h⟩
 exact jS (Own.mono h2 hb)
theorem jg {α : Type} [Rep α] {ps : List Nat} {w w' : World} {v : Value} {l : List α} (h : bY ps w v l) (hb : w'.heap = w.heap) : bY ps w' v l := by
 have h2 : Own ps w [v] l := ⟨v, rfl, h⟩
 exact jS (Rep.dY (fun k _ => by rw [hb]) h2)
theorem aI {w : World} {a : Option Addr} {n c : Nat} {l : List Int} (h : Rd w [.slice a n c] l) (i : Nat) (hi : i < l.length) :
 ∃ b o, a = some ⟨b, o, none⟩ ∧ w.cell? ⟨b, o + i, none⟩ = some (.int .i64 l[i]) ∧ I64 l[i] := by
 obtain ⟨a', c', e, h⟩ := ah h
 simp only [Value.slice.injEq] at e
 obtain ⟨rfl, rfl, rfl⟩ := e
 obtain ⟨b, o, rfl, hc, hI⟩ := eF h i hi
 have e : l.getD i 0 = l[i] := by simp [List.getD, hi]
 rw [e] at hc hI
 exact ⟨b, o, rfl, hc, hI⟩
theorem dL {α : Type} [Rep α] (hα : sz α = 2) {w : World} {a : Option Addr} {n c : Nat} {l : List α} (h : Rd w [.slice a n c] l) (i : Nat) (hi : i < l.length) :
 ∃ b o v0 v1, a = some ⟨b, o, none⟩ ∧ w.cell? ⟨b, o + i * 2, none⟩ = some v0 ∧ w.cell? ⟨b, o + i * 2 + 1, none⟩ = some v1 ∧ Rd w [v0, v1] l[i] := by
 obtain ⟨a', c', e, h⟩ := ah h
 simp only [Value.slice.injEq] at e
 obtain ⟨rfl, rfl, rfl⟩ := e
 exact dP hα h i hi
theorem zF {α : Type} [Rep α] (hα : sz α = 3) {w : World} {a : Option Addr} {n c : Nat} {l : List α} (h : Rd w [.slice a n c] l) (i : Nat) (hi : i < l.length) :
 ∃ b o v0 v1 v2, a = some ⟨b, o, none⟩ ∧ w.cell? ⟨b, o + i * 3, none⟩ = some v0 ∧ w.cell? ⟨b, o + i * 3 + 1, none⟩ = some v1 ∧ w.cell? ⟨b, o + i * 3 + 2, none⟩ = some v2 ∧ Rd w [v0, v1, v2] l[i] := by
 obtain ⟨a', c', e, h⟩ := ah h
 simp only [Value.slice.injEq] at e
 obtain ⟨rfl, rfl, rfl⟩ := e
 exact gU hα h i hi
theorem oO {a b p k : Int} (ha : 0 ≤ a ∧ a < p) (hb : 0 ≤ b ∧ b < p) (hp : p ≤ 3) (hk0 : 0 ≤ k) (hk : k ≤ 100) : 0 ≤ k * b ∧ k * b ≤ 200 := by
 have : b = 0 ∨ b = 1 ∨ b = 2 := by omega
 rcases this with rfl | rfl | rfl <;> omega
theorem Iv.uy {α : Type} [Rep α] {lo hi : Nat} {w : World} {vs : List Value} {x : α} (h : Iv lo hi w vs x) {a : Addr} (ha : a.block < lo ∨ hi ≤ a.block) (u : Value) : Iv lo hi (w.setCell a u) vs x :=
 h.frame (fun k hk hk' => Below.heap_setCell _ _ _ _ (by omega))
def mD (f : Int → Int → Int) (l m : List Int) (i : Nat) : List Int := List.zipWith f (l.take i) (m.take i) ++ l.drop i
theorem gG (f : Int → Int → Int) (l m : List Int) (i : Nat) (h1 : i ≤ l.length) (h2 : i ≤ m.length) : (mD f l m i).length = l.length := by simp [mD]; omega
theorem qE (f : Int → Int → Int) (l m : List Int) : mD f l m 0 = l := by simp [mD]
theorem uf (f : Int → Int → Int) (l m : List Int) (i : Nat) (h1 : i < l.length) (h2 : i ≤ m.length) (h3 : i < (mD f l m i).length) : (mD f l m i)[i] = l[i] := by
 simp only [mD]
 rw [List.getElem_append_right (by simp; omega)]
 simp only [List.getElem_drop, List.length_zipWith, List.length_take]
 congr 1
 omega
theorem qF (f : Int → Int → Int) (l m : List Int) (i : Nat) (h1 : i < l.length) (h2 : i < m.length) : (mD f l m i).set i (f l[i] m[i]) = mD f l m (i + 1) := by
 simp only [mD]
 have e : (List.zipWith f (l.take i) (m.take i)).length = i := by simp; omega
 rw [List.set_append_right _ _ (by omega), e, Nat.sub_self, List.drop_eq_getElem_cons h1, sZ, List.take_succ_eq_append_getElem h1, List.take_succ_eq_append_getElem h2, List.zipWith_append (by simp; omega), List.append_assoc]
 rfl
theorem Ak (f : Int → Int → Int) (l m : List Int) (h : l.length ≤ m.length) : mD f l m l.length = List.zipWith f l m := by
 simp only [mD, List.take_length, List.drop_length, List.append_nil]
 apply List.ext_getElem?
 intro i
 simp only [List.getElem?_zipWith, List.getElem?_take]
 by_cases hi : i < l.length
 · simp [hi]
 simp [hi]
theorem Hw (f : Int → Int → Int) (l m : List Int) : mD f l m m.length = List.zipWith f l m ++ l.drop m.length := by
 simp only [mD, List.take_length]
 congr 1
 apply List.ext_getElem?
 intro i
 simp only [List.getElem?_zipWith, List.getElem?_take]
 by_cases hi : i < m.length
 · simp [hi]
 rw [if_neg hi, List.getElem?_eq_none (by omega : m.length ≤ i)]
 cases l[i]? <;> rfl
def wz (p : Int) (l : List Int) : Prop := ∀ a, a ∈ l → 0 ≤ a ∧ a < p
theorem wz.get {p : Int} {l : List Int} (h : wz p l) (i : Nat) (hi : i < l.length) : 0 ≤ l[i] ∧ l[i] < p := h _ (List.getElem_mem hi)
theorem wz.i64 {p : Int} {l : List Int} (h : wz p l) (hp : p ≤ 1000) (i : Nat) (hi : i < l.length) : I64 l[i] := ⟨by have := h.get i hi; omega, by have := h.get i hi; omega⟩
def iM (l : List Int) : List Value := l.map (Value.int .i64)
theorem flat_nil (n : Nat) : List.flatten (List.replicate n ([] : List Nat)) = [] := by induction n with
 | zero => rfl
 | succ n ih => simp [List.replicate_succ, ih]
theorem rJ {B H : Nat} {e : TypeId} {w : World} {v : Value} {l : List Int} (h : w.ownsRow B e 1 v l.length (iM l)) (hb : ∀ g, v.ownBlock = some g → B ≤ g ∧ g < H) (hi : ∀ a, a ∈ l → I64 a) : Acc B H e w v l := by
 refine ⟨iM l, List.replicate l.length [], h, by simp, ?_, ?_, fun i hil => ⟨[], [.int .i64 l[i]], by simp [hil], ⟨rfl, rfl, hi _ (List.getElem_mem hil)⟩, fun k hk => ?_⟩⟩
 · rw [flat_nil, List.append_nil]; cases v.ownBlock <;> simp
 · rw [flat_nil, List.append_nil]; intro k hk; exact hb k (by simpa using hk)
 obtain rfl : k = 0 := by simpa using hk
 show (iM l)[i * 1 + 0]? = _
 simp [iM, hil]
theorem tu {B H : Nat} {e : TypeId} {w : World} {v : Value} {l : List Int} (h : Acc B H e w v l) : w.ownsRow B e 1 v l.length (iM l) ∧ (∀ g, v.ownBlock = some g → B ≤ g ∧ g < H) ∧ ∀ a, a ∈ l → I64 a := by
 obtain ⟨xs, cZ, h1, h2, h3, h4, h5⟩ := h
 have hx : xs = iM l := by
  apply List.ext_getElem?
  intro i
  by_cases hi : i < l.length
  · obtain ⟨p, vs, _, hO, hc⟩ := h5 i hi
    obtain ⟨_, rfl, _⟩ := hO
    have := hc 0 (by simp)
    rw [show i * sz Int + 0 = i from Nat.mul_one i] at this
    rw [this]; simp [iM, hi]
  have e1 : xs.length = l.length * 1 := h1.1
  rw [List.getElem?_eq_none (by omega), List.getElem?_eq_none (by simp [iM]; omega)]
 subst hx
 refine ⟨h1, fun g hg => h4 g (by simp [hg]), fun a ha => ?_⟩
 obtain ⟨i, hi, rfl⟩ := List.getElem_of_mem ha
 obtain ⟨p, vs, _, hO, _⟩ := h5 i hi
 exact hO.2.2
theorem FT {P : Program} (w : World) (t ty e : TypeId) {z : Value} {bytes : Nat} (E : iK P t e Int z bytes) {B H : Nat} {v : Value} {l ns : List Int} (hacc : Acc B H e w v l) (Y8 : B ≤ H) (hH : H ≤ w.heap.size)
 (ad : Addr) (c : Nat) (hnews : ∀ j u, (iM ns)[j]? = some u → w.cell? (ad.add j) = some u) (hI : ∀ a, a ∈ ns → I64 a) (hlen : l.length + ns.length ≤ 1073741824) :
 ∃ v' w', (Builtin.append_ #[t, t] ty #[v, .slice (some ad) ns.length c]).run P w = .ok v' w' ∧ Acc B w'.heap.size e w' v' (l ++ ns) ∧ Below B w w' ∧ (∀ k, H ≤ k → k < w.heap.size → w'.heap[k]? = w.heap[k]?) := by
 obtain ⟨i, hi, hz, hs, hb⟩ := E.info
 obtain ⟨h1, h4, hIl⟩ := tu hacc
 have hbytes : (l.length + ns.length) * bytes ≤ 140737488355328 := by
  have h1 := E.small
  calc (l.length + ns.length) * bytes ≤ 1073741824 * 1000 := Nat.mul_le_mul hlen h1
   _ ≤ _ := by decide
 have hm : l.length + ns.length ≤ maxLen := by unfold maxLen; omega
 obtain ⟨v', w', hr, ho, hg, _, hat⟩ := run_append_own_at (P := P) w B t ty e i z (sz Int) bytes E.und hi hz hs hb E.zs E.pos v l.length (iM l) h1 ad ns.length c (iM ns) (by simp [iM]) hnews (by intro u hu; simp [iM] at hu; obtain ⟨a, _, rfl⟩ := hu; rfl) hm hbytes (by omega)
 refine ⟨v', w', hr, rJ (by simpa [iM] using ho) (fun g hgv => ?_) (fun a ha => ?_), grownBy_below hg (by omega) (fun k hk => (h4 k hk).1), fun k hk hkw => hg.block k hkw (fun e => by have := (h4 k e.symm).2; omega)⟩
 · exact ho.lt g hgv
 rcases List.mem_append.1 ha with ha | ha
 · exact hIl a ha
 exact hI a ha
theorem Hy {P : Program} (w : World) {o : Oper} {a : Act} {K : Act → World → Prop} {Q : Exit → Act → World → Prop} (s x : Operand) (t : TypeId)
 (ho : o.op = .call { callee := .builtin .append, args := #[s, x], argTypes := #[t, t] }) {e : TypeId} {z : Value} {bytes : Nat} (E : iK P t e Int z bytes) {B H : Nat} {v : Value} {l ns : List Int}
 (hs : a.eval s = v) (hacc : Acc B H e w v l) (Y8 : B ≤ H) (hH : H ≤ w.heap.size) (ad : Addr) (c : Nat) (hx : a.eval x = .slice (some ad) ns.length c) (hnews : ∀ j u, (iM ns)[j]? = some u → w.cell? (ad.add j) = some u) (hI : ∀ a, a ∈ ns → I64 a) (hlen : l.length + ns.length ≤ 1073741824)
 (h : ∀ a' c' w', Acc B w'.heap.size e w' (.slice a' (l.length + ns.length) c') (l ++ ns) → Below B w w' → (∀ k, H ≤ k → k < w.heap.size → w'.heap[k]? = w.heap[k]?) → K (a.put o.dst (.slice a' (l.length + ns.length) c')) w') : o.wp P a w K Q := by
 obtain ⟨v', w', hr, h2, h3, h4⟩ := FT (P := P) w t o.type e E hacc Y8 hH ad c hnews hI hlen
 obtain ⟨a', c', rfl, _⟩ := h2.len
 simp only [List.length_append] at h2 hr
 unfold Oper.wp execOp
 simp only [ho, resolve, invoke, builtin, Sem.run_bind, Sem.run_pure, Result.andThen_ok, List.map_toArray, List.map_cons, List.map_nil, hs, hx, hr]
 exact h a' c' w' h2 h3 h4
theorem dS {P : Program} (w : World) {ops : Array Oper} {rest : List Oper} {o : Oper} {a : Act} {Q : Exit → Act → World → Prop} (hgd : o.guard = none) (s x : Operand) (t : TypeId)
 (ho : o.op = .call { callee := .builtin .append, args := #[s, x], argTypes := #[t, t] }) {e : TypeId} {z : Value} {bytes : Nat} (E : iK P t e Int z bytes) {B H : Nat} {v : Value} {l ns : List Int}
 (hs : a.eval s = v) (hacc : Acc B H e w v l) (Y8 : B ≤ H) (hH : H ≤ w.heap.size) (ad : Addr) (c : Nat) (hx : a.eval x = .slice (some ad) ns.length c) (hnews : ∀ j u, (iM ns)[j]? = some u → w.cell? (ad.add j) = some u) (hI : ∀ a, a ∈ ns → I64 a) (hlen : l.length + ns.length ≤ 1073741824)
 (h : ∀ a' c' w', Acc B w'.heap.size e w' (.slice a' (l.length + ns.length) c') (l ++ ns) → Below B w w' → (∀ k, H ≤ k → k < w.heap.size → w'.heap[k]? = w.heap[k]?) → wpList P ops Q rest (a.put o.dst (.slice a' (l.length + ns.length) c')) w') : wpList P ops Q (o :: rest) a w :=
 wpList_plain hgd fun _ hK => Hy w s x t ho E hs hacc Y8 hH ad c hx hnews hI hlen fun a' c' w' h2 h3 h4 => hK _ _ (h a' c' w' h2 h3 h4)
inductive Plan where
 | nil
 | float (i : Nat) (r : Plan)
 | hard (i : Nat) (r : Plan)
 | last (i : Nat) (r : Plan)
 | mF (i : Nat) (ri : Plan) (j : Nat) (rj : Plan)
 | zG (i : Nat) (ri : Plan) (j : Nat) (rj : Plan) (k : Nat) (rk : Plan)
def Plan.len : Plan → Nat
 | .nil => 0
 | .float _ r => r.len + 1
 | .hard _ r => r.len + 1
 | .last _ r => r.len + 1
 | .mF _ r _ _ => r.len + 1
 | .zG _ r _ _ _ _ => r.len + 1
def Plan.free : Plan → Bool
 | .nil => true
 | .last _ r => r.free
 | _ => false
section
variable {P : Program} {ops : Array Oper} {Q : Exit → Act → World → Prop} {S : World → Prop}
def eP (P : Program) (ops : Array Oper) (Q : Exit → Act → World → Prop) (S : World → Prop) : Plan → Act → World → Prop
 | .nil, a, w => Q .normal a w
 | .float i r, a, w => ∃ o v, ops[i]? = some o ∧ YieldsIf P ops S o v a ∧ eP P ops Q S r (a.put o.dst v) w
 | .hard i r, a, w => wpOp P ops Q i (fun a' w' => S w' ∧ eP P ops Q S r a' w') a w
 | .last i r, a, w => wpOp P ops Q i (eP P ops Q S r) a w
 | .mF i ri j rj, a, w => wpOp P ops Q i (fun a' w' => S w' ∧ eP P ops Q S ri a' w') a w ∧ wpOp P ops Q j (fun a' w' => S w' ∧ eP P ops Q S rj a' w') a w
 | .zG i ri j rj k rk, a, w => wpOp P ops Q i (fun a' w' => S w' ∧ eP P ops Q S ri a' w') a w ∧ wpOp P ops Q j (fun a' w' => S w' ∧ eP P ops Q S rj a' w') a w ∧ wpOp P ops Q k (fun a' w' => S w' ∧ eP P ops Q S rk a' w') a w
def rM (ops : Array Oper) : Array Bool → Plan → Bool
 | listed, .nil => (Region.ready .any ops listed).isEmpty
 | listed, .float i r => (Region.ready .any ops listed).contains i && Region.free .any ops listed i && rM ops (listed.setIfInBounds i true) r
 | listed, .hard i r => (Region.ready .any ops listed) == [i] && rM ops (listed.setIfInBounds i true) r
 | listed, .last i r => (Region.ready .any ops listed) == [i] && sinkB ops i && r.free && rM ops (listed.setIfInBounds i true) r
 | listed, .mF i ri j rj => (Region.ready .any ops listed) == [i, j] && ri.len == rj.len && rM ops (listed.setIfInBounds i true) ri && rM ops (listed.setIfInBounds j true) rj
 | listed, .zG i ri j rj k rk => (Region.ready .any ops listed) == [i, j, k] && ri.len == rj.len && ri.len == rk.len && rM ops (listed.setIfInBounds i true) ri && rM ops (listed.setIfInBounds j true) rj && rM ops (listed.setIfInBounds k true) rk
theorem iy (hsel : Region.noSelect ops = true) (hQ : ∀ c a d v w, Q (.panic c) (a.put d v) w → Q (.panic c) a w) :
 ∀ (π : Plan) (listed : Array Bool) (a : Act) (w : World), Shut ops listed → rM ops listed π = true → (π.free = false → S w) →
  eP P ops Q S π a w → kR P ops Q S π.len listed a w
 | .nil, listed, a, w, hcl, hp, _, h => ⟨by simpa [rM] using hp, h⟩
 | .float i r, listed, a, w, hcl, hp, hS, h => by
  simp only [rM, Bool.and_eq_true] at hp
  obtain ⟨o, v, ho, hy, hr⟩ := h
  have hSw : S w := hS rfl
  refine yj ho (Region.noSelect_spec hsel) (fun c a w h => hQ c a _ _ w h) _ listed a w hcl (Region.free_spec ho hp.1.2) (by simpa using hp.1.1) hy hSw ?_
  exact iy hsel hQ r _ _ _ (dR hcl (by simpa using hp.1.1)) hp.2 (fun _ => hSw) hr
 | .hard i r, listed, a, w, hcl, hp, hS, h => by
  simp only [rM, Bool.and_eq_true, beq_iff_eq] at hp
  refine ⟨fun h0 => (by rw [hp.1] at h0; cases h0), fun j hj => ?_⟩
  have hj0 := hj
  rw [hp.1] at hj
  obtain rfl : j = i := by simpa using hj
  exact wpOp_mono (fun a' w' h' => ⟨fun _ => h'.1, iy hsel hQ r _ _ _ (dR hcl hj0) hp.2 (fun _ => h'.1) h'.2⟩) h
 | .last i r, listed, a, w, hcl, hp, hS, h => by
  simp only [rM, Bool.and_eq_true, beq_iff_eq] at hp
  refine ⟨fun h0 => (by rw [hp.1.1.1] at h0; cases h0), fun j hj => ?_⟩
  have hj0 := hj
  rw [hp.1.1.1] at hj
  obtain rfl : j = i := by simpa using hj
  exact wpOp_mono (fun a' w' h' => ⟨fun hs => (by rw [hp.1.1.2] at hs; cases hs), iy hsel hQ r _ _ _ (dR hcl hj0) hp.2 (fun hall => by rw [hp.1.2] at hall; cases hall) h'⟩) h
 | .mF i ri j rj, listed, a, w, hcl, hp, hS, h => by
  simp only [rM, Bool.and_eq_true, beq_iff_eq] at hp
  obtain ⟨⟨⟨h1, h2⟩, h3⟩, h4⟩ := hp
  obtain ⟨k1, k2⟩ := h
  refine ⟨fun h0 => (by rw [h1] at h0; cases h0), fun z hz => ?_⟩
  have hz0 := hz
  rw [h1] at hz
  simp only [List.mem_cons, List.not_mem_nil, or_false] at hz
  rcases hz with rfl | rfl
  · exact wpOp_mono (fun a' w' h' => ⟨fun _ => h'.1, iy hsel hQ ri _ _ _ (dR hcl hz0) h3 (fun _ => h'.1) h'.2⟩) k1
  · exact wpOp_mono (fun a' w' h' => ⟨fun _ => h'.1, by show kR P ops Q S ri.len _ _ _; rw [h2]; exact iy hsel hQ rj _ _ _ (dR hcl hz0) h4 (fun _ => h'.1) h'.2⟩) k2
 | .zG i ri j rj k rk, listed, a, w, hcl, hp, hS, h => by
  simp only [rM, Bool.and_eq_true, beq_iff_eq] at hp
  obtain ⟨⟨⟨⟨⟨h1, h2⟩, h2'⟩, h3⟩, h4⟩, h5⟩ := hp
  obtain ⟨k1, k2, k3⟩ := h
  refine ⟨fun h0 => (by rw [h1] at h0; cases h0), fun z hz => ?_⟩
  have hz0 := hz
  rw [h1] at hz
  simp only [List.mem_cons, List.not_mem_nil, or_false] at hz
  rcases hz with rfl | rfl | rfl
  · exact wpOp_mono (fun a' w' h' => ⟨fun _ => h'.1, iy hsel hQ ri _ _ _ (dR hcl hz0) h3 (fun _ => h'.1) h'.2⟩) k1
  · exact wpOp_mono (fun a' w' h' => ⟨fun _ => h'.1, by show kR P ops Q S ri.len _ _ _; rw [h2]; exact iy hsel hQ rj _ _ _ (dR hcl hz0) h4 (fun _ => h'.1) h'.2⟩) k2
  · exact wpOp_mono (fun a' w' h' => ⟨fun _ => h'.1, by show kR P ops Q S ri.len _ _ _; rw [h2']; exact iy hsel hQ rk _ _ _ (dR hcl hz0) h5 (fun _ => h'.1) h'.2⟩) k3
theorem Hz {id : Nat} {a : Act} {w : World} (S : World → Prop) (π : Plan) (hm : P.follows .mixedOrders = true) (hsel : Region.noSelect ops = true)
 (hp : rM ops (Array.replicate ops.size false) π = true) (hl : π.len = ops.size) (hS : S w.drew)
 (hQ : ∀ c a d v w, Q (.panic c) (a.put d v) w → Q (.panic c) a w) (h : eP P ops Q S π a w.drew) : (Code.region id ops true).wp P Q a w := by
 refine wp_region_any hm (yh _ _ _ _ (?_ : kR P ops Q S ops.size (Array.replicate ops.size false) a w.drew))
 have := iy hsel hQ π _ a w.drew yg hp (fun _ => hS) h
 rw [hl] at this
 exact this
theorem agN {a : Act} {w : World} (h : Q .normal a w) : eP P ops Q S .nil a w := h
variable {i : Nat} {dst : Option Tmp} {op : Op} {ty : TypeId} {pos : String} {after : Array Edge} {guard : Option (Nat × Bool)} {rest : Plan} {a : Act} {w : World}
theorem Zg {v : Value} (ho : ops[i]? = some ⟨dst, op, ty, pos, after, guard⟩) (hw : Region.wanted ⟨dst, op, ty, pos, after, guard⟩ (yielded ops a.tmps) = true)
 (hy : ∀ w', S w' → (execOp a.eval ⟨dst, op, ty, pos, after, guard⟩).run P w' = .ok (.value v) w') (h : eP P ops Q S rest (a.put dst v) w) : eP P ops Q S (.float i rest) a w :=
 ⟨_, v, ho, .inl ⟨hw, hy⟩, h⟩
theorem ado (ho : ops[i]? = some ⟨dst, op, ty, pos, after, guard⟩) (hw : Region.wanted ⟨dst, op, ty, pos, after, guard⟩ (yielded ops a.tmps) = false)
 (h : eP P ops Q S rest (a.put dst undef) w) : eP P ops Q S (.float i rest) a w :=
 ⟨_, undef, ho, .inr ⟨hw, rfl⟩, h⟩
theorem adp (ho : ops[i]? = some ⟨dst, op, ty, pos, after, guard⟩) (hw : Region.wanted ⟨dst, op, ty, pos, after, guard⟩ (yielded ops a.tmps) = true)
 (h : ∀ K : Act → World → Prop, (∀ a w, S w ∧ eP P ops Q S rest a w → K a w) → Oper.wp P ⟨dst, op, ty, pos, after, guard⟩ a w K Q) : eP P ops Q S (.hard i rest) a w := by
 show wpOp P ops Q i _ a w
 unfold wpOp
 simp only [ho]
 rw [if_pos hw]
 exact .inl (h _ (fun _ _ h => h))
theorem adq (ho : ops[i]? = some ⟨dst, op, ty, pos, after, guard⟩) (hw : Region.wanted ⟨dst, op, ty, pos, after, guard⟩ (yielded ops a.tmps) = true)
 (h : ∀ K : Act → World → Prop, (∀ a w, eP P ops Q S rest a w → K a w) → Oper.wp P ⟨dst, op, ty, pos, after, guard⟩ a w K Q) : eP P ops Q S (.last i rest) a w := by
 show wpOp P ops Q i _ a w
 unfold wpOp
 simp only [ho]
 rw [if_pos hw]
 exact .inl (h _ (fun _ _ h => h))
theorem uz {ri rj : Plan} {j : Nat} (h1 : eP P ops Q S (.hard i ri) a w) (h2 : eP P ops Q S (.hard j rj) a w) : eP P ops Q S (.mF i ri j rj) a w := ⟨h1, h2⟩
theorem Zh {ri rj rk : Plan} {j k : Nat} (h1 : eP P ops Q S (.hard i ri) a w) (h2 : eP P ops Q S (.hard j rj) a w) (h3 : eP P ops Q S (.hard k rk) a w) : eP P ops Q S (.zG i ri j rj k rk) a w := ⟨h1, h2, h3⟩
end
inductive jI where
 | nil
 | float (i : Nat) (r : jI)
 | hard (i : Nat) (r : jI)
 | last (i : Nat) (r : jI)
 | mF (i : Nat) (ri : jI) (j : Nat) (rj : jI)
 | zG (i : Nat) (ri : jI) (j : Nat) (rj : jI) (k : Nat) (rk : jI)
 | Wv (i : Nat) (ri : jI) (j : Nat) (rj : jI) (k : Nat) (rk : jI) (m : Nat) (rm : jI)
def jI.len : jI → Nat
 | .nil => 0
 | .float _ r => r.len + 1
 | .hard _ r => r.len + 1
 | .last _ r => r.len + 1
 | .mF _ r _ _ => r.len + 1
 | .zG _ r _ _ _ _ => r.len + 1
 | .Wv _ r _ _ _ _ _ _ => r.len + 1
def jI.free : jI → Bool
 | .nil => true
 | .last _ r => r.free
 | _ => false
section
variable {P : Program} {ops : Array Oper} {Q : Exit → Act → World → Prop} {S : World → Prop}
def dA (P : Program) (ops : Array Oper) (Q : Exit → Act → World → Prop) (S : World → Prop) : jI → Act → World → Prop
 | .nil, a, w => Q .normal a w
 | .float i r, a, w => ∃ o v, ops[i]? = some o ∧ YieldsIf P ops S o v a ∧ dA P ops Q S r (a.put o.dst v) w
 | .hard i r, a, w => wpOp P ops Q i (fun a' w' => S w' ∧ dA P ops Q S r a' w') a w
 | .last i r, a, w => wpOp P ops Q i (dA P ops Q S r) a w
 | .mF i ri j rj, a, w => wpOp P ops Q i (fun a' w' => S w' ∧ dA P ops Q S ri a' w') a w ∧ wpOp P ops Q j (fun a' w' => S w' ∧ dA P ops Q S rj a' w') a w
 | .zG i ri j rj k rk, a, w => wpOp P ops Q i (fun a' w' => S w' ∧ dA P ops Q S ri a' w') a w ∧ wpOp P ops Q j (fun a' w' => S w' ∧ dA P ops Q S rj a' w') a w ∧ wpOp P ops Q k (fun a' w' => S w' ∧ dA P ops Q S rk a' w') a w
 | .Wv i ri j rj k rk m rm, a, w => wpOp P ops Q i (fun a' w' => S w' ∧ dA P ops Q S ri a' w') a w ∧ wpOp P ops Q j (fun a' w' => S w' ∧ dA P ops Q S rj a' w') a w ∧ wpOp P ops Q k (fun a' w' => S w' ∧ dA P ops Q S rk a' w') a w ∧ wpOp P ops Q m (fun a' w' => S w' ∧ dA P ops Q S rm a' w') a w
def jL (ops : Array Oper) : Array Bool → jI → Bool
 | listed, .nil => (Region.ready .any ops listed).isEmpty
 | listed, .float i r => (Region.ready .any ops listed).contains i && Region.free .any ops listed i && jL ops (listed.setIfInBounds i true) r
 | listed, .hard i r => (Region.ready .any ops listed) == [i] && jL ops (listed.setIfInBounds i true) r
 | listed, .last i r => (Region.ready .any ops listed) == [i] && sinkB ops i && r.free && jL ops (listed.setIfInBounds i true) r
 | listed, .mF i ri j rj => (Region.ready .any ops listed) == [i, j] && ri.len == rj.len && jL ops (listed.setIfInBounds i true) ri && jL ops (listed.setIfInBounds j true) rj
 | listed, .zG i ri j rj k rk => (Region.ready .any ops listed) == [i, j, k] && ri.len == rj.len && ri.len == rk.len && jL ops (listed.setIfInBounds i true) ri && jL ops (listed.setIfInBounds j true) rj && jL ops (listed.setIfInBounds k true) rk
 | listed, .Wv i ri j rj k rk m rm => (Region.ready .any ops listed) == [i, j, k, m] && ri.len == rj.len && ri.len == rk.len && ri.len == rm.len && jL ops (listed.setIfInBounds i true) ri && jL ops (listed.setIfInBounds j true) rj && jL ops (listed.setIfInBounds k true) rk && jL ops (listed.setIfInBounds m true) rm
theorem dH (hsel : Region.noSelect ops = true) (hQ : ∀ c a d v w, Q (.panic c) (a.put d v) w → Q (.panic c) a w) :
 ∀ (π : jI) (listed : Array Bool) (a : Act) (w : World), Shut ops listed → jL ops listed π = true → (π.free = false → S w) →
  dA P ops Q S π a w → kR P ops Q S π.len listed a w
 | .nil, listed, a, w, hcl, hp, _, h => ⟨by simpa [jL] using hp, h⟩
 | .float i r, listed, a, w, hcl, hp, hS, h => by
  simp only [jL, Bool.and_eq_true] at hp
  obtain ⟨o, v, ho, hy, hr⟩ := h
  have hSw : S w := hS rfl
  refine yj ho (Region.noSelect_spec hsel) (fun c a w h => hQ c a _ _ w h) _ listed a w hcl (Region.free_spec ho hp.1.2) (by simpa using hp.1.1) hy hSw ?_
  exact dH hsel hQ r _ _ _ (dR hcl (by simpa using hp.1.1)) hp.2 (fun _ => hSw) hr
 | .hard i r, listed, a, w, hcl, hp, hS, h => by
  simp only [jL, Bool.and_eq_true, beq_iff_eq] at hp
  refine ⟨fun h0 => (by rw [hp.1] at h0; cases h0), fun j hj => ?_⟩
  have hj0 := hj
  rw [hp.1] at hj
  obtain rfl : j = i := by simpa using hj
  exact wpOp_mono (fun a' w' h' => ⟨fun _ => h'.1, dH hsel hQ r _ _ _ (dR hcl hj0) hp.2 (fun _ => h'.1) h'.2⟩) h
 | .last i r, listed, a, w, hcl, hp, hS, h => by
  simp only [jL, Bool.and_eq_true, beq_iff_eq] at hp
  refine ⟨fun h0 => (by rw [hp.1.1.1] at h0; cases h0), fun j hj => ?_⟩
  have hj0 := hj
  rw [hp.1.1.1] at hj
  obtain rfl : j = i := by simpa using hj
  exact wpOp_mono (fun a' w' h' => ⟨fun hs => (by rw [hp.1.1.2] at hs; cases hs), dH hsel hQ r _ _ _ (dR hcl hj0) hp.2 (fun hall => by rw [hp.1.2] at hall; cases hall) h'⟩) h
 | .mF i ri j rj, listed, a, w, hcl, hp, hS, h => by
  simp only [jL, Bool.and_eq_true, beq_iff_eq] at hp
  obtain ⟨⟨⟨h1, h2⟩, h3⟩, h4⟩ := hp
  obtain ⟨k1, k2⟩ := h
  refine ⟨fun h0 => (by rw [h1] at h0; cases h0), fun z hz => ?_⟩
  have hz0 := hz
  rw [h1] at hz
  simp only [List.mem_cons, List.not_mem_nil, or_false] at hz
  rcases hz with rfl | rfl
  · exact wpOp_mono (fun a' w' h' => ⟨fun _ => h'.1, dH hsel hQ ri _ _ _ (dR hcl hz0) h3 (fun _ => h'.1) h'.2⟩) k1
  · exact wpOp_mono (fun a' w' h' => ⟨fun _ => h'.1, by show kR P ops Q S ri.len _ _ _; rw [h2]; exact dH hsel hQ rj _ _ _ (dR hcl hz0) h4 (fun _ => h'.1) h'.2⟩) k2
 | .zG i ri j rj k rk, listed, a, w, hcl, hp, hS, h => by
  simp only [jL, Bool.and_eq_true, beq_iff_eq] at hp
  obtain ⟨⟨⟨⟨⟨h1, h2⟩, h2'⟩, h3⟩, h4⟩, h5⟩ := hp
  obtain ⟨k1, k2, k3⟩ := h
  refine ⟨fun h0 => (by rw [h1] at h0; cases h0), fun z hz => ?_⟩
  have hz0 := hz
  rw [h1] at hz
  simp only [List.mem_cons, List.not_mem_nil, or_false] at hz
  rcases hz with rfl | rfl | rfl
  · exact wpOp_mono (fun a' w' h' => ⟨fun _ => h'.1, dH hsel hQ ri _ _ _ (dR hcl hz0) h3 (fun _ => h'.1) h'.2⟩) k1
  · exact wpOp_mono (fun a' w' h' => ⟨fun _ => h'.1, by show kR P ops Q S ri.len _ _ _; rw [h2]; exact dH hsel hQ rj _ _ _ (dR hcl hz0) h4 (fun _ => h'.1) h'.2⟩) k2
  · exact wpOp_mono (fun a' w' h' => ⟨fun _ => h'.1, by show kR P ops Q S ri.len _ _ _; rw [h2']; exact dH hsel hQ rk _ _ _ (dR hcl hz0) h5 (fun _ => h'.1) h'.2⟩) k3
 | .Wv i ri j rj k rk m rm, listed, a, w, hcl, hp, hS, h => by
  simp only [jL, Bool.and_eq_true, beq_iff_eq] at hp
  obtain ⟨⟨⟨⟨⟨⟨⟨h1, h2⟩, h2'⟩, apr⟩, h3⟩, h4⟩, h5⟩, h6⟩ := hp
  obtain ⟨k1, k2, k3, k4⟩ := h
  refine ⟨fun h0 => (by rw [h1] at h0; cases h0), fun z hz => ?_⟩
  have hz0 := hz
  rw [h1] at hz
  simp only [List.mem_cons, List.not_mem_nil, or_false] at hz
  rcases hz with rfl | rfl | rfl | rfl
  · exact wpOp_mono (fun a' w' h' => ⟨fun _ => h'.1, dH hsel hQ ri _ _ _ (dR hcl hz0) h3 (fun _ => h'.1) h'.2⟩) k1
  · exact wpOp_mono (fun a' w' h' => ⟨fun _ => h'.1, by show kR P ops Q S ri.len _ _ _; rw [h2]; exact dH hsel hQ rj _ _ _ (dR hcl hz0) h4 (fun _ => h'.1) h'.2⟩) k2
  · exact wpOp_mono (fun a' w' h' => ⟨fun _ => h'.1, by show kR P ops Q S ri.len _ _ _; rw [h2']; exact dH hsel hQ rk _ _ _ (dR hcl hz0) h5 (fun _ => h'.1) h'.2⟩) k3
  · exact wpOp_mono (fun a' w' h' => ⟨fun _ => h'.1, by show kR P ops Q S ri.len _ _ _; rw [apr]; exact dH hsel hQ rm _ _ _ (dR hcl hz0) h6 (fun _ => h'.1) h'.2⟩) k4
theorem FU {id : Nat} {a : Act} {w : World} (S : World → Prop) (π : jI) (hm : P.follows .mixedOrders = true) (hsel : Region.noSelect ops = true)
 (hp : jL ops (Array.replicate ops.size false) π = true) (hl : π.len = ops.size) (hS : S w.drew)
 (hQ : ∀ c a d v w, Q (.panic c) (a.put d v) w → Q (.panic c) a w) (h : dA P ops Q S π a w.drew) : (Code.region id ops true).wp P Q a w := by
 refine wp_region_any hm (yh _ _ _ _ (?_ : kR P ops Q S ops.size (Array.replicate ops.size false) a w.drew))
 have := dH hsel hQ π _ a w.drew yg hp (fun _ => hS) h
 rw [hl] at this
 exact this
theorem agO {a : Act} {w : World} (h : Q .normal a w) : dA P ops Q S .nil a w := h
variable {i : Nat} {dst : Option Tmp} {op : Op} {ty : TypeId} {pos : String} {after : Array Edge} {guard : Option (Nat × Bool)} {rest : jI} {a : Act} {w : World}
theorem Zi {v : Value} (ho : ops[i]? = some ⟨dst, op, ty, pos, after, guard⟩) (hw : Region.wanted ⟨dst, op, ty, pos, after, guard⟩ (yielded ops a.tmps) = true)
 (hy : ∀ w', S w' → (execOp a.eval ⟨dst, op, ty, pos, after, guard⟩).run P w' = .ok (.value v) w') (h : dA P ops Q S rest (a.put dst v) w) : dA P ops Q S (.float i rest) a w :=
 ⟨_, v, ho, .inl ⟨hw, hy⟩, h⟩
theorem adr (ho : ops[i]? = some ⟨dst, op, ty, pos, after, guard⟩) (hw : Region.wanted ⟨dst, op, ty, pos, after, guard⟩ (yielded ops a.tmps) = false)
 (h : dA P ops Q S rest (a.put dst undef) w) : dA P ops Q S (.float i rest) a w :=
 ⟨_, undef, ho, .inr ⟨hw, rfl⟩, h⟩
theorem ads (ho : ops[i]? = some ⟨dst, op, ty, pos, after, guard⟩) (hw : Region.wanted ⟨dst, op, ty, pos, after, guard⟩ (yielded ops a.tmps) = true)
 (h : ∀ K : Act → World → Prop, (∀ a w, S w ∧ dA P ops Q S rest a w → K a w) → Oper.wp P ⟨dst, op, ty, pos, after, guard⟩ a w K Q) : dA P ops Q S (.hard i rest) a w := by
 show wpOp P ops Q i _ a w
 unfold wpOp
 simp only [ho]
 rw [if_pos hw]
 exact .inl (h _ (fun _ _ h => h))
theorem adt (ho : ops[i]? = some ⟨dst, op, ty, pos, after, guard⟩) (hw : Region.wanted ⟨dst, op, ty, pos, after, guard⟩ (yielded ops a.tmps) = true)
 (h : ∀ K : Act → World → Prop, (∀ a w, dA P ops Q S rest a w → K a w) → Oper.wp P ⟨dst, op, ty, pos, after, guard⟩ a w K Q) : dA P ops Q S (.last i rest) a w := by
 show wpOp P ops Q i _ a w
 unfold wpOp
 simp only [ho]
 rw [if_pos hw]
 exact .inl (h _ (fun _ _ h => h))
theorem eG (ho : ops[i]? = some ⟨dst, op, ty, pos, after, guard⟩) (hw : Region.wanted ⟨dst, op, ty, pos, after, guard⟩ (yielded ops a.tmps) = false)
 (hS : S w) (h : dA P ops Q S rest (a.put dst undef) w) : dA P ops Q S (.hard i rest) a w := by
 show wpOp P ops Q i _ a w
 unfold wpOp
 simp only [ho]
 rw [if_neg (by rw [hw]; decide)]
 exact ⟨hS, h⟩
theorem zH {ri rj : jI} {j : Nat} (h1 : dA P ops Q S (.hard i ri) a w) (h2 : dA P ops Q S (.hard j rj) a w) : dA P ops Q S (.mF i ri j rj) a w := ⟨h1, h2⟩
end
section
variable {P : Program} {ops : Array Oper} {Q : Exit → Act → World → Prop} {S : World → Prop}
def Zj (ops : Array Oper) (L0 : Array Bool) (j : Nat) : Bool := (List.range ops.size).all fun k => L0.getD k false || k == j || BD ops ops.size j k || BD ops ops.size k j
def P9 (ops : Array Oper) (L0 listed : Array Bool) : Prop := Shut ops listed ∧ ∀ k, L0.getD k false = true → listed.getD k false = true
theorem Am {L0 listed : Array Bool} {i : Nat} (h : P9 ops L0 listed) (hi : i ∈ Region.ready .any ops listed) : P9 ops L0 (listed.setIfInBounds i true) := ⟨dR h.1 hi, fun k hk => Ee (h.2 k hk)⟩
theorem Ef {listed : Array Bool} {i : Nat} (h : i ∈ Region.ready .any ops listed) : listed.getD i false = false := by
 have h0 := (mem_ready.1 h).1
 simp only [Array.getD_eq_getD_getElem?] at h0 ⊢
 cases hl : listed[i]? with
 | none => simp
 | some b => rw [hl] at h0; simpa using h0
theorem ES {listed : Array Bool} {j : Nat} (h : j ∈ Region.ready .any ops listed) : ∀ k, k ∈ Ed ops j → listed.getD k false = true := by
 intro k hk
 obtain ⟨_, oj, hoj, hall⟩ := mem_ready.1 h
 unfold Ed at hk
 rw [hoj] at hk
 simp only [List.mem_map, List.mem_filter, Array.mem_toList_iff] at hk
 obtain ⟨e, ⟨he, hb⟩, rfl⟩ := hk
 exact hall e he hb
theorem agP {L0 listed : Array Bool} {i j : Nat} (hcl : P9 ops L0 listed) (hi : i < ops.size) (hir : i ∈ Region.ready .any ops listed) (hjr : j ∈ Region.ready .any ops listed) (hne : j ≠ i) : Zj ops L0 j = false := by
 cases h : Zj ops L0 j with
 | false => rfl
 | true =>
  simp only [Zj, List.all_eq_true, List.mem_range] at h
  have h1 := h i hi
  simp only [Bool.or_eq_true, beq_iff_eq, Ne.symm hne, or_false] at h1
  rcases h1 with (h1 | h1) | h1
  · have h2 := hcl.2 i h1
    rw [Ef hir] at h2; cases h2
  · have h2 := tq hcl.1 _ j i (ES hjr) h1
    rw [Ef hir] at h2; cases h2
  have h2 := tq hcl.1 _ i j (ES hir) h1
  rw [Ef hjr] at h2; cases h2
def H6 (P : Program) (ops : Array Oper) (L0 : Array Bool) (Q : Exit → Act → World → Prop) (S : World → Prop) : Nat → Array Bool → Act → World → Prop
 | 0, listed, a, w => Region.ready .any ops listed = [] ∧ Q .normal a w
 | fuel + 1, listed, a, w =>
  (Region.ready .any ops listed = [] → Q .normal a w) ∧
  ∀ i ∈ Region.ready .any ops listed, wpOp P ops Q i (fun a' w' => (Zj ops L0 i = true ∧ wpAny P .any ops Q fuel (listed.setIfInBounds i true) a' w') ∨ (S w' ∧ H6 P ops L0 Q S fuel (listed.setIfInBounds i true) a' w')) a w
theorem BF {L0 : Array Bool} : ∀ (fuel : Nat) (listed : Array Bool) (a : Act) (w : World), H6 P ops L0 Q S fuel listed a w → wpAny P .any ops Q fuel listed a w
 | 0, _, _, _, h => h
 | fuel + 1, _, _, _, h => ⟨h.1, fun i hi => wpOp_mono (fun a' w' h' => h'.elim (fun h1 => h1.2) (fun h1 => BF fuel _ a' w' h1.2)) (h.2 i hi)⟩
theorem Ny {L0 : Array Bool} {i : Nat} {oi : Oper} {v : Value} (hi : ops[i]? = some oi) (hsel : ∀ (j : Nat) (o : Oper) cs b, ops[j]? = some o → o.op ≠ .select cs b)
 (hQ : ∀ c a w, Q (.panic c) (a.put oi.dst v) w → Q (.panic c) a w) :
 ∀ (fuel : Nat) (listed : Array Bool) (a : Act) (w : World), P9 ops L0 listed →
  (∀ j oj, ops[j]? = some oj → j ≠ i → listed.getD j true = false → (∀ e ∈ oj.after, Region.binds .any e = true → e.on ≠ i) → oi.apart ops oj = true) →
  i ∈ Region.ready .any ops listed → YieldsIf P ops S oi v a → S w →
  H6 P ops L0 Q S fuel (listed.setIfInBounds i true) (a.put oi.dst v) w → H6 P ops L0 Q S (fuel + 1) listed a w := by
 intro fuel
 induction fuel with
 | zero =>
  intro listed a w _ _ hr hy hS H
  refine ⟨fun h => (by rw [h] at hr; cases hr), fun j hj => ?_⟩
  by_cases hji : j = i
  · subst hji; exact hy.wpOp hi hS (.inr ⟨hS, H⟩)
  have := ready_mono hj hji
  rw [H.1] at this
  cases this
 | succ fuel ih =>
  intro listed a w hcl hfree hr hy hS H
  refine ⟨fun h => (by rw [h] at hr; cases hr), fun j hj => ?_⟩
  by_cases hji : j = i
  · subst hji; exact hy.wpOp hi hS (.inr ⟨hS, H⟩)
  have h1 := H.2 j (ready_mono hj hji)
  obtain ⟨hjun, oj, hoj, hall⟩ := mem_ready.1 hj
  have hnot : ∀ e ∈ oj.after, Region.binds .any e = true → e.on ≠ i := fun e he hb heq => by
   have h1 := hall e he hb
   have h0 := (mem_ready.1 hr).1
   rw [heq] at h1
   rcases Nat.lt_or_ge i listed.size with h' | h'
   · simp [h'] at h0 h1; rw [h0] at h1; cases h1
   · simp [Array.getElem?_eq_none h'] at h1
  have hns := agP hcl (Array.getElem?_eq_some_iff.1 hi).1 hr hj hji
  have h2 := wpOp_putIf hoj (hfree j oj hoj hji hjun hnot) (fun cs b => hsel i oi cs b hi) (fun cs b => hsel j oj cs b hoj) hQ hy h1
  have hfree' : ∀ k ok, ops[k]? = some ok → k ≠ i → (listed.setIfInBounds j true).getD k true = false →
   (∀ e ∈ ok.after, Region.binds .any e = true → e.on ≠ i) → oi.apart ops ok = true := fun k ok hk hki hun hno => by
   refine hfree k ok hk hki ?_ hno
   by_cases hjk : j = k
   · subst hjk; exact hjun
   · rw [getD_set_ne true hjk] at hun; exact hun
  refine wpOp_mono (fun a' w' h3 => ?_) h2
  rcases h3.2 with hb | hb
  · rw [hns] at hb; exact absurd hb.1 (by decide)
  refine .inr ⟨hb.1, ih (listed.setIfInBounds j true) a' w' (Am hcl hj) hfree' (ready_mono hr (Ne.symm hji)) h3.1 hb.1 ?_⟩
  rw [Array.setIfInBounds_comm _ _ hji]
  exact hb.2
def pO (P : Program) (ops : Array Oper) (Q : Exit → Act → World → Prop) : (World → Prop) → List (Nat × Nat) → Act → World → Prop
 | _, [], a, w => Q .normal a w
 | S, (i, 0) :: rest, a, w => ∃ o v, ops[i]? = some o ∧ YieldsIf P ops S o v a ∧ pO P ops Q S rest (a.put o.dst v) w
 | S, (i, 1) :: rest, a, w => wpOp P ops Q i (fun a' w' => S w' ∧ pO P ops Q S rest a' w') a w
 | _, (i, _) :: rest, a, w => wpOp P ops Q i (fun a' w' => ∃ S' : World → Prop, S' w' ∧ pO P ops Q S' rest a' w') a w
def CY (ops : Array Oper) (L0 : Array Bool) : Array Bool → List (Nat × Nat) → Bool
 | listed, [] => (Region.ready .any ops listed).isEmpty
 | listed, (i, 0) :: rest => (Region.ready .any ops listed).contains i && Region.free .any ops listed i && CY ops L0 (listed.setIfInBounds i true) rest
 | listed, (i, 1) :: rest => (Region.ready .any ops listed) == [i] && CY ops L0 (listed.setIfInBounds i true) rest
 | listed, (i, _) :: rest => (Region.ready .any ops listed) == [i] && Zj ops L0 i && CY ops L0 (listed.setIfInBounds i true) rest
theorem Nz {L0 : Array Bool} (hsel : Region.noSelect ops = true) (hQ : ∀ c a d v w, Q (.panic c) (a.put d v) w → Q (.panic c) a w) :
 ∀ (π : List (Nat × Nat)) (S : World → Prop) (listed : Array Bool) (a : Act) (w : World), P9 ops L0 listed → CY ops L0 listed π = true → S w →
  pO P ops Q S π a w → H6 P ops L0 Q S π.length listed a w := by
 intro π
 induction π with
 | nil => intro S listed a w _ hp _ h; exact ⟨by simpa [CY] using hp, h⟩
 | cons x rest ih =>
  obtain ⟨i, k⟩ := x
  intro S listed a w hcl hp hS h
  match k with
  | 0 =>
   simp only [CY, Bool.and_eq_true] at hp
   obtain ⟨o, v, ho, hy, hr⟩ := h
   refine Ny ho (Region.noSelect_spec hsel) (fun c a w h => hQ c a _ _ w h) _ listed a w hcl (Region.free_spec ho hp.1.2) (by simpa using hp.1.1) hy hS ?_
   exact ih _ _ _ _ (Am hcl (by simpa using hp.1.1)) hp.2 hS hr
  | 1 =>
   simp only [CY, Bool.and_eq_true, beq_iff_eq] at hp
   have h : wpOp P ops Q i (fun a' w' => S w' ∧ pO P ops Q S rest a' w') a w := h
   refine ⟨fun h0 => (by rw [hp.1] at h0; cases h0), fun j hj => ?_⟩
   have hj0 := hj
   rw [hp.1] at hj
   obtain rfl : j = i := by simpa using hj
   exact wpOp_mono (fun a' w' h' => .inr ⟨h'.1, ih _ _ _ _ (Am hcl hj0) hp.2 h'.1 h'.2⟩) h
  | n + 2 =>
   simp only [CY, Bool.and_eq_true, beq_iff_eq] at hp
   have h : wpOp P ops Q i (fun a' w' => ∃ S' : World → Prop, S' w' ∧ pO P ops Q S' rest a' w') a w := h
   refine ⟨fun h0 => (by rw [hp.1.1] at h0; cases h0), fun j hj => ?_⟩
   have hj0 := hj
   rw [hp.1.1] at hj
   obtain rfl : j = i := by simpa using hj
   exact wpOp_mono (fun a' w' ⟨S', hS', h'⟩ => .inl ⟨hp.1.2, BF _ _ _ _ (ih S' _ _ _ (Am hcl hj0) hp.2 hS' h')⟩) h
def La (P : Program) (ops : Array Oper) (Q : Exit → Act → World → Prop) (S : World → Prop) (π : List (Nat × Nat)) : List Nat → Act → World → Prop
 | [], a, w => S w ∧ pO P ops Q S π a w
 | i :: rest, a, w => ∃ o v, ops[i]? = some o ∧ Yields P ops o v a ∧ La P ops Q S π rest (a.put o.dst v) w
def Wx (ops : Array Oper) (π : List (Nat × Nat)) : Array Bool → List Nat → Bool
 | listed, [] => CY ops listed listed π
 | listed, i :: rest => (Region.ready .any ops listed).contains i && Region.free .any ops listed i && Wx ops π (listed.setIfInBounds i true) rest
theorem CZ (hsel : Region.noSelect ops = true) (hQ : ∀ c a d v w, Q (.panic c) (a.put d v) w → Q (.panic c) a w) (π : List (Nat × Nat)) (S : World → Prop) :
 ∀ (ρ : List Nat) (listed : Array Bool) (a : Act) (w : World), Shut ops listed → Wx ops π listed ρ = true → La P ops Q S π ρ a w → wpAny P .any ops Q (ρ.length + π.length) listed a w
 | [], listed, a, w, hcl, hp, h => by
  have h1 := BF _ _ _ _ (Nz (L0 := listed) hsel hQ π S listed a w ⟨hcl, fun k hk => hk⟩ hp h.1 h.2)
  simpa using h1
 | i :: rest, listed, a, w, hcl, hp, h => by
  simp only [Wx, Bool.and_eq_true] at hp
  obtain ⟨o, v, ho, hy, hr⟩ := h
  have h1 := CZ hsel hQ π S rest (listed.setIfInBounds i true) _ w (dR hcl (by simpa using hp.1.1)) hp.2 hr
  have h2 := wpAny_take ho hsel hp.1.2 hp.1.1 (fun c a w h => hQ c a _ _ w h) hy h1
  rw [show (i :: rest).length + π.length = rest.length + π.length + 1 by simp; omega]
  exact h2
theorem tC {id : Nat} {a : Act} {w : World} (S : World → Prop) (ρ : List Nat) (π : List (Nat × Nat)) (hm : P.follows .mixedOrders = true) (hsel : Region.noSelect ops = true)
 (hp : Wx ops π (Array.replicate ops.size false) ρ = true) (hl : ρ.length + π.length = ops.size)
 (hQ : ∀ c a d v w, Q (.panic c) (a.put d v) w → Q (.panic c) a w) (h : La P ops Q S π ρ a w.drew) : (Code.region id ops true).wp P Q a w := by
 refine wp_region_any hm ?_
 have := CZ hsel hQ π S ρ _ a w.drew yg hp h
 rw [hl] at this
 exact this
theorem NC {a : Act} {w : World} {π : List (Nat × Nat)} (hS : S w) (h : pO P ops Q S π a w) : La P ops Q S π [] a w := ⟨hS, h⟩
theorem Gx {i : Nat} {rest : List Nat} {π : List (Nat × Nat)} {a : Act} {w : World} {dst : Option Tmp} {op : Op} {ty : TypeId} {pos : String} {after : Array Edge} {guard : Option (Nat × Bool)} {v : Value} (ho : ops[i]? = some ⟨dst, op, ty, pos, after, guard⟩) (hw : Region.wanted ⟨dst, op, ty, pos, after, guard⟩ (yielded ops a.tmps) = true)
 (hy : ∀ w', (execOp a.eval ⟨dst, op, ty, pos, after, guard⟩).run P w' = .ok (.value v) w') (h : La P ops Q S π rest (a.put dst v) w) : La P ops Q S π (i :: rest) a w :=
 ⟨_, v, ho, .inl ⟨hw, hy⟩, h⟩
theorem ND {a : Act} {w : World} (h : Q .normal a w) : pO P ops Q S [] a w := h
variable {i : Nat} {dst : Option Tmp} {op : Op} {ty : TypeId} {pos : String} {after : Array Edge} {guard : Option (Nat × Bool)} {rest : List (Nat × Nat)} {a : Act} {w : World}
theorem Zk {v : Value} (ho : ops[i]? = some ⟨dst, op, ty, pos, after, guard⟩) (hw : Region.wanted ⟨dst, op, ty, pos, after, guard⟩ (yielded ops a.tmps) = true)
 (hy : ∀ w', S w' → (execOp a.eval ⟨dst, op, ty, pos, after, guard⟩).run P w' = .ok (.value v) w') (h : pO P ops Q S rest (a.put dst v) w) : pO P ops Q S ((i, 0) :: rest) a w :=
 ⟨_, v, ho, .inl ⟨hw, hy⟩, h⟩
theorem adu (ho : ops[i]? = some ⟨dst, op, ty, pos, after, guard⟩) (hw : Region.wanted ⟨dst, op, ty, pos, after, guard⟩ (yielded ops a.tmps) = false)
 (h : pO P ops Q S rest (a.put dst undef) w) : pO P ops Q S ((i, 0) :: rest) a w :=
 ⟨_, undef, ho, .inr ⟨hw, rfl⟩, h⟩
theorem Ap (ho : ops[i]? = some ⟨dst, op, ty, pos, after, guard⟩) (hw : Region.wanted ⟨dst, op, ty, pos, after, guard⟩ (yielded ops a.tmps) = true)
 (h : ∀ K : Act → World → Prop, (∀ a w, (∃ S' : World → Prop, S' w ∧ pO P ops Q S' rest a w) → K a w) → Oper.wp P ⟨dst, op, ty, pos, after, guard⟩ a w K Q) : pO P ops Q S ((i, 2) :: rest) a w := by
 show wpOp P ops Q i _ a w
 unfold wpOp
 simp only [ho]
 rw [if_pos hw]
 exact .inl (h _ (fun _ _ h => h))
end
section
variable {P : Program} {ops : Array Oper} {Q : Exit → Act → World → Prop} {S : World → Prop}
theorem nH {r r' : List (Nat × Nat)} {a a' : Act} {w : World} (h : rH P ops Q S r' a' w) (f : rH P ops Q S r' a' w → rH P ops Q S r a w := by (refine fun hh => ?_; (repeat (first | (apply adk rfl (by rfl); try simp only [Act.put, sI, sZ, sS]) | (apply Zf rfl (by rfl); (· (intro w' hS; go_simp <;> with_reducible rfl)); (try simp only [Act.put, sI, sZ, sS])))); exact hh)) : rH P ops Q S r a w := f h
theorem vK {r r' : Plan} {a a' : Act} {w : World} (h : eP P ops Q S r' a' w) (f : eP P ops Q S r' a' w → eP P ops Q S r a w := by (refine fun hh => ?_; (repeat (first | (apply ado rfl (by rfl); try simp only [Act.put, sI, sZ, sS]) | (apply Zg rfl (by rfl); (· (intro w' hS; go_simp <;> with_reducible rfl)); (try simp only [Act.put, sI, sZ, sS])))); exact hh)) : eP P ops Q S r a w := f h
theorem aV {r r' : jI} {a a' : Act} {w : World} (h : dA P ops Q S r' a' w) (f : dA P ops Q S r' a' w → dA P ops Q S r a w := by (refine fun hh => ?_; (repeat (first | (apply adr rfl (by rfl); try simp only [Act.put, sI, sZ, sS]) | (apply Zi rfl (by rfl); (· (intro w' hS; go_simp <;> with_reducible rfl)); (try simp only [Act.put, sI, sZ, sS])))); exact hh)) : dA P ops Q S r a w := f h
theorem ebF {r r' : List (Nat × Nat)} {a a' : Act} {w : World} (h : pO P ops Q S r' a' w) (f : pO P ops Q S r' a' w → pO P ops Q S r a w := by (refine fun hh => ?_; (repeat (first | (apply adu rfl (by rfl); try simp only [Act.put, sI, sZ, sS]) | (apply Zk rfl (by rfl); (· (intro w' hS; go_simp <;> with_reducible rfl)); (try simp only [Act.put, sI, sZ, sS])))); exact hh)) : pO P ops Q S r a w := f h
end
theorem St.c {w : World} {B : Nat} {wr : World} {bx : List (Nat × Array Value × TypeId)} (h : St w B wr bx) (i o : Nat) {g : Nat} {cs : Array Value} {t : TypeId} {v : Value} (hi : bx[i]? = some (g, cs, t) := by exact rfl) (hv : cs[o]? = some v := by exact rfl) : wr.cell? ⟨g, o, none⟩ = some v := h.cellAt i hi o hv
theorem iQ {w w' : World} {a0 a1 : Addr} {v0 v1 : Value} (hb : Below w.heap.size w w') (h0 : w.cell? a0 = some v0) (h1 : w.cell? a1 = some v1) : w'.cell? a0 = some v0 ∧ w'.cell? a1 = some v1 := ⟨cellL hb h0, cellL hb h1⟩
theorem St.c2 {w : World} {B : Nat} {wr : World} {bx : List (Nat × Array Value × TypeId)} (h : St w B wr bx) (i0 o0 i1 o1 : Nat) {g0 g1 : Nat} {s0 s1 : Array Value} {t0 t1 : TypeId} {v0 v1 : Value} (h0 : bx[i0]? = some (g0, s0, t0) := by exact rfl) (k0 : s0[o0]? = some v0 := by exact rfl) (h1 : bx[i1]? = some (g1, s1, t1) := by exact rfl) (k1 : s1[o1]? = some v1 := by exact rfl) : wr.cell? ⟨g0, o0, none⟩ = some v0 ∧ wr.cell? ⟨g1, o1, none⟩ = some v1 := ⟨h.cellAt i0 h0 o0 k0, h.cellAt i1 h1 o1 k1⟩
theorem fQ {w w' : World} {a0 a1 a2 : Addr} {v0 v1 v2 : Value} (hb : Below w.heap.size w w') (h0 : w.cell? a0 = some v0) (h1 : w.cell? a1 = some v1) (h2 : w.cell? a2 = some v2) : w'.cell? a0 = some v0 ∧ w'.cell? a1 = some v1 ∧ w'.cell? a2 = some v2 := ⟨cellL hb h0, cellL hb h1, cellL hb h2⟩
theorem St.c3 {w : World} {B : Nat} {wr : World} {bx : List (Nat × Array Value × TypeId)} (h : St w B wr bx) (i0 o0 i1 o1 i2 o2 : Nat) {g0 g1 g2 : Nat} {s0 s1 s2 : Array Value} {t0 t1 t2 : TypeId} {v0 v1 v2 : Value} (h0 : bx[i0]? = some (g0, s0, t0) := by exact rfl) (k0 : s0[o0]? = some v0 := by exact rfl) (h1 : bx[i1]? = some (g1, s1, t1) := by exact rfl) (k1 : s1[o1]? = some v1 := by exact rfl) (h2 : bx[i2]? = some (g2, s2, t2) := by exact rfl) (k2 : s2[o2]? = some v2 := by exact rfl) : wr.cell? ⟨g0, o0, none⟩ = some v0 ∧ wr.cell? ⟨g1, o1, none⟩ = some v1 ∧ wr.cell? ⟨g2, o2, none⟩ = some v2 := ⟨h.cellAt i0 h0 o0 k0, h.cellAt i1 h1 o1 k1, h.cellAt i2 h2 o2 k2⟩
theorem jc {w w' : World} {a0 a1 a2 a3 : Addr} {v0 v1 v2 v3 : Value} (hb : Below w.heap.size w w') (h0 : w.cell? a0 = some v0) (h1 : w.cell? a1 = some v1) (h2 : w.cell? a2 = some v2) (h3 : w.cell? a3 = some v3) : w'.cell? a0 = some v0 ∧ w'.cell? a1 = some v1 ∧ w'.cell? a2 = some v2 ∧ w'.cell? a3 = some v3 := ⟨cellL hb h0, cellL hb h1, cellL hb h2, cellL hb h3⟩
theorem St.c4 {w : World} {B : Nat} {wr : World} {bx : List (Nat × Array Value × TypeId)} (h : St w B wr bx) (i0 o0 i1 o1 i2 o2 i3 o3 : Nat) {g0 g1 g2 g3 : Nat} {s0 s1 s2 s3 : Array Value} {t0 t1 t2 t3 : TypeId} {v0 v1 v2 v3 : Value} (h0 : bx[i0]? = some (g0, s0, t0) := by exact rfl) (k0 : s0[o0]? = some v0 := by exact rfl) (h1 : bx[i1]? = some (g1, s1, t1) := by exact rfl) (k1 : s1[o1]? = some v1 := by exact rfl) (h2 : bx[i2]? = some (g2, s2, t2) := by exact rfl) (k2 : s2[o2]? = some v2 := by exact rfl) (h3 : bx[i3]? = some (g3, s3, t3) := by exact rfl) (k3 : s3[o3]? = some v3 := by exact rfl) : wr.cell? ⟨g0, o0, none⟩ = some v0 ∧ wr.cell? ⟨g1, o1, none⟩ = some v1 ∧ wr.cell? ⟨g2, o2, none⟩ = some v2 ∧ wr.cell? ⟨g3, o3, none⟩ = some v3 := ⟨h.cellAt i0 h0 o0 k0, h.cellAt i1 h1 o1 k1, h.cellAt i2 h2 o2 k2, h.cellAt i3 h3 o3 k3⟩
theorem zI {w w' : World} {a0 a1 a2 a3 a4 : Addr} {v0 v1 v2 v3 v4 : Value} (hb : Below w.heap.size w w') (h0 : w.cell? a0 = some v0) (h1 : w.cell? a1 = some v1) (h2 : w.cell? a2 = some v2) (h3 : w.cell? a3 = some v3) (h4 : w.cell? a4 = some v4) : w'.cell? a0 = some v0 ∧ w'.cell? a1 = some v1 ∧ w'.cell? a2 = some v2 ∧ w'.cell? a3 = some v3 ∧ w'.cell? a4 = some v4 := ⟨cellL hb h0, cellL hb h1, cellL hb h2, cellL hb h3, cellL hb h4⟩
theorem St.c5 {w : World} {B : Nat} {wr : World} {bx : List (Nat × Array Value × TypeId)} (h : St w B wr bx) (i0 o0 i1 o1 i2 o2 i3 o3 i4 o4 : Nat) {g0 g1 g2 g3 g4 : Nat} {s0 s1 s2 s3 s4 : Array Value} {t0 t1 t2 t3 t4 : TypeId} {v0 v1 v2 v3 v4 : Value} (h0 : bx[i0]? = some (g0, s0, t0) := by exact rfl) (k0 : s0[o0]? = some v0 := by exact rfl) (h1 : bx[i1]? = some (g1, s1, t1) := by exact rfl) (k1 : s1[o1]? = some v1 := by exact rfl) (h2 : bx[i2]? = some (g2, s2, t2) := by exact rfl) (k2 : s2[o2]? = some v2 := by exact rfl) (h3 : bx[i3]? = some (g3, s3, t3) := by exact rfl) (k3 : s3[o3]? = some v3 := by exact rfl) (h4 : bx[i4]? = some (g4, s4, t4) := by exact rfl) (k4 : s4[o4]? = some v4 := by exact rfl) : wr.cell? ⟨g0, o0, none⟩ = some v0 ∧ wr.cell? ⟨g1, o1, none⟩ = some v1 ∧ wr.cell? ⟨g2, o2, none⟩ = some v2 ∧ wr.cell? ⟨g3, o3, none⟩ = some v3 ∧ wr.cell? ⟨g4, o4, none⟩ = some v4 := ⟨h.cellAt i0 h0 o0 k0, h.cellAt i1 h1 o1 k1, h.cellAt i2 h2 o2 k2, h.cellAt i3 h3 o3 k3, h.cellAt i4 h4 o4 k4⟩
theorem uZ {w w' : World} {a0 a1 a2 a3 a4 a5 : Addr} {v0 v1 v2 v3 v4 v5 : Value} (hb : Below w.heap.size w w') (h0 : w.cell? a0 = some v0) (h1 : w.cell? a1 = some v1) (h2 : w.cell? a2 = some v2) (h3 : w.cell? a3 = some v3) (h4 : w.cell? a4 = some v4) (h5 : w.cell? a5 = some v5) : w'.cell? a0 = some v0 ∧ w'.cell? a1 = some v1 ∧ w'.cell? a2 = some v2 ∧ w'.cell? a3 = some v3 ∧ w'.cell? a4 = some v4 ∧ w'.cell? a5 = some v5 := ⟨cellL hb h0, cellL hb h1, cellL hb h2, cellL hb h3, cellL hb h4, cellL hb h5⟩
theorem St.c6 {w : World} {B : Nat} {wr : World} {bx : List (Nat × Array Value × TypeId)} (h : St w B wr bx) (i0 o0 i1 o1 i2 o2 i3 o3 i4 o4 i5 o5 : Nat) {g0 g1 g2 g3 g4 g5 : Nat} {s0 s1 s2 s3 s4 s5 : Array Value} {t0 t1 t2 t3 t4 t5 : TypeId} {v0 v1 v2 v3 v4 v5 : Value} (h0 : bx[i0]? = some (g0, s0, t0) := by exact rfl) (k0 : s0[o0]? = some v0 := by exact rfl) (h1 : bx[i1]? = some (g1, s1, t1) := by exact rfl) (k1 : s1[o1]? = some v1 := by exact rfl) (h2 : bx[i2]? = some (g2, s2, t2) := by exact rfl) (k2 : s2[o2]? = some v2 := by exact rfl) (h3 : bx[i3]? = some (g3, s3, t3) := by exact rfl) (k3 : s3[o3]? = some v3 := by exact rfl) (h4 : bx[i4]? = some (g4, s4, t4) := by exact rfl) (k4 : s4[o4]? = some v4 := by exact rfl) (h5 : bx[i5]? = some (g5, s5, t5) := by exact rfl) (k5 : s5[o5]? = some v5 := by exact rfl) : wr.cell? ⟨g0, o0, none⟩ = some v0 ∧ wr.cell? ⟨g1, o1, none⟩ = some v1 ∧ wr.cell? ⟨g2, o2, none⟩ = some v2 ∧ wr.cell? ⟨g3, o3, none⟩ = some v3 ∧ wr.cell? ⟨g4, o4, none⟩ = some v4 ∧ wr.cell? ⟨g5, o5, none⟩ = some v5 := ⟨h.cellAt i0 h0 o0 k0, h.cellAt i1 h1 o1 k1, h.cellAt i2 h2 o2 k2, h.cellAt i3 h3 o3 k3, h.cellAt i4 h4 o4 k4, h.cellAt i5 h5 o5 k5⟩
theorem JX {w w' : World} {a0 a1 a2 a3 a4 a5 a6 : Addr} {v0 v1 v2 v3 v4 v5 v6 : Value} (hb : Below w.heap.size w w') (h0 : w.cell? a0 = some v0) (h1 : w.cell? a1 = some v1) (h2 : w.cell? a2 = some v2) (h3 : w.cell? a3 = some v3) (h4 : w.cell? a4 = some v4) (h5 : w.cell? a5 = some v5) (h6 : w.cell? a6 = some v6) : w'.cell? a0 = some v0 ∧ w'.cell? a1 = some v1 ∧ w'.cell? a2 = some v2 ∧ w'.cell? a3 = some v3 ∧ w'.cell? a4 = some v4 ∧ w'.cell? a5 = some v5 ∧ w'.cell? a6 = some v6 := ⟨cellL hb h0, cellL hb h1, cellL hb h2, cellL hb h3, cellL hb h4, cellL hb h5, cellL hb h6⟩
theorem St.c7 {w : World} {B : Nat} {wr : World} {bx : List (Nat × Array Value × TypeId)} (h : St w B wr bx) (i0 o0 i1 o1 i2 o2 i3 o3 i4 o4 i5 o5 i6 o6 : Nat) {g0 g1 g2 g3 g4 g5 g6 : Nat} {s0 s1 s2 s3 s4 s5 s6 : Array Value} {t0 t1 t2 t3 t4 t5 t6 : TypeId} {v0 v1 v2 v3 v4 v5 v6 : Value} (h0 : bx[i0]? = some (g0, s0, t0) := by exact rfl) (k0 : s0[o0]? = some v0 := by exact rfl) (h1 : bx[i1]? = some (g1, s1, t1) := by exact rfl) (k1 : s1[o1]? = some v1 := by exact rfl) (h2 : bx[i2]? = some (g2, s2, t2) := by exact rfl) (k2 : s2[o2]? = some v2 := by exact rfl) (h3 : bx[i3]? = some (g3, s3, t3) := by exact rfl) (k3 : s3[o3]? = some v3 := by exact rfl) (h4 : bx[i4]? = some (g4, s4, t4) := by exact rfl) (k4 : s4[o4]? = some v4 := by exact rfl) (h5 : bx[i5]? = some (g5, s5, t5) := by exact rfl) (k5 : s5[o5]? = some v5 := by exact rfl) (h6 : bx[i6]? = some (g6, s6, t6) := by exact rfl) (k6 : s6[o6]? = some v6 := by exact rfl) : wr.cell? ⟨g0, o0, none⟩ = some v0 ∧ wr.cell? ⟨g1, o1, none⟩ = some v1 ∧ wr.cell? ⟨g2, o2, none⟩ = some v2 ∧ wr.cell? ⟨g3, o3, none⟩ = some v3 ∧ wr.cell? ⟨g4, o4, none⟩ = some v4 ∧ wr.cell? ⟨g5, o5, none⟩ = some v5 ∧ wr.cell? ⟨g6, o6, none⟩ = some v6 := ⟨h.cellAt i0 h0 o0 k0, h.cellAt i1 h1 o1 k1, h.cellAt i2 h2 o2 k2, h.cellAt i3 h3 o3 k3, h.cellAt i4 h4 o4 k4, h.cellAt i5 h5 o5 k5, h.cellAt i6 h6 o6 k6⟩
theorem sN {w w' : World} {a0 a1 a2 a3 a4 a5 a6 a7 : Addr} {v0 v1 v2 v3 v4 v5 v6 v7 : Value} (hb : Below w.heap.size w w') (h0 : w.cell? a0 = some v0) (h1 : w.cell? a1 = some v1) (h2 : w.cell? a2 = some v2) (h3 : w.cell? a3 = some v3) (h4 : w.cell? a4 = some v4) (h5 : w.cell? a5 = some v5) (h6 : w.cell? a6 = some v6) (h7 : w.cell? a7 = some v7) : w'.cell? a0 = some v0 ∧ w'.cell? a1 = some v1 ∧ w'.cell? a2 = some v2 ∧ w'.cell? a3 = some v3 ∧ w'.cell? a4 = some v4 ∧ w'.cell? a5 = some v5 ∧ w'.cell? a6 = some v6 ∧ w'.cell? a7 = some v7 := ⟨cellL hb h0, cellL hb h1, cellL hb h2, cellL hb h3, cellL hb h4, cellL hb h5, cellL hb h6, cellL hb h7⟩
theorem St.c8 {w : World} {B : Nat} {wr : World} {bx : List (Nat × Array Value × TypeId)} (h : St w B wr bx) (i0 o0 i1 o1 i2 o2 i3 o3 i4 o4 i5 o5 i6 o6 i7 o7 : Nat) {g0 g1 g2 g3 g4 g5 g6 g7 : Nat} {s0 s1 s2 s3 s4 s5 s6 s7 : Array Value} {t0 t1 t2 t3 t4 t5 t6 t7 : TypeId} {v0 v1 v2 v3 v4 v5 v6 v7 : Value} (h0 : bx[i0]? = some (g0, s0, t0) := by exact rfl) (k0 : s0[o0]? = some v0 := by exact rfl) (h1 : bx[i1]? = some (g1, s1, t1) := by exact rfl) (k1 : s1[o1]? = some v1 := by exact rfl) (h2 : bx[i2]? = some (g2, s2, t2) := by exact rfl) (k2 : s2[o2]? = some v2 := by exact rfl) (h3 : bx[i3]? = some (g3, s3, t3) := by exact rfl) (k3 : s3[o3]? = some v3 := by exact rfl) (h4 : bx[i4]? = some (g4, s4, t4) := by exact rfl) (k4 : s4[o4]? = some v4 := by exact rfl) (h5 : bx[i5]? = some (g5, s5, t5) := by exact rfl) (k5 : s5[o5]? = some v5 := by exact rfl) (h6 : bx[i6]? = some (g6, s6, t6) := by exact rfl) (k6 : s6[o6]? = some v6 := by exact rfl) (h7 : bx[i7]? = some (g7, s7, t7) := by exact rfl) (k7 : s7[o7]? = some v7 := by exact rfl) : wr.cell? ⟨g0, o0, none⟩ = some v0 ∧ wr.cell? ⟨g1, o1, none⟩ = some v1 ∧ wr.cell? ⟨g2, o2, none⟩ = some v2 ∧ wr.cell? ⟨g3, o3, none⟩ = some v3 ∧ wr.cell? ⟨g4, o4, none⟩ = some v4 ∧ wr.cell? ⟨g5, o5, none⟩ = some v5 ∧ wr.cell? ⟨g6, o6, none⟩ = some v6 ∧ wr.cell? ⟨g7, o7, none⟩ = some v7 := ⟨h.cellAt i0 h0 o0 k0, h.cellAt i1 h1 o1 k1, h.cellAt i2 h2 o2 k2, h.cellAt i3 h3 o3 k3, h.cellAt i4 h4 o4 k4, h.cellAt i5 h5 o5 k5, h.cellAt i6 h6 o6 k6, h.cellAt i7 h7 o7 k7⟩
theorem qH {p : Prop} (h : p) : Go.RowKit.Hid p := Lib.hid h
theorem qC {w w' : World} {a : Addr} {v : Value} (hb : Below w.heap.size w w') (h : w.cell? a = some v) : w'.cell? a = some v := cellL hb h
abbrev Plan.z (l : List Nat) (r : Plan) : Plan := match l with | [] => r | i :: l => .float i (Plan.z l r)
abbrev jI.z (l : List Nat) (r : jI) : jI := match l with | [] => r | i :: l => .float i (jI.z l r)
abbrev cI (w : World) (b o : Nat) (n : Int) : Prop := w.cell? ⟨b, o, none⟩ = some (.int .i64 n)
abbrev cV (w : World) (b o : Nat) (v : Value) : Prop := w.cell? ⟨b, o, none⟩ = some v
theorem hZ {B n : Nat} {w w2 : World} (hb : Below B w w2) (h : n ≤ w.heap.size := by first | exact Nat.le_refl _ | simp) : n ≤ w2.heap.size := Nat.le_trans h hb.size
theorem St.d2 {w : World} {B : Nat} {wr : World} {bx : List (Nat × Array Value × TypeId)} {R : Prop} (h : St w B wr bx) (i0 o0 i1 o1 : Nat) (r : R) {g0 g1 : Nat} {s0 s1 : Array Value} {t0 t1 : TypeId} {v0 v1 : Value} (h0 : bx[i0]? = some (g0, s0, t0) := by exact rfl) (k0 : s0[o0]? = some v0 := by exact rfl) (h1 : bx[i1]? = some (g1, s1, t1) := by exact rfl) (k1 : s1[o1]? = some v1 := by exact rfl) : wr.cell? ⟨g0, o0, none⟩ = some v0 ∧ wr.cell? ⟨g1, o1, none⟩ = some v1 ∧ R := ⟨h.cellAt i0 h0 o0 k0, h.cellAt i1 h1 o1 k1, r⟩
theorem St.d3 {w : World} {B : Nat} {wr : World} {bx : List (Nat × Array Value × TypeId)} {R : Prop} (h : St w B wr bx) (i0 o0 i1 o1 i2 o2 : Nat) (r : R) {g0 g1 g2 : Nat} {s0 s1 s2 : Array Value} {t0 t1 t2 : TypeId} {v0 v1 v2 : Value} (h0 : bx[i0]? = some (g0, s0, t0) := by exact rfl) (k0 : s0[o0]? = some v0 := by exact rfl) (h1 : bx[i1]? = some (g1, s1, t1) := by exact rfl) (k1 : s1[o1]? = some v1 := by exact rfl) (h2 : bx[i2]? = some (g2, s2, t2) := by exact rfl) (k2 : s2[o2]? = some v2 := by exact rfl) : wr.cell? ⟨g0, o0, none⟩ = some v0 ∧ wr.cell? ⟨g1, o1, none⟩ = some v1 ∧ wr.cell? ⟨g2, o2, none⟩ = some v2 ∧ R := ⟨h.cellAt i0 h0 o0 k0, h.cellAt i1 h1 o1 k1, h.cellAt i2 h2 o2 k2, r⟩
theorem St.d4 {w : World} {B : Nat} {wr : World} {bx : List (Nat × Array Value × TypeId)} {R : Prop} (h : St w B wr bx) (i0 o0 i1 o1 i2 o2 i3 o3 : Nat) (r : R) {g0 g1 g2 g3 : Nat} {s0 s1 s2 s3 : Array Value} {t0 t1 t2 t3 : TypeId} {v0 v1 v2 v3 : Value} (h0 : bx[i0]? = some (g0, s0, t0) := by exact rfl) (k0 : s0[o0]? = some v0 := by exact rfl) (h1 : bx[i1]? = some (g1, s1, t1) := by exact rfl) (k1 : s1[o1]? = some v1 := by exact rfl) (h2 : bx[i2]? = some (g2, s2, t2) := by exact rfl) (k2 : s2[o2]? = some v2 := by exact rfl) (h3 : bx[i3]? = some (g3, s3, t3) := by exact rfl) (k3 : s3[o3]? = some v3 := by exact rfl) : wr.cell? ⟨g0, o0, none⟩ = some v0 ∧ wr.cell? ⟨g1, o1, none⟩ = some v1 ∧ wr.cell? ⟨g2, o2, none⟩ = some v2 ∧ wr.cell? ⟨g3, o3, none⟩ = some v3 ∧ R := ⟨h.cellAt i0 h0 o0 k0, h.cellAt i1 h1 o1 k1, h.cellAt i2 h2 o2 k2, h.cellAt i3 h3 o3 k3, r⟩
theorem St.d5 {w : World} {B : Nat} {wr : World} {bx : List (Nat × Array Value × TypeId)} {R : Prop} (h : St w B wr bx) (i0 o0 i1 o1 i2 o2 i3 o3 i4 o4 : Nat) (r : R) {g0 g1 g2 g3 g4 : Nat} {s0 s1 s2 s3 s4 : Array Value} {t0 t1 t2 t3 t4 : TypeId} {v0 v1 v2 v3 v4 : Value} (h0 : bx[i0]? = some (g0, s0, t0) := by exact rfl) (k0 : s0[o0]? = some v0 := by exact rfl) (h1 : bx[i1]? = some (g1, s1, t1) := by exact rfl) (k1 : s1[o1]? = some v1 := by exact rfl) (h2 : bx[i2]? = some (g2, s2, t2) := by exact rfl) (k2 : s2[o2]? = some v2 := by exact rfl) (h3 : bx[i3]? = some (g3, s3, t3) := by exact rfl) (k3 : s3[o3]? = some v3 := by exact rfl) (h4 : bx[i4]? = some (g4, s4, t4) := by exact rfl) (k4 : s4[o4]? = some v4 := by exact rfl) : wr.cell? ⟨g0, o0, none⟩ = some v0 ∧ wr.cell? ⟨g1, o1, none⟩ = some v1 ∧ wr.cell? ⟨g2, o2, none⟩ = some v2 ∧ wr.cell? ⟨g3, o3, none⟩ = some v3 ∧ wr.cell? ⟨g4, o4, none⟩ = some v4 ∧ R := ⟨h.cellAt i0 h0 o0 k0, h.cellAt i1 h1 o1 k1, h.cellAt i2 h2 o2 k2, h.cellAt i3 h3 o3 k3, h.cellAt i4 h4 o4 k4, r⟩
theorem St.d6 {w : World} {B : Nat} {wr : World} {bx : List (Nat × Array Value × TypeId)} {R : Prop} (h : St w B wr bx) (i0 o0 i1 o1 i2 o2 i3 o3 i4 o4 i5 o5 : Nat) (r : R) {g0 g1 g2 g3 g4 g5 : Nat} {s0 s1 s2 s3 s4 s5 : Array Value} {t0 t1 t2 t3 t4 t5 : TypeId} {v0 v1 v2 v3 v4 v5 : Value} (h0 : bx[i0]? = some (g0, s0, t0) := by exact rfl) (k0 : s0[o0]? = some v0 := by exact rfl) (h1 : bx[i1]? = some (g1, s1, t1) := by exact rfl) (k1 : s1[o1]? = some v1 := by exact rfl) (h2 : bx[i2]? = some (g2, s2, t2) := by exact rfl) (k2 : s2[o2]? = some v2 := by exact rfl) (h3 : bx[i3]? = some (g3, s3, t3) := by exact rfl) (k3 : s3[o3]? = some v3 := by exact rfl) (h4 : bx[i4]? = some (g4, s4, t4) := by exact rfl) (k4 : s4[o4]? = some v4 := by exact rfl) (h5 : bx[i5]? = some (g5, s5, t5) := by exact rfl) (k5 : s5[o5]? = some v5 := by exact rfl) : wr.cell? ⟨g0, o0, none⟩ = some v0 ∧ wr.cell? ⟨g1, o1, none⟩ = some v1 ∧ wr.cell? ⟨g2, o2, none⟩ = some v2 ∧ wr.cell? ⟨g3, o3, none⟩ = some v3 ∧ wr.cell? ⟨g4, o4, none⟩ = some v4 ∧ wr.cell? ⟨g5, o5, none⟩ = some v5 ∧ R := ⟨h.cellAt i0 h0 o0 k0, h.cellAt i1 h1 o1 k1, h.cellAt i2 h2 o2 k2, h.cellAt i3 h3 o3 k3, h.cellAt i4 h4 o4 k4, h.cellAt i5 h5 o5 k5, r⟩
theorem St.d7 {w : World} {B : Nat} {wr : World} {bx : List (Nat × Array Value × TypeId)} {R : Prop} (h : St w B wr bx) (i0 o0 i1 o1 i2 o2 i3 o3 i4 o4 i5 o5 i6 o6 : Nat) (r : R) {g0 g1 g2 g3 g4 g5 g6 : Nat} {s0 s1 s2 s3 s4 s5 s6 : Array Value} {t0 t1 t2 t3 t4 t5 t6 : TypeId} {v0 v1 v2 v3 v4 v5 v6 : Value} (h0 : bx[i0]? = some (g0, s0, t0) := by exact rfl) (k0 : s0[o0]? = some v0 := by exact rfl) (h1 : bx[i1]? = some (g1, s1, t1) := by exact rfl) (k1 : s1[o1]? = some v1 := by exact rfl) (h2 : bx[i2]? = some (g2, s2, t2) := by exact rfl) (k2 : s2[o2]? = some v2 := by exact rfl) (h3 : bx[i3]? = some (g3, s3, t3) := by exact rfl) (k3 : s3[o3]? = some v3 := by exact rfl) (h4 : bx[i4]? = some (g4, s4, t4) := by exact rfl) (k4 : s4[o4]? = some v4 := by exact rfl) (h5 : bx[i5]? = some (g5, s5, t5) := by exact rfl) (k5 : s5[o5]? = some v5 := by exact rfl) (h6 : bx[i6]? = some (g6, s6, t6) := by exact rfl) (k6 : s6[o6]? = some v6 := by exact rfl) : wr.cell? ⟨g0, o0, none⟩ = some v0 ∧ wr.cell? ⟨g1, o1, none⟩ = some v1 ∧ wr.cell? ⟨g2, o2, none⟩ = some v2 ∧ wr.cell? ⟨g3, o3, none⟩ = some v3 ∧ wr.cell? ⟨g4, o4, none⟩ = some v4 ∧ wr.cell? ⟨g5, o5, none⟩ = some v5 ∧ wr.cell? ⟨g6, o6, none⟩ = some v6 ∧ R := ⟨h.cellAt i0 h0 o0 k0, h.cellAt i1 h1 o1 k1, h.cellAt i2 h2 o2 k2, h.cellAt i3 h3 o3 k3, h.cellAt i4 h4 o4 k4, h.cellAt i5 h5 o5 k5, h.cellAt i6 h6 o6 k6, r⟩
theorem St.d8 {w : World} {B : Nat} {wr : World} {bx : List (Nat × Array Value × TypeId)} {R : Prop} (h : St w B wr bx) (i0 o0 i1 o1 i2 o2 i3 o3 i4 o4 i5 o5 i6 o6 i7 o7 : Nat) (r : R) {g0 g1 g2 g3 g4 g5 g6 g7 : Nat} {s0 s1 s2 s3 s4 s5 s6 s7 : Array Value} {t0 t1 t2 t3 t4 t5 t6 t7 : TypeId} {v0 v1 v2 v3 v4 v5 v6 v7 : Value} (h0 : bx[i0]? = some (g0, s0, t0) := by exact rfl) (k0 : s0[o0]? = some v0 := by exact rfl) (h1 : bx[i1]? = some (g1, s1, t1) := by exact rfl) (k1 : s1[o1]? = some v1 := by exact rfl) (h2 : bx[i2]? = some (g2, s2, t2) := by exact rfl) (k2 : s2[o2]? = some v2 := by exact rfl) (h3 : bx[i3]? = some (g3, s3, t3) := by exact rfl) (k3 : s3[o3]? = some v3 := by exact rfl) (h4 : bx[i4]? = some (g4, s4, t4) := by exact rfl) (k4 : s4[o4]? = some v4 := by exact rfl) (h5 : bx[i5]? = some (g5, s5, t5) := by exact rfl) (k5 : s5[o5]? = some v5 := by exact rfl) (h6 : bx[i6]? = some (g6, s6, t6) := by exact rfl) (k6 : s6[o6]? = some v6 := by exact rfl) (h7 : bx[i7]? = some (g7, s7, t7) := by exact rfl) (k7 : s7[o7]? = some v7 := by exact rfl) : wr.cell? ⟨g0, o0, none⟩ = some v0 ∧ wr.cell? ⟨g1, o1, none⟩ = some v1 ∧ wr.cell? ⟨g2, o2, none⟩ = some v2 ∧ wr.cell? ⟨g3, o3, none⟩ = some v3 ∧ wr.cell? ⟨g4, o4, none⟩ = some v4 ∧ wr.cell? ⟨g5, o5, none⟩ = some v5 ∧ wr.cell? ⟨g6, o6, none⟩ = some v6 ∧ wr.cell? ⟨g7, o7, none⟩ = some v7 ∧ R := ⟨h.cellAt i0 h0 o0 k0, h.cellAt i1 h1 o1 k1, h.cellAt i2 h2 o2 k2, h.cellAt i3 h3 o3 k3, h.cellAt i4 h4 o4 k4, h.cellAt i5 h5 o5 k5, h.cellAt i6 h6 o6 k6, h.cellAt i7 h7 o7 k7, r⟩
theorem wU {P : Program} {ops : Array Oper} {Q : Exit → Act → World → Prop} {S : World → Prop} {i : Nat} {dst : Option Tmp} {op : Op} {ty : TypeId} {pos : String} {after : Array Edge} {guard : Option (Nat × Bool)} {rest : List (Nat × Nat)} {a : Act} {w : World} (h : ∀ K : Act → World → Prop, (∀ a w, S w ∧ rH P ops Q S rest a w → K a w) → Oper.wp P ⟨dst, op, ty, pos, after, guard⟩ a w K Q) (ho : ops[i]? = some ⟨dst, op, ty, pos, after, guard⟩ := by exact rfl) (hw : Region.wanted ⟨dst, op, ty, pos, after, guard⟩ (yielded ops a.tmps) = true := by rfl) : rH P ops Q S ((i, 1) :: rest) a w := adl ho hw h
theorem XU {P : Program} {ops : Array Oper} {Q : Exit → Act → World → Prop} {S : World → Prop} {i : Nat} {dst : Option Tmp} {op : Op} {ty : TypeId} {pos : String} {after : Array Edge} {guard : Option (Nat × Bool)} {rest : List (Nat × Nat)} {a : Act} {w : World} (h : ∀ K : Act → World → Prop, (∀ a w, rH P ops Q S rest a w → K a w) → Oper.wp P ⟨dst, op, ty, pos, after, guard⟩ a w K Q) (ho : ops[i]? = some ⟨dst, op, ty, pos, after, guard⟩ := by exact rfl) (hw : Region.wanted ⟨dst, op, ty, pos, after, guard⟩ (yielded ops a.tmps) = true := by rfl) : rH P ops Q S ((i, 2) :: rest) a w := adn ho hw h
theorem wW {P : Program} {ops : Array Oper} {Q : Exit → Act → World → Prop} {S : World → Prop} {i : Nat} {dst : Option Tmp} {op : Op} {ty : TypeId} {pos : String} {after : Array Edge} {guard : Option (Nat × Bool)} {rest : Plan} {a : Act} {w : World} (h : ∀ K : Act → World → Prop, (∀ a w, S w ∧ eP P ops Q S rest a w → K a w) → Oper.wp P ⟨dst, op, ty, pos, after, guard⟩ a w K Q) (ho : ops[i]? = some ⟨dst, op, ty, pos, after, guard⟩ := by exact rfl) (hw : Region.wanted ⟨dst, op, ty, pos, after, guard⟩ (yielded ops a.tmps) = true := by rfl) : eP P ops Q S (.hard i rest) a w := adp ho hw h
theorem Zl {P : Program} {ops : Array Oper} {Q : Exit → Act → World → Prop} {S : World → Prop} {i : Nat} {dst : Option Tmp} {op : Op} {ty : TypeId} {pos : String} {after : Array Edge} {guard : Option (Nat × Bool)} {rest : Plan} {a : Act} {w : World} (h : ∀ K : Act → World → Prop, (∀ a w, eP P ops Q S rest a w → K a w) → Oper.wp P ⟨dst, op, ty, pos, after, guard⟩ a w K Q) (ho : ops[i]? = some ⟨dst, op, ty, pos, after, guard⟩ := by exact rfl) (hw : Region.wanted ⟨dst, op, ty, pos, after, guard⟩ (yielded ops a.tmps) = true := by rfl) : eP P ops Q S (.last i rest) a w := adq ho hw h
theorem gX {P : Program} {ops : Array Oper} {Q : Exit → Act → World → Prop} {S : World → Prop} {i : Nat} {dst : Option Tmp} {op : Op} {ty : TypeId} {pos : String} {after : Array Edge} {guard : Option (Nat × Bool)} {rest : jI} {a : Act} {w : World} (h : ∀ K : Act → World → Prop, (∀ a w, S w ∧ dA P ops Q S rest a w → K a w) → Oper.wp P ⟨dst, op, ty, pos, after, guard⟩ a w K Q) (ho : ops[i]? = some ⟨dst, op, ty, pos, after, guard⟩ := by exact rfl) (hw : Region.wanted ⟨dst, op, ty, pos, after, guard⟩ (yielded ops a.tmps) = true := by rfl) : dA P ops Q S (.hard i rest) a w := ads ho hw h
theorem JY {P : Program} {ops : Array Oper} {Q : Exit → Act → World → Prop} {S : World → Prop} {i : Nat} {dst : Option Tmp} {op : Op} {ty : TypeId} {pos : String} {after : Array Edge} {guard : Option (Nat × Bool)} {rest : jI} {a : Act} {w : World} (h : ∀ K : Act → World → Prop, (∀ a w, dA P ops Q S rest a w → K a w) → Oper.wp P ⟨dst, op, ty, pos, after, guard⟩ a w K Q) (ho : ops[i]? = some ⟨dst, op, ty, pos, after, guard⟩ := by exact rfl) (hw : Region.wanted ⟨dst, op, ty, pos, after, guard⟩ (yielded ops a.tmps) = true := by rfl) : dA P ops Q S (.last i rest) a w := adt ho hw h
end Go.Proofs.YtoblfnoaepbhfaaGreat
