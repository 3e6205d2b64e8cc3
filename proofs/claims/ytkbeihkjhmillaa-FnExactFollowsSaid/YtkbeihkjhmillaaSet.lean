/-
  PLAIN: one number of an owned slice is written anew; a list that is turned number by number.
-/
import Derived.Test.YtkbeihkjhmillaaPut
namespace Go.Proofs.Ytkbeihkjhmillaa
open Go.RowKit
open Rep (Rd Own sz)
set_option linter.unusedSimpArgs false
set_option linter.unusedVariables false

/-- One number is written. -/
theorem iv_int_set {lo hi : Nat} {w : World} {v : Value} {l : List Int} (h : Iv lo hi w [v] l) (i : Nat) (hi' : i < l.length) :
    ∃ g o c, v = .slice (some ⟨g, o, none⟩) l.length c ∧ lo ≤ g ∧ g < hi ∧ w.cell? ⟨g, o + i, none⟩ = some (.int .i64 l[i]) ∧ w.frozen? ⟨g, o + i, none⟩ = false ∧ I64 l[i] ∧
      ∀ x, I64 x → Iv lo hi (w.setCell ⟨g, o + i, none⟩ (.int .i64 x)) [v] (l.set i x) := by
  obtain ⟨ps, h1, h2, h3⟩ := h
  have hI := (rdSl_int (rd_list (Rep.own_rd h1)).choose_spec.choose_spec.2 i hi').choose_spec.choose_spec.2.2
  obtain ⟨g, o, c, hv, hps, hc, hf, hs⟩ := ownSl_int (own_list h1) i hi'
  have e : l.getD i 0 = l[i] := by simp [List.getD, hi']
  rw [e] at hc hI
  have hg := h3 g (by rw [hps]; simp)
  exact ⟨g, o, c, hv, hg.1, hg.2, hc, hf, hI, fun x hx => ⟨ps, ⟨v, rfl, hs x hx⟩, h2, h3⟩⟩

theorem own_int_set {ps : List Nat} {w : World} {v : Value} {l : List Int} (h : OwnSl ps w v l) (i : Nat) (hi : i < l.length) :
    ∃ g o c, v = .slice (some ⟨g, o, none⟩) l.length c ∧ ps = [g] ∧ w.cell? ⟨g, o + i, none⟩ = some (.int .i64 l[i]) ∧ w.frozen? ⟨g, o + i, none⟩ = false ∧ I64 l[i] ∧
      ∀ x, I64 x → OwnSl ps (w.setCell ⟨g, o + i, none⟩ (.int .i64 x)) v (l.set i x) := by
  have hI := (rdSl_int (rd_list (Rep.own_rd (ps := ps) ⟨v, rfl, h⟩)).choose_spec.choose_spec.2 i hi).choose_spec.choose_spec.2.2
  obtain ⟨g, o, c, hv, hps, hc, hf, hs⟩ := ownSl_int h i hi
  have e : l.getD i 0 = l[i] := by simp [List.getD, hi]
  rw [e] at hc hI
  exact ⟨g, o, c, hv, hps, hc, hf, hI, hs⟩
theorem ownSl_only {α : Type} [Rep α] {ps qs : List Nat} {w w' : World} {v : Value} {l : List α} (h : OwnSl ps w v l) (hb : OnlyAt qs w w') (hd : ∀ k, k ∈ ps → k ∉ qs) : OwnSl ps w' v l := by
  have h2 : Own ps w [v] l := ⟨v, rfl, h⟩
  exact own_list (Own.only h2 hb hd)
theorem ownSl_mono {α : Type} [Rep α] {ps : List Nat} {w w' : World} {v : Value} {l : List α} (h : OwnSl ps w v l) (hb : Below w.heap.size w w') : OwnSl ps w' v l := by
  have h2 : Own ps w [v] l := ⟨v, rfl, h⟩
  exact own_list (Own.mono h2 hb)
theorem ownSl_heap {α : Type} [Rep α] {ps : List Nat} {w w' : World} {v : Value} {l : List α} (h : OwnSl ps w v l) (hb : w'.heap = w.heap) : OwnSl ps w' v l := by
  have h2 : Own ps w [v] l := ⟨v, rfl, h⟩
  exact own_list (Rep.own_frame (fun k _ => by rw [hb]) h2)
/-- A number that is read. -/
theorem rd_int_at {w : World} {a : Option Addr} {n c : Nat} {l : List Int} (h : Rd w [.slice a n c] l) (i : Nat) (hi : i < l.length) :
    ∃ b o, a = some ⟨b, o, none⟩ ∧ w.cell? ⟨b, o + i, none⟩ = some (.int .i64 l[i]) ∧ I64 l[i] := by
  obtain ⟨a', c', e, h⟩ := rd_list h
  simp only [Value.slice.injEq] at e
  obtain ⟨rfl, rfl, rfl⟩ := e
  obtain ⟨b, o, rfl, hc, hI⟩ := rdSl_int h i hi
  have e : l.getD i 0 = l[i] := by simp [List.getD, hi]
  rw [e] at hc hI
  exact ⟨b, o, rfl, hc, hI⟩
theorem rd_two_at {α : Type} [Rep α] (hα : sz α = 2) {w : World} {a : Option Addr} {n c : Nat} {l : List α} (h : Rd w [.slice a n c] l) (i : Nat) (hi : i < l.length) :
    ∃ b o v0 v1, a = some ⟨b, o, none⟩ ∧ w.cell? ⟨b, o + i * 2, none⟩ = some v0 ∧ w.cell? ⟨b, o + i * 2 + 1, none⟩ = some v1 ∧ Rd w [v0, v1] l[i] := by
  obtain ⟨a', c', e, h⟩ := rd_list h
  simp only [Value.slice.injEq] at e
  obtain ⟨rfl, rfl, rfl⟩ := e
  exact rdSl_two hα h i hi
theorem rd_three_at {α : Type} [Rep α] (hα : sz α = 3) {w : World} {a : Option Addr} {n c : Nat} {l : List α} (h : Rd w [.slice a n c] l) (i : Nat) (hi : i < l.length) :
    ∃ b o v0 v1 v2, a = some ⟨b, o, none⟩ ∧ w.cell? ⟨b, o + i * 3, none⟩ = some v0 ∧ w.cell? ⟨b, o + i * 3 + 1, none⟩ = some v1 ∧ w.cell? ⟨b, o + i * 3 + 2, none⟩ = some v2 ∧ Rd w [v0, v1, v2] l[i] := by
  obtain ⟨a', c', e, h⟩ := rd_list h
  simp only [Value.slice.injEq] at e
  obtain ⟨rfl, rfl, rfl⟩ := e
  exact rdSl_three hα h i hi
theorem small_mul {a b p k : Int} (ha : 0 ≤ a ∧ a < p) (hb : 0 ≤ b ∧ b < p) (hp : p ≤ 3) (hk0 : 0 ≤ k) (hk : k ≤ 100) : 0 ≤ k * b ∧ k * b ≤ 200 := by
  have : b = 0 ∨ b = 1 ∨ b = 2 := by omega
  rcases this with rfl | rfl | rfl <;> omega
/-- A store elsewhere. -/
theorem Iv.setOut {α : Type} [Rep α] {lo hi : Nat} {w : World} {vs : List Value} {x : α} (h : Iv lo hi w vs x) {a : Addr} (ha : a.block < lo ∨ hi ≤ a.block) (u : Value) : Iv lo hi (w.setCell a u) vs x :=
  h.frame (fun k hk hk' => Below.heap_setCell _ _ _ _ (by omega))
/-- Behind i rounds. -/
def zipTo (f : Int → Int → Int) (l m : List Int) (i : Nat) : List Int := List.zipWith f (l.take i) (m.take i) ++ l.drop i
theorem zipTo_length (f : Int → Int → Int) (l m : List Int) (i : Nat) (h1 : i ≤ l.length) (h2 : i ≤ m.length) : (zipTo f l m i).length = l.length := by simp [zipTo]; omega
theorem zipTo_zero (f : Int → Int → Int) (l m : List Int) : zipTo f l m 0 = l := by simp [zipTo]
theorem zipTo_get (f : Int → Int → Int) (l m : List Int) (i : Nat) (h1 : i < l.length) (h2 : i ≤ m.length) (h3 : i < (zipTo f l m i).length) : (zipTo f l m i)[i] = l[i] := by
  simp only [zipTo]
  rw [List.getElem_append_right (by simp; omega)]
  simp only [List.getElem_drop, List.length_zipWith, List.length_take]
  congr 1
  omega
theorem zipTo_succ (f : Int → Int → Int) (l m : List Int) (i : Nat) (h1 : i < l.length) (h2 : i < m.length) : (zipTo f l m i).set i (f l[i] m[i]) = zipTo f l m (i + 1) := by
  simp only [zipTo]
  have e : (List.zipWith f (l.take i) (m.take i)).length = i := by simp; omega
  rw [List.set_append_right _ _ (by omega), e, Nat.sub_self, List.drop_eq_getElem_cons h1, List.set_cons_zero, List.take_succ_eq_append_getElem h1, List.take_succ_eq_append_getElem h2, List.zipWith_append (by simp; omega), List.append_assoc]
  rfl
theorem zipTo_all (f : Int → Int → Int) (l m : List Int) (h : l.length ≤ m.length) : zipTo f l m l.length = List.zipWith f l m := by
  simp only [zipTo, List.take_length, List.drop_length, List.append_nil]
  apply List.ext_getElem?
  intro i
  simp only [List.getElem?_zipWith, List.getElem?_take]
  by_cases hi : i < l.length
  · simp [hi]
  · simp [hi]
theorem zipTo_all' (f : Int → Int → Int) (l m : List Int) : zipTo f l m m.length = List.zipWith f l m ++ l.drop m.length := by
  simp only [zipTo, List.take_length]
  congr 1
  apply List.ext_getElem?
  intro i
  simp only [List.getElem?_zipWith, List.getElem?_take]
  by_cases hi : i < m.length
  · simp [hi]
  · rw [if_neg hi, List.getElem?_eq_none (by omega : m.length ≤ i)]
    cases l[i]? <;> rfl
/-- All numbers of a list lie in [0, p). -/
def Res (p : Int) (l : List Int) : Prop := ∀ a, a ∈ l → 0 ≤ a ∧ a < p
theorem Res.get {p : Int} {l : List Int} (h : Res p l) (i : Nat) (hi : i < l.length) : 0 ≤ l[i] ∧ l[i] < p := h _ (List.getElem_mem hi)
theorem Res.i64 {p : Int} {l : List Int} (h : Res p l) (hp : p ≤ 1000) (i : Nat) (hi : i < l.length) : I64 l[i] := ⟨by have := h.get i hi; omega, by have := h.get i hi; omega⟩

end Go.Proofs.Ytkbeihkjhmillaa
