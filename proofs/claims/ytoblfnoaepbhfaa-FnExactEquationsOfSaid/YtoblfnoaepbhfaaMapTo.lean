/-
  PLAIN: a list that is turned element by element; what elimination keeps; reading an element of what is owned.
-/
import Derived.Test.YtoblfnoaepbhfaaIp
import Derived.Test.YtoblfnoaepbhfaaRref
import Derived.Test.YtoblfnoaepbhfaaIsRef
namespace Go.Proofs.Ytoblfnoaepbhfaa
open Go.RowKit
open Rep (Rd Own sz)
set_option linter.unusedSimpArgs false
set_option linter.unusedVariables false

def mapTo {α : Type} (f : Nat → α → α) (l : List α) (j : Nat) : List α := (l.take j).mapIdx f ++ l.drop j
@[simp] theorem mapTo_length {α : Type} (f : Nat → α → α) (l : List α) (j : Nat) : (mapTo f l j).length = l.length := by simp [mapTo]; omega
theorem mapTo_zero {α : Type} (f : Nat → α → α) (l : List α) : mapTo f l 0 = l := by simp [mapTo]
theorem mapTo_all {α : Type} (f : Nat → α → α) (l : List α) : mapTo f l l.length = l.mapIdx f := by simp [mapTo]
theorem mapTo_get {α : Type} (f : Nat → α → α) (l : List α) (j : Nat) (h : j < l.length) (h' : j < (mapTo f l j).length) : (mapTo f l j)[j] = l[j] := by
  simp only [mapTo]
  rw [List.getElem_append_right (by simp; omega)]
  simp only [List.getElem_drop, List.length_mapIdx, List.length_take]
  congr 1
  omega
theorem mapTo_succ {α : Type} (f : Nat → α → α) (l : List α) (j : Nat) (h : j < l.length) : (mapTo f l j).set j (f j l[j]) = mapTo f l (j + 1) := by
  unfold mapTo
  have e : ((l.take j).mapIdx f).length = j := by simp; omega
  rw [List.set_append_right _ _ (by omega), e, Nat.sub_self, List.drop_eq_getElem_cons h, List.set_cons_zero, List.take_succ_eq_append_getElem h, List.mapIdx_concat, List.append_assoc]
  simp only [List.length_take, Nat.min_eq_left (Nat.le_of_lt h)]
  rfl
theorem mapTo_skip {α : Type} (f : Nat → α → α) (l : List α) (j : Nat) (h : j < l.length) (hf : f j l[j] = l[j]) : mapTo f l (j + 1) = mapTo f l j := by
  rw [← mapTo_succ f l j h, hf]
  have := mapTo_get f l j h (by simpa using h)
  rw [← this, List.set_getElem_self]
theorem mapTo_fix {α : Type} (f : Nat → α → α) (l : List α) (j d : Nat) (h : d < l.length) (hf : f d l[d] = l[d]) (h' : d < (mapTo f l j).length) : (mapTo f l j)[d] = l[d] := by
  simp only [mapTo]
  by_cases hd : d < j
  · rw [List.getElem_append_left (by simp; omega)]
    simp only [List.getElem_mapIdx, List.getElem_take]
    exact hf
  · rw [List.getElem_append_right (by simp; omega)]
    simp only [List.getElem_drop, List.length_mapIdx, List.length_take]
    congr 1
    omega
theorem elim_length {α : Type} (O : ROps α) (rows : List α) : ∀ u, (elimE O rows u).1.length = rows.length
  | 0 => rfl
  | u + 1 => by
    show (stepE O u (elimE O rows u)).1.length = _
    rw [← elim_length O rows u]
    unfold stepE
    split
    · rfl
    · simp [pivotE]
def elimS (x : Sys) : List SRow × List Int := elimE (opsS x.1) (rowsS x.2.2.length 0 x.2.2) x.2.1.toNat
def elimI (x : Sys) : List RowT × List Int := elimE (opsI x.1) (rowsI x.2.2.length 0 x.2.2) x.2.1.toNat
theorem sys_good {p : Int} {U : Nat} {l : List Eqn} (hp : 2 ≤ p) (he : ∀ e, e ∈ l → eqnOk p U e = true) : AllG p U l.length (rowsS l.length 0 l) :=
  rowsS_good hp l 0 (fun e h => eqn_good (he e h))
def GoodR (p : Int) (U n : Nat) (r : RowT) : Prop := r.1.length = U + 1 ∧ r.2.length = n ∧ Res p r.1 ∧ Res p r.2
theorem elimI_map {p : Int} {U : Nat} {l : List Eqn} (hp : 2 ≤ p) (he : ∀ e, e ∈ l → eqnOk p U e = true) (k : Nat) (hk : k ≤ U) :
    elimE (opsI p) (rowsI l.length 0 l) k = ((elimE (opsS p) (rowsS l.length 0 l) k).1.map flat, (elimE (opsS p) (rowsS l.length 0 l) k).2) := by
  rw [← rows_flat]; exact elim_map (by omega) (sys_good hp he) k hk
theorem elimI_facts {p : Int} {U : Nat} {l : List Eqn} (hp : p = 2 ∨ p = 3) (he : ∀ e, e ∈ l → eqnOk p U e = true) (k : Nat) (hk : k ≤ U) :
    (elimE (opsI p) (rowsI l.length 0 l) k).1.length = l.length ∧ (elimE (opsI p) (rowsI l.length 0 l) k).2.length ≤ l.length ∧ ∀ r, r ∈ (elimE (opsI p) (rowsI l.length 0 l) k).1 → GoodR p U l.length r := by
  have hg := sys_good (by omega) he
  rw [elimI_map (by omega) he k hk]
  have hL := (elim_length (opsS p) (rowsS l.length 0 l) k).trans (rowsS_length _ l 0)
  refine ⟨by simpa using hL, ?_, fun r hr => ?_⟩
  · have := (rref_elim hp hg k hk).le; simp only; omega
  · obtain ⟨s, hs, rfl⟩ := List.mem_map.1 hr
    exact flat_good (elim_good (by omega) hg k s hs)
/-- The cells of an element of two cells. -/
theorem ip_two {α : Type} [Rep α] (hα : sz α = 2) {A : Nat → Prop} {w : World} {g n c : Nat} {l : List α} (h : Ip A w [.slice (some ⟨g, 0, none⟩) n c] l) (i : Nat) (hi : i < l.length) :
    ∃ v0 v1, w.cell? ⟨g, i * 2, none⟩ = some v0 ∧ w.cell? ⟨g, i * 2 + 1, none⟩ = some v1 ∧ Rd w [v0, v1] l[i] ∧ (∀ q, w.frozen? ⟨g, q, none⟩ = false) ∧ A g ∧ g < w.heap.size := by
  obtain ⟨g', o, c', cur, e, hv, _, _, hh, hA, _⟩ := ip_form h (by omega)
  simp only [Value.slice.injEq, Option.some.injEq, Addr.mk.injEq, and_true] at hv
  obtain ⟨⟨rfl, rfl⟩, rfl, rfl⟩ := hv
  obtain ⟨b, o, v0, v1, e, h0, h1, hr⟩ := rd_two_at hα h.rd i hi
  simp only [Option.some.injEq, Addr.mk.injEq, and_true] at e
  obtain ⟨rfl, rfl⟩ := e
  rw [Nat.zero_add] at h0 h1
  exact ⟨v0, v1, h0, h1, hr, fun q => free_at_block hh, hA, (Array.getElem?_eq_some_iff.1 hh).1⟩
theorem ip_swap2 {α : Type} [Rep α] (hα : sz α = 2) {A : Nat → Prop} {w : World} {g n c : Nat} {l : List α} (h : Ip A w [.slice (some ⟨g, 0, none⟩) n c] l) (d : α) (i j : Nat) (hil : i < l.length) (hjl : j < l.length) {v0 v1 u0 u1 : Value}
    (c0 : w.cell? ⟨g, i * 2, none⟩ = some v0) (c1 : w.cell? ⟨g, i * 2 + 1, none⟩ = some v1) (d0 : w.cell? ⟨g, j * 2, none⟩ = some u0) (d1 : w.cell? ⟨g, j * 2 + 1, none⟩ = some u1) :
    Ip A ((((w.setCell ⟨g, i * 2, none⟩ u0).setCell ⟨g, i * 2 + 1, none⟩ u1).setCell ⟨g, j * 2, none⟩ v0).setCell ⟨g, j * 2 + 1, none⟩ v1) [.slice (some ⟨g, 0, none⟩) n c] (swapL d l i j) := by
  have := ip_swap h d i j hil hjl (vi := [v0, v1]) (vj := [u0, u1]) (by rw [hα]; rfl) (by rw [hα]; rfl)
    (fun k hk => by
      rw [hα] at hk ⊢
      rw [Nat.zero_add]
      match k, hk with
      | 0, _ => simpa using c0
      | 1, _ => simpa using c1)
    (fun k hk => by
      rw [hα] at hk ⊢
      rw [Nat.zero_add]
      match k, hk with
      | 0, _ => simpa using d0
      | 1, _ => simpa using d1)
  rw [hα, Nat.zero_add, Nat.zero_add] at this
  exact this
theorem ip_put2 {α : Type} [Rep α] (hα : sz α = 2) {A B : Nat → Prop} {w : World} {g n c : Nat} {l : List α} (h : Ip A w [.slice (some ⟨g, 0, none⟩) n c] l) (j : Nat) (hj : j < l.length) {v0 v1 : Value} {y : α} (hy : Ip B w [v0, v1] y) (hAB : ∀ k, A k → ¬ B k) :
    Ip (fun k => A k ∨ B k) ((w.setCell ⟨g, j * 2, none⟩ v0).setCell ⟨g, j * 2 + 1, none⟩ v1) [.slice (some ⟨g, 0, none⟩) n c] (l.set j y) := by
  have := ip_put h j hj hy hAB
  rw [hα, Nat.zero_add] at this
  exact this

end Go.Proofs.Ytoblfnoaepbhfaa
