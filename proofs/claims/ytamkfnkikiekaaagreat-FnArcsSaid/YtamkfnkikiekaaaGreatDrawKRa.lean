/-
  CONTRACTS: the templates and instances that the reference draws.
-/
import Derived.Test.YtamkfnkikiekaaaGreatDrawRa
namespace Go.Proofs.YtamkfnkikiekaaaGreat
open Go.RowKit Go.Shelf Go.IntWalk
open Rep (Rd Own sz)
set_option linter.unusedSimpArgs false
set_option linter.unusedVariables false

/-- The cells of a literal, and the blocks of what stands in them. -/
def LitR {α : Type} [Rep α] (w : World) (cells : List Value) (xs : List α) (ps : List Nat) : Prop :=
  ∃ pss : List (List Nat), ps = List.flatten pss ∧ pss.length = xs.length ∧ cells.length = xs.length * sz α ∧ ∀ i (hi : i < xs.length), ∃ p vs, pss[i]? = some p ∧ Own p w vs xs[i] ∧ ∀ k, k < vs.length → cells[i * sz α + k]? = vs[k]?
theorem lit_nil {α : Type} [Rep α] {w : World} : LitR (α := α) w [] [] [] := ⟨[], rfl, rfl, by simp, fun i hi => absurd hi (Nat.not_lt_zero _)⟩
theorem lit_cons {α : Type} [Rep α] {w : World} {p ps : List Nat} {vs cells : List Value} {x : α} {xs : List α} (h : Own p w vs x) (t : LitR w cells xs ps) : LitR w (vs ++ cells) (x :: xs) (p ++ ps) := by
  obtain ⟨pss, rfl, h1, h2, h3⟩ := t
  have hv := Rep.rd_len (Rep.own_rd h)
  refine ⟨p :: pss, by simp, by simp [h1], by simp [hv, h2, Nat.add_mul]; omega, fun i hi => ?_⟩
  cases i with
  | zero => exact ⟨p, vs, rfl, h, fun k hk => by simp [List.getElem?_append_left hk]⟩
  | succ i =>
    obtain ⟨q, us, g1, g2, g3⟩ := h3 i (by simpa using hi)
    refine ⟨q, us, by simpa using g1, by simpa using g2, fun k hk => ?_⟩
    rw [← g3 k hk, List.getElem?_append_right (by rw [Nat.add_mul]; omega)]
    congr 1
    rw [Nat.add_mul]; omega
theorem lit_done {α : Type} [Rep α] {w : World} {g : Nat} {cells : List Value} {cur : Array Value} {xs : List α} {ps : List Nat} {ty : TypeId} (t : LitR w cells xs ps) (h : w.heap[g]? = some (.cells cur ty (0, 0))) (hc : cur.toList = cells) (hm : xs.length ≤ 1000) : Own (g :: ps) w [.slice (some ⟨g, 0, none⟩) xs.length xs.length] xs := by
  obtain ⟨pss, rfl, h1, h2, h3⟩ := t
  subst hc
  refine ⟨_, rfl, .inr ⟨g, 0, xs.length, cur, ty, pss, rfl, Nat.le_refl _, by unfold maxLen; omega, h, rfl, h1, fun i hi => ?_⟩⟩
  obtain ⟨p, vs, g1, g2, g3⟩ := h3 i hi
  exact ⟨p, vs, g1, g2, fun k hk => by rw [← g3 k hk, Nat.zero_add]; simp⟩
theorem lit_int {w : World} {n : Int} (h : I64 n) : Own [] w [.int .i64 n] n := ⟨rfl, rfl, h⟩
theorem lit_rel {β : Type} [Rep β] {w : World} {ps : List Nat} {n : Int} {v : Value} {y : β} (h : I64 n) (h2 : Own ps w [v] y) : Own ps w [.int .i64 n, v] (n, y) := mk_own (p := []) ⟨rfl, rfl, h⟩ h2
theorem tmplOk_of {size : Int} {l : List RelT} (hs : 1 ≤ size ∧ size ≤ 4) (hl : l.length ≤ 6) (h : ∀ r, r ∈ l → relOk size r = true) : tmplOk (size, l) = true := by
  simp only [tmplOk, Bool.and_eq_true, decide_eq_true_eq, List.all_eq_true]
  exact ⟨⟨inB_mk hs, hl⟩, h⟩
theorem ip_relD {A : Nat → Prop} {w : World} {v : Value} {k : Int} {T : List (List Int)} (hk : I64 k) (h : Ip A w [v] T) : Ip A w [.int .i64 k, v] ((k, T) : RelT) := by
  obtain ⟨ps, h1, h2, h3⟩ := h
  exact ⟨ps, lit_rel hk h1, h2, h3⟩




end Go.Proofs.YtamkfnkikiekaaaGreat

