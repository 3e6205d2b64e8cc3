/-
  PLAIN: a row of the reference taken out of an owned slice of rows, written in place, and put back; two rows that change places.
-/
import Derived.Test.YtoblfnoaepbhfaaSRow
import Derived.Test.YtoblfnoaepbhfaaKinds
import Derived.Test.YtoblfnoaepbhfaaMapTo
namespace Go.Proofs.Ytoblfnoaepbhfaa
open Go.RowKit
open Rep (Rd Own sz)
set_option linter.unusedSimpArgs false
set_option linter.unusedVariables false

theorem putArr_row {cur : Array Value} {q : Nat} {v0 v2 : Value} (x : Value) (h0 : cur[q]? = some v0) (h2 : cur[q + 2]? = some v2) : putArr cur q [v0, x, v2] = cur.setIfInBounds (q + 1) x := by
  rw [putArr_same _ h0]
  show putArr (cur.setIfInBounds (q + 1) x) (q + 1 + 1) [v2] = _
  rw [putArr_same _ (by rw [Array.getElem?_setIfInBounds_ne (by omega)]; exact h2)]
  rfl
theorem ip_row {A : Nat → Prop} {w : World} {g n c : Nat} {l : List SRow} (h : Ip A w [.slice (some ⟨g, 0, none⟩) n c] l) (j : Nat) (hj : j < l.length) :
    ∃ cur e p0 p2 v0 v2, RowIn w g (j * 3) cur e p0 p2 v0 v2 l[j] ∧ (∀ k, k ∈ p0 ++ p2 → A k) ∧ A g ∧
      ∀ (w' : World) (x : Int) (r' : SRow), RowIn w' g (j * 3) (cur.setIfInBounds (j * 3 + 1) (.int .i64 x)) e p0 p2 v0 v2 r' → r'.2.1 = x → I64 x → OnlyAt (g :: (p0 ++ p2)) w w' → Ip A w' [.slice (some ⟨g, 0, none⟩) n c] (l.set j r') := by
  obtain ⟨ps, ho, hn, hA⟩ := h
  obtain ⟨g', o, c', cur, e, p, vs, hv, hblk, hO, hc, hgp, hgn, hpn, hpp, hput⟩ := own_elem (own_list ho) hn j hj
  simp only [Value.slice.injEq, Option.some.injEq, Addr.mk.injEq, and_true] at hv
  obtain ⟨⟨rfl, rfl⟩, rfl, rfl⟩ := hv
  have hl := Rep.rd_len (Rep.own_rd hO)
  obtain ⟨v0, v1, v2, rfl⟩ : ∃ v0 v1 v2, vs = [v0, v1, v2] := by
    match vs, hl with
    | [a, b, c], _ => exact ⟨a, b, c, rfl⟩
  obtain ⟨p0, q0, rfl, hO0, hO1⟩ := own_cons rfl hO
  obtain ⟨p1, p2, rfl, hO1, hO2⟩ := own_cons rfl hO1
  obtain ⟨rfl, rfl, hI⟩ := own_i1 hO1
  simp only [List.nil_append] at hgn hpn hpp hput
  have e3 : 0 + j * sz SRow = j * 3 := by rw [Nat.zero_add]; rfl
  have k0 : cur[j * 3]? = some v0 := by have := hc 0 (by simp); rw [e3] at this; simpa using this
  have k1 : cur[j * 3 + 1]? = some (.int .i64 l[j].2.1) := by have := hc 1 (by simp); rw [e3] at this; simpa using this
  have k2 : cur[j * 3 + 2]? = some v2 := by have := hc 2 (by simp); rw [e3] at this; simpa using this
  rw [List.nodup_append] at hpn
  refine ⟨cur, e, p0, p2, v0, v2, ⟨hblk, k0, k1, k2, own_list hO0, own_list hO2, fun h => hgn (by simp [h]), fun h => hgn (by simp [h]), fun k h1 h2 => hpn.2.2 k h1 k h2 rfl⟩, fun k hk => hA k (hpp k hk), hA g hgp, ?_⟩
  intro w' x r' hr hx hIx hon
  refine ⟨ps, ⟨_, rfl, hput w' [v0, .int .i64 x, v2] r' ?_ ?_ (fun k h1 h2 h3 => hon.block k (by simp only [List.mem_cons, not_or]; exact ⟨h3, h2⟩))⟩, hn, hA⟩
  · rw [e3, putArr_row _ k0 k2]; exact hr.blk
  · obtain ⟨r0, r1, r2⟩ := r'
    have hx : r1 = x := hx
    subst hx
    exact mk_own ⟨v0, rfl, hr.own0⟩ (mk_own (p := []) ⟨rfl, rfl, hIx⟩ ⟨v2, rfl, hr.own2⟩)
theorem ip_swap3 {α : Type} [Rep α] (hα : sz α = 3) {A : Nat → Prop} {w : World} {g n c : Nat} {l : List α} (h : Ip A w [.slice (some ⟨g, 0, none⟩) n c] l) (d : α) (i j : Nat) (hil : i < l.length) (hjl : j < l.length) {v0 v1 v2 u0 u1 u2 : Value}
    (c0 : w.cell? ⟨g, i * 3, none⟩ = some v0) (c1 : w.cell? ⟨g, i * 3 + 1, none⟩ = some v1) (c2 : w.cell? ⟨g, i * 3 + 2, none⟩ = some v2) (d0 : w.cell? ⟨g, j * 3, none⟩ = some u0) (d1 : w.cell? ⟨g, j * 3 + 1, none⟩ = some u1) (d2 : w.cell? ⟨g, j * 3 + 2, none⟩ = some u2) :
    Ip A ((((((w.setCell ⟨g, i * 3, none⟩ u0).setCell ⟨g, i * 3 + 1, none⟩ u1).setCell ⟨g, i * 3 + 2, none⟩ u2).setCell ⟨g, j * 3, none⟩ v0).setCell ⟨g, j * 3 + 1, none⟩ v1).setCell ⟨g, j * 3 + 2, none⟩ v2) [.slice (some ⟨g, 0, none⟩) n c] (swapL d l i j) := by
  have := ip_swap h d i j hil hjl (vi := [v0, v1, v2]) (vj := [u0, u1, u2]) (by rw [hα]; rfl) (by rw [hα]; rfl)
    (fun k hk => by
      rw [hα] at hk ⊢
      rw [Nat.zero_add]
      match k, hk with
      | 0, _ => simpa using c0
      | 1, _ => simpa using c1
      | 2, _ => simpa using c2)
    (fun k hk => by
      rw [hα] at hk ⊢
      rw [Nat.zero_add]
      match k, hk with
      | 0, _ => simpa using d0
      | 1, _ => simpa using d1
      | 2, _ => simpa using d2)
  rw [hα, Nat.zero_add, Nat.zero_add] at this
  exact this

end Go.Proofs.Ytoblfnoaepbhfaa
