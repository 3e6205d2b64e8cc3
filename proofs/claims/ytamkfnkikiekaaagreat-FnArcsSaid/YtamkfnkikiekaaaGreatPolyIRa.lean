/-
  PLAIN: the search for polymorphisms, the program's side: a table that grows and is cut, the search's memory.
-/
import Derived.Test.YtamkfnkikiekaaaGreatPolyMRa
import Derived.Test.YtamkfnkikiekaaaGreatRowsBRa
namespace Go.Proofs.YtamkfnkikiekaaaGreat
open Go.RowKit
open Rep (Rd Own sz)
set_option linter.unusedSimpArgs false
set_option linter.unusedVariables false

theorem row_take {w : World} {e : TypeId} {z : Nat} {g n c : Nat} {xs : List Value} (h : w.ownsRow 0 e z (.slice (some ⟨g, 0, none⟩) n c) n xs) {k : Nat} (hk : k ≤ n) : w.ownsRow 0 e z (.slice (some ⟨g, 0, none⟩) k c) k (xs.take (k * z)) := by
  obtain ⟨h1, h2⟩ := h
  have hkz : k * z ≤ n * z := Nat.mul_le_mul_right _ hk
  refine ⟨by rw [List.length_take, h1]; omega, .inr ?_⟩
  rcases h2 with ⟨h3, _⟩ | ⟨g', cap, cur, h3, h4, h5, h6, h7, h8, h9⟩
  · simp at h3
  · simp only [Value.slice.injEq, Option.some.injEq, Addr.mk.injEq] at h3
    obtain ⟨⟨rfl, _⟩, _, rfl⟩ := h3
    exact ⟨g, c, cur, rfl, h4, h5, by omega, h7, h8, by rw [← h9, List.take_take, Nat.min_eq_left hkz]⟩
/-- A slice that grows, cut. -/
theorem AccP.take {α : Type} [Rep α] {A : Nat → Prop} {e : TypeId} {w : World} {g c n : Nat} {l : List α} (h : AccP A e w (.slice (some ⟨g, 0, none⟩) n c) l) {k : Nat} (hk : k ≤ l.length) : AccP A e w (.slice (some ⟨g, 0, none⟩) k c) (l.take k) := by
  obtain ⟨xs, pss, h1, h2, h3, h4, h5⟩ := h
  have hn : n = l.length := by
    rcases h1.2 with ⟨e1, _⟩ | ⟨g', cap, cur, e1, _⟩
    · simp at e1
    · simp only [Value.slice.injEq] at e1; exact e1.2.1
  subst hn
  have hlk : (l.take k).length = k := by rw [List.length_take]; omega
  have hsub : ∀ z, z ∈ List.flatten (pss.take k) → z ∈ List.flatten pss := fun z hz => by
    rw [List.mem_flatten] at hz ⊢
    obtain ⟨p, hp, hzp⟩ := hz
    exact ⟨p, List.mem_of_mem_take hp, hzp⟩
  refine ⟨xs.take (k * sz α), pss.take k, by rw [hlk]; exact row_take h1 hk, by rw [List.length_take, h2, hlk]; omega, ?_, ?_, fun i hi => ?_⟩
  · simp only [Value.ownBlock, Option.toList_some, List.singleton_append, List.nodup_cons] at h3 ⊢
    refine ⟨fun h => h3.1 (hsub _ h), ?_⟩
    have e1 : List.flatten pss = List.flatten (pss.take k) ++ List.flatten (pss.drop k) := by rw [← List.flatten_append, List.take_append_drop]
    rw [e1, List.nodup_append] at h3
    exact h3.2.1
  · intro z hz
    simp only [Value.ownBlock, Option.toList_some, List.singleton_append, List.mem_cons] at hz
    refine h4 z ?_
    simp only [Value.ownBlock, Option.toList_some, List.singleton_append, List.mem_cons]
    rcases hz with hz | hz
    · exact .inl hz
    · exact .inr (hsub z hz)
  · rw [hlk] at hi
    obtain ⟨p, vs, hp, hO, hc⟩ := h5 i (by omega)
    refine ⟨p, vs, by rw [List.getElem?_take]; simp [hi, hp], by simpa using hO, fun q hq => ?_⟩
    have hq2 : q < sz α := by
      have := Rep.rd_len (Own.rd hO)
      omega
    have : i * sz α + q < k * sz α := by
      have h6 : (i + 1) * sz α ≤ k * sz α := Nat.mul_le_mul_right _ (by omega)
      rw [Nat.add_mul] at h6
      omega
    rw [List.getElem?_take, if_pos this]
    exact hc q hq
/-- The sets of the relations. -/
def insTo (t : Tmpl) (j : Nat) : List (List Bool) := (t.2.take j).map (fun r => setTo t.1 (t.1 ^ r.1.toNat).toNat r.2 r.2.length)
/-- The finder at block xb: its lists in block cb, the told values (none), the sets, the table. -/
structure FindR (lo hi H : Nat) (w : World) (t : Tmpl) (m xb cb n : Nat) (es ec tr te : TypeId) (pre : List Int) (steps : Nat) : Prop where
  fblk : ∃ aT cT sv fv tv, w.heap[xb]? = some (.cells #[.int .i64 t.1, .slice aT t.2.length cT, .int .i64 m, .slice (some ⟨cb, 0, none⟩) n n, sv, fv, .int .i64 steps, tv] tr (0, 0)) ∧
    RunM lo hi w cb n es ec sv (insTo t t.2.length) (dueL (looksTo t m t.2.length)) ∧ Ip (fun z => z < hi ∧ z ≠ xb) w [fv] (List.replicate n (-1 : Int)) ∧ AccP (fun z => H ≤ z) te w tv pre
  fdis : xb < lo ∧ xb ≠ cb ∧ lo ≤ hi ∧ hi ≤ H

section
variable {lo hi H : Nat} {w : World} {t : Tmpl} {m xb cb n : Nat} {es ec tr te : TypeId} {pre : List Int} {steps : Nat}
theorem RunM.cblo {α β : Type} [Rep α] [Rep β] {lo hi : Nat} {w : World} {cb n : Nat} {es ec : TypeId} {sv : Value} {S : List α} {L : Nat → List β} (h : RunM lo hi w cb n es ec sv S L) : cb < lo := by
  obtain ⟨f, cur, ty, h1, h2, h3, _⟩ := h
  exact h3
theorem FindR.frame (h : FindR lo hi H w t m xb cb n es ec tr te pre steps) {w' : World} (hs : w.heap.size ≤ w'.heap.size) (hx : w'.heap[xb]? = w.heap[xb]?) (hb : ∀ k, k < w.heap.size → k ≠ xb → (k < hi ∨ H ≤ k) → w'.heap[k]? = w.heap[k]?) : FindR lo hi H w' t m xb cb n es ec tr te pre steps := by
  obtain ⟨aT, cT, sv, fv, tv, h1, h2, h3, h4⟩ := h.fblk
  have d := h.fdis
  have hc := h2.cblo
  exact ⟨⟨aT, cT, sv, fv, tv, hx.trans h1, h2.frame hs (hb cb h2.lt (by omega) (.inl (by omega))) (fun k h5 h6 h7 => hb k h7 (by omega) (.inl h6)), h3.frame (fun k hk hl => hb k hl hk.2 (.inl hk.1)), h4.frame hs (fun k hk hl => hb k hl (by omega) (.inr hk))⟩, d⟩
theorem FindR.mono (h : FindR lo hi H w t m xb cb n es ec tr te pre steps) {w' : World} (hb : Below w.heap.size w w') : FindR lo hi H w' t m xb cb n es ec tr te pre steps := by
  obtain ⟨aT, cT, sv, fv, tv, h1, _⟩ := h.fblk
  exact h.frame hb.size (hb.block xb (Array.getElem?_eq_some_iff.1 h1).1) (fun k hk _ _ => hb.block k hk)
theorem FindR.setTab (h : FindR lo hi H w t m xb cb n es ec tr te pre steps) {w8 : World} (hb : ButP (fun z => H ≤ z) w w8) {tv : Value} {pre' : List Int} (ha : AccP (fun z => H ≤ z) te w8 tv pre') : FindR lo hi H (w8.setCell ⟨xb, 7, none⟩ tv) t m xb cb n es ec tr te pre' steps := by
  obtain ⟨aT, cT, sv, fv, tv0, h1, h2, h3, h4⟩ := h.fblk
  have d := h.fdis
  have hc := h2.cblo
  have h18 : w8.heap[xb]? = _ := (hb.block xb (Array.getElem?_eq_some_iff.1 h1).1 (by omega)).trans h1
  have h28 : RunM lo hi w8 cb n es ec sv (insTo t t.2.length) (dueL (looksTo t m t.2.length)) := h2.frame hb.size (hb.block cb h2.lt (by omega)) (fun k h5 h6 h7 => hb.block k h7 (by omega))
  have h38 : Ip (fun z => z < hi ∧ z ≠ xb) w8 [fv] (List.replicate n (-1 : Int)) := h3.butP hb (fun k hk => by omega)
  refine ⟨⟨aT, cT, sv, fv, tv, ?_, h28.setCell _ (by omega) (.inl (by omega)), h38.frame (fun k hk hl => Below.heap_setCell _ _ _ _ (fun e => hk.2 e)), AccP.setCell ha _ (by omega)⟩, d⟩
  rw [heap_setCell_at w8 xb 7 _ _ _ _ h18]; rfl
/-- What a step of the search reads. -/
theorem FindR.get (h : FindR lo hi H w t m xb cb n es ec tr te pre steps) : ∃ aF cF aV cV, w.cell? ⟨xb, 0, none⟩ = some (.int .i64 t.1) ∧ w.cell? ⟨xb, 2, none⟩ = some (.int .i64 m) ∧ w.cell? ⟨xb, 5, none⟩ = some (.slice aF n cF) ∧ w.cell? ⟨xb, 6, none⟩ = some (.int .i64 steps) ∧ w.cell? ⟨xb, 7, none⟩ = some (.slice aV pre.length cV) ∧
    w.frozen? ⟨xb, 6, none⟩ = false ∧ w.frozen? ⟨xb, 7, none⟩ = false ∧ Rd w [.slice aF n cF] (List.replicate n (-1 : Int)) ∧ AccP (fun z => H ≤ z) te w (.slice aV pre.length cV) pre := by
  obtain ⟨aT, cT, sv, fv, tv, h1, h2, h3, h4⟩ := h.fblk
  obtain ⟨aF, cF, rfl, _⟩ := rd_list h3.rd
  obtain ⟨aV, cV, rfl, _⟩ := h4.len
  rw [List.length_replicate] at h1 h3
  refine ⟨aF, cF, aV, cV, ?_, ?_, ?_, ?_, ?_, free_at_block h1, free_at_block h1, h3.rd, h4⟩ <;> (rw [cell_at_block h1]; rfl)
/-- The table is cut by one. -/
theorem FindR.cut {a : Int} (h : FindR lo hi H w t m xb cb n es ec tr te (pre ++ [a]) steps) : ∃ g c, w.cell? ⟨xb, 7, none⟩ = some (.slice (some ⟨g, 0, none⟩) (pre.length + 1) c) ∧ pre.length ≤ c ∧ w.frozen? ⟨xb, 7, none⟩ = false ∧ FindR lo hi H (w.setCell ⟨xb, 7, none⟩ (.slice (some ⟨g, 0, none⟩) pre.length c)) t m xb cb n es ec tr te pre steps := by
  obtain ⟨aF, cF, aV, cV, c0, c2, c5, c6, c7, f6, f7, hF, hA⟩ := h.get
  rw [show (pre ++ [a]).length = pre.length + 1 by simp] at c7 hA
  obtain ⟨g, hg, hc⟩ : ∃ g, aV = some ⟨g, 0, none⟩ ∧ pre.length + 1 ≤ cV := by
    obtain ⟨xs, pss, h1, h2⟩ := hA
    rcases h1.2 with ⟨e1, e2⟩ | ⟨g, cap, cur, e1, _, _, h5, _⟩
    · simp at e2
    · simp only [Value.slice.injEq] at e1
      simp only [List.length_append, List.length_singleton] at h5
      exact ⟨g, e1.1, by omega⟩
  subst hg
  refine ⟨g, cV, c7, by omega, f7, h.setTab (ButP.refl _ _) ?_⟩
  have := AccP.take hA (k := pre.length) (by simp)
  simpa using this
end
end Go.Proofs.YtamkfnkikiekaaaGreat

