/-
  PLAIN: a slot of an owned slice is written anew with blocks of what stood there; a row that takes some of a list's elements, their memory shared.
-/
import Derived.Test.YtjkjfjpajmjglaaGreatPairW
namespace Go.Proofs.YtjkjfjpajmjglaaGreat
open Go.RowKit
open Rep (Rd Own sz)
set_option linter.unusedSimpArgs false
set_option linter.unusedVariables false

theorem ip_change {α : Type} [Rep α] {A : Nat → Prop} {w : World} {g o n c : Nat} {l : List α} (h : Ip A w [.slice (some ⟨g, o, none⟩) n c] l) (j : Nat) (hj : j < l.length) :
    ∃ (p : List Nat) (us : List Value), Own p w us l[j] ∧ p.Nodup ∧ (∀ k, k ∈ p → A k) ∧ (∀ k, k < sz α → w.cell? ⟨g, o + j * sz α + k, none⟩ = us[k]?) ∧
      ∀ (w1 : World) (p' : List Nat) (vs : List Value) (y : α), Below w.heap.size w w1 → Own p' w1 vs y → p'.Nodup → (∀ k, k ∈ p' → k ∈ p ∨ w.heap.size ≤ k) →
        Ip (fun k => A k ∨ w.heap.size ≤ k) (putCells w1 g (o + j * sz α) vs) [.slice (some ⟨g, o, none⟩) n c] (l.set j y) := by
  obtain ⟨ps, hown, hn, hb⟩ := h
  have hlt := fun k hk => Rep.own_lt hown k hk
  obtain ⟨v', e', ho⟩ := hown
  obtain rfl : Value.slice (some ⟨g, o, none⟩) n c = v' := by simpa using e'
  rcases ho with ⟨rfl, _⟩ | ⟨g', o', c', cur, e, pss, hv, h1, h2, h3, rfl, h5, h6⟩
  · exact absurd hj (Nat.not_lt_zero _)
  simp only [Value.slice.injEq, Option.some.injEq, Addr.mk.injEq, and_true] at hv
  obtain ⟨⟨rfl, rfl⟩, rfl, rfl⟩ := hv
  have hjp : j < pss.length := by omega
  obtain ⟨p, us, hp, hO, hc⟩ := h6 j hj
  have hpj : pss[j] = p := by rw [List.getElem?_eq_getElem hjp] at hp; simpa using hp
  have hwhole : pss = pss.take j ++ p :: pss.drop (j + 1) := by
    conv => lhs; rw [← List.take_append_drop j pss, List.drop_eq_getElem_cons hjp, hpj]
  have hmem : ∀ k, k ∈ List.flatten (pss.take j) ∨ k ∈ p ∨ k ∈ List.flatten (pss.drop (j + 1)) → k ∈ g :: List.flatten pss := fun k hk => by
    refine List.mem_cons_of_mem _ ?_
    rw [hwhole, List.flatten_append, List.flatten_cons]
    rcases hk with hk | hk | hk <;> simp [hk]
  have hn2 := hn
  rw [hwhole, List.flatten_append, List.flatten_cons] at hn2
  simp only [List.nodup_cons, List.nodup_append, List.mem_append, not_or] at hn2
  obtain ⟨⟨n1, n2, n3⟩, n4, ⟨n5, n6, n7⟩, n8⟩ := hn2
  have hul := Rep.rd_len (Rep.own_rd hO)
  refine ⟨p, us, hO, n5, fun k hk => hb k (hmem k (.inr (.inl hk))), fun k hk => by rw [cell_at_block h3]; exact hc k (by omega), ?_⟩
  intro w1 p' vs y hbl hO' hn' hb'
  have hvl := Rep.rd_len (Rep.own_rd hO')
  have hsplit : pss.set j p' = pss.take j ++ p' :: pss.drop (j + 1) := List.set_eq_take_append_cons_drop .. |>.trans (by rw [if_pos hjp])
  have hgp' : g ∉ p' := fun hk => by
    rcases hb' g hk with h | h
    · exact n2 h
    · have := hlt g (by simp); omega
  have hnd : (g :: List.flatten (pss.set j p')).Nodup := by
    rw [hsplit, List.flatten_append, List.flatten_cons]
    simp only [List.nodup_cons, List.nodup_append, List.mem_append, not_or]
    refine ⟨⟨n1, hgp', n3⟩, n4, ⟨hn', n6, fun a ha b hbb => ?_⟩, fun a ha b hbb => ?_⟩
    · rcases hb' a ha with h | h
      · exact n7 a h b hbb
      · have := hlt b (hmem b (.inr (.inr hbb))); omega
    · rcases hbb with hbb | hbb
      · rcases hb' b hbb with h | h
        · exact n8 a ha b (.inl h)
        · have := hlt a (hmem a (.inl ha)); omega
      · exact n8 a ha b (.inr hbb)
  have hkeep : ∀ {β : Type} [Rep β] (q : List Nat) (xs : List Value) (z : β), Own q w1 xs z → g ∉ q → Own q (putCells w1 g (o + j * sz α) vs) xs z := by
    intro β _ q xs z hQ hgq
    exact Own.only hQ (putCells_only g vs _ w1) (fun k hk hkg => by obtain rfl : k = g := by simpa using hkg
                                                                    exact hgq hk)
  have h31 : w1.heap[g]? = some (.cells cur e (0, 0)) := (hbl.block g (hlt g (by simp))).trans h3
  refine ⟨g :: List.flatten (pss.set j p'), ⟨_, rfl, .inr ⟨g, o, c, _, e, pss.set j p', by simp, by simpa using h1, h2, putCells_heap g e (0, 0) vs _ w1 cur h31, rfl, by simpa using h5, fun i hi => ?_⟩⟩, hnd, fun k hk => ?_⟩
  · simp only [List.length_set] at hi
    obtain ⟨q, xs, hq, hQ, hcq⟩ := h6 i hi
    have hxl := Rep.rd_len (Rep.own_rd hQ)
    by_cases hij : j = i
    · subst hij
      refine ⟨p', vs, by simp [hjp], ?_, fun k hk => ?_⟩
      · simp only [List.getElem_set_self]
        exact hkeep p' vs y hO' hgp'
      · refine putArr_in vs _ k cur hk ?_
        have := hcq k (by omega)
        rw [List.getElem?_eq_getElem (by omega)] at this
        exact (Array.getElem?_eq_some_iff.1 this).1
    · refine ⟨q, xs, by rw [List.getElem?_set_ne hij]; exact hq, ?_, fun k hk => ?_⟩
      · simp only [List.getElem_set_ne hij]
        refine hkeep q xs _ (Own.mono hQ hbl) (fun hk => ?_)
        exact (List.nodup_cons.1 hn).1 (List.mem_flatten.2 ⟨q, List.mem_of_getElem? hq, hk⟩)
      · rw [putArr_out]
        · exact hcq k hk
        · have hks : k < sz α := by omega
          rcases Nat.lt_or_gt_of_ne hij with hlt | hlt
          · right
            have : (j + 1) * sz α ≤ i * sz α := Nat.mul_le_mul_right _ hlt
            rw [Nat.add_mul] at this
            omega
          · left
            have := idx_lt (s := sz α) hlt hks
            omega
  · rcases List.mem_cons.1 hk with rfl | hk
    · exact .inl (hb k (by simp))
    · rw [hsplit, List.flatten_append, List.flatten_cons] at hk
      rcases List.mem_append.1 hk with hk | hk
      · exact .inl (hb k (hmem k (.inl hk)))
      · rcases List.mem_append.1 hk with hk | hk
        · rcases hb' k hk with h | h
          · exact .inl (hb k (hmem k (.inr (.inl h))))
          · exact .inr h
        · exact .inl (hb k (hmem k (.inr (.inr hk))))

theorem flatten_sub {α : Type} {l m : List (List α)} (h : l.Sublist m) : l.flatten.Sublist m.flatten := by
  induction h with
  | slnil => exact List.Sublist.refl _
  | cons a _ ih => rw [List.flatten_cons]; exact List.sublist_append_of_sublist_right ih
  | cons_cons a _ ih => rw [List.flatten_cons, List.flatten_cons]; exact List.Sublist.append (List.Sublist.refl _) ih
/-- An element, the value that stands for it, the blocks that it owns. -/
abbrev Piece := List Int × Value × List Nat
theorem own_pieces {p : List Nat} {w : World} {a : Option Addr} {n c : Nat} {T : List (List Int)} (h : Own p w [.slice a n c] T) (hp : p.Nodup) :
    ∃ L : List Piece, L.map (·.1) = T ∧ (∀ i (hi : i < L.length), ∃ b o, a = some ⟨b, o, none⟩ ∧ w.cell? ⟨b, o + i, none⟩ = some L[i].2.1) ∧ (∀ e, e ∈ L → Rd w [e.2.1] e.1) ∧
      ∀ (M : List Piece) (w1 : World) (e : TypeId) (vN : Value), M.Sublist L → Below w.heap.size w w1 → w1.ownsRow 0 e 1 vN M.length (M.map (·.2.1)) → (∀ z, vN.ownBlock = some z → w.heap.size ≤ z) →
        ∃ p', Own p' w1 [vN] (M.map (·.1)) ∧ p'.Nodup ∧ ∀ k, k ∈ p' → k ∈ p ∨ w.heap.size ≤ k := by
  have hlt := fun k hk => Rep.own_lt h k hk
  have key : ∃ L : List Piece, L.map (·.1) = T ∧ (∀ i (hi : i < L.length), ∃ b o, a = some ⟨b, o, none⟩ ∧ w.cell? ⟨b, o + i, none⟩ = some L[i].2.1) ∧ (∀ e, e ∈ L → Own e.2.2 w [e.2.1] e.1) ∧ (List.flatten (L.map (·.2.2))).Nodup ∧ ∀ k, k ∈ List.flatten (L.map (·.2.2)) → k ∈ p := by
    obtain ⟨v', e', ho⟩ := h
    obtain rfl : Value.slice a n c = v' := by simpa using e'
    rcases ho with ⟨rfl, rfl, _⟩ | ⟨g, o, c', cur, e, pss, hv, h1, h2, h3, rfl, h5, h6⟩
    · exact ⟨[], rfl, fun i hi => absurd hi (Nat.not_lt_zero _), by simp, by simp, by simp⟩
    simp only [Value.slice.injEq] at hv
    obtain ⟨rfl, rfl, rfl⟩ := hv
    have hpl : pss.length = T.length := by simpa using h5
    refine ⟨(List.range T.length).map (fun i => (T.getD i [], (cur[o + i]?).getD (.int .i64 0), pss.getD i [])), ?_, ?_, ?_, ?_, ?_⟩
    · refine List.ext_getElem (by simp) (fun i h1 h2 => ?_)
      simp [List.getD, h2]
    · intro i hi
      simp only [List.length_map, List.length_range] at hi
      obtain ⟨q, vs, hq, hO, hc⟩ := h6 i hi
      have hvl : vs.length = 1 := Rep.rd_len (Rep.own_rd hO)
      have := hc 0 (by omega)
      refine ⟨g, o, rfl, ?_⟩
      rw [cell_at_block h3]
      rw [show o + i * sz (List Int) + 0 = o + i by simp [sz]] at this
      simp only [List.getElem_map, List.getElem_range]
      rw [this, List.getElem?_eq_getElem (by omega)]
      rfl
    · intro x hx
      obtain ⟨i, hi, rfl⟩ := List.mem_map.1 hx
      rw [List.mem_range] at hi
      obtain ⟨q, vs, hq, hO, hc⟩ := h6 i hi
      have hvl : vs.length = 1 := Rep.rd_len (Rep.own_rd hO)
      obtain ⟨u, rfl⟩ : ∃ u, vs = [u] := by
        match vs, hvl with
        | [u], _ => exact ⟨u, rfl⟩
      have := hc 0 (by simp)
      rw [show o + i * sz (List Int) + 0 = o + i by simp [sz]] at this
      simp only [this, List.getElem?_cons_zero, Option.getD_some]
      rw [show pss.getD i [] = q by simp [List.getD, hq], show T.getD i [] = T[i] by simp [List.getD, hi]]
      exact hO
    · have e1 : ((List.range T.length).map (fun i => ((T.getD i [], (cur[o + i]?).getD (.int .i64 0), pss.getD i []) : Piece))).map (·.2.2) = pss := by
        refine List.ext_getElem (by simp [hpl]) (fun i h1 h2 => ?_)
        simp [List.getD, h2]
      rw [e1]
      exact (List.nodup_cons.1 hp).2
    · have e1 : ((List.range T.length).map (fun i => ((T.getD i [], (cur[o + i]?).getD (.int .i64 0), pss.getD i []) : Piece))).map (·.2.2) = pss := by
        refine List.ext_getElem (by simp [hpl]) (fun i h1 h2 => ?_)
        simp [List.getD, h2]
      rw [e1]
      exact fun k hk => List.mem_cons_of_mem _ hk
  obtain ⟨L, hL1, hL2, hL3, hL4, hL5⟩ := key
  refine ⟨L, hL1, hL2, fun e he => Rep.own_rd (hL3 e he), fun M w1 e vN hM hbl hrow hfr => ?_⟩
  have ho := ownSl_of_row (α := List Int) (l := M.map (·.1)) (pss := M.map (·.2.2)) (e := e) (xs := M.map (·.2.1)) (v := vN) (w := w1) (by simpa [sz] using hrow) (by simp) (fun i hi => by
    simp only [List.length_map] at hi
    refine ⟨M[i].2.2, [M[i].2.1], by simp [hi], ?_, fun k hk => ?_⟩
    · simp only [List.getElem_map]
      exact Own.mono (hL3 _ (hM.subset (List.getElem_mem hi))) hbl
    · simp only [List.length_cons, List.length_nil] at hk
      obtain rfl : k = 0 := by omega
      simp [sz, hi])
  have hsub : (List.flatten (M.map (·.2.2))).Sublist (List.flatten (L.map (·.2.2))) := flatten_sub (hM.map _)
  refine ⟨_, ⟨vN, rfl, ho⟩, ?_, fun k hk => ?_⟩
  · rw [List.nodup_append]
    refine ⟨by cases vN.ownBlock <;> simp, hsub.nodup hL4, fun x hx y hy => ?_⟩
    have h1 := hfr x (by simpa using hx)
    have h2 := hlt y (hL5 y (hsub.subset hy))
    omega
  · rcases List.mem_append.1 hk with hk | hk
    · exact .inr (hfr k (by simpa using hk))
    · exact .inl (hL5 k (hsub.subset hk))
/-- A relation of the list is cut where it stands. -/
theorem rel_change {A : Nat → Prop} {w : World} {vp : Value} {P : List RelT} (h : Ip A w [vp] P) (j : Nat) (hj : j < P.length) :
    ∃ g o c m a cc, vp = .slice (some ⟨g, o, none⟩) P.length c ∧ A g ∧ (∃ cur e, w.heap[g]? = some (.cells cur e (0, 0))) ∧ P[j].1 = m ∧ w.cell? ⟨g, o + j * 2, none⟩ = some (.int .i64 m) ∧ w.cell? ⟨g, o + j * 2 + 1, none⟩ = some (.slice a P[j].2.length cc) ∧ Rd w [.slice a P[j].2.length cc] P[j].2 ∧
      ∃ L : List Piece, L.map (·.1) = P[j].2 ∧ (∀ i (hi : i < L.length), ∃ b o, a = some ⟨b, o, none⟩ ∧ w.cell? ⟨b, o + i, none⟩ = some L[i].2.1) ∧ (∀ e, e ∈ L → Rd w [e.2.1] e.1) ∧
        ∀ (M : List Piece) (w1 : World) (e : TypeId) (vN : Value) (k : Int), I64 k → M.Sublist L → Below w.heap.size w w1 → w1.ownsRow 0 e 1 vN M.length (M.map (·.2.1)) → (∀ z, vN.ownBlock = some z → w.heap.size ≤ z) →
          Ip (fun z => A z ∨ w.heap.size ≤ z) ((w1.setCell ⟨g, o + j * 2, none⟩ (.int .i64 k)).setCell ⟨g, o + j * 2 + 1, none⟩ vN) [vp] (P.set j (k, M.map (·.1))) := by
  obtain ⟨g, o, c, cur, e, rfl, _, _, hh, hA, _⟩ := ip_form h (by omega)
  obtain ⟨p, us, hO, hnd, hpA, hcell, hput⟩ := ip_change h j hj
  have hul : us.length = 2 := Rep.rd_len (Rep.own_rd hO)
  obtain ⟨u0, u1, rfl⟩ : ∃ u0 u1, us = [u0, u1] := by
    match us, hul with
    | [u0, u1], _ => exact ⟨u0, u1, rfl⟩
  obtain ⟨p1, p2, rfl, hO1, hO2⟩ := own_cons rfl hO
  obtain ⟨rfl, hI⟩ := rd_i1 (Rep.own_rd hO1)
  obtain ⟨rfl, _⟩ := hO1
  obtain ⟨a, cc, rfl, hR⟩ := rd_list (Rep.own_rd hO2)
  obtain ⟨L, hL1, hL2, hL3, hL4⟩ := own_pieces hO2 (by simpa using hnd)
  have hc0 := hcell 0 (show 0 < 2 by omega)
  have hc1 := hcell 1 (show 1 < 2 by omega)
  have esz : sz RelT = 2 := rfl
  rw [esz] at hc0 hc1
  refine ⟨g, o, c, _, a, cc, rfl, hA, ⟨cur, e, hh⟩, rfl, by simpa using hc0, by simpa using hc1, Rep.own_rd hO2, L, hL1, hL2, hL3, fun M w1 e vN k hk hM hbl hrow hfr => ?_⟩
  obtain ⟨p', hp1, hp2, hp3⟩ := hL4 M w1 e vN hM hbl hrow hfr
  have h9 := hput w1 p' [.int .i64 k, vN] (k, M.map (·.1)) hbl (mk_own (p := []) ⟨rfl, rfl, hk⟩ hp1) hp2 (fun z hz => by simpa using hp3 z hz)
  have e9 : putCells w1 g (o + j * sz RelT) [.int .i64 k, vN] = (w1.setCell ⟨g, o + j * 2, none⟩ (.int .i64 k)).setCell ⟨g, o + j * 2 + 1, none⟩ vN := by simp [putCells, esz]
  rwa [e9] at h9

end Go.Proofs.YtjkjfjpajmjglaaGreat
