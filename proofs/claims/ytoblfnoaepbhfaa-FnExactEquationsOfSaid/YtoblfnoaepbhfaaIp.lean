/-
  PLAIN: owned, in blocks of which something is known: an element is written anew, two change places; numbers are appended.
-/
import Derived.Test.YtoblfnoaepbhfaaSwap
import Derived.Test.YtoblfnoaepbhfaaBase
namespace Go.Proofs.Ytoblfnoaepbhfaa
open Go.RowKit
open Rep (Rd Own sz)
set_option linter.unusedSimpArgs false
set_option linter.unusedVariables false

/-- Owned, no block twice, all blocks as A says. -/
def Ip {α : Type} [Rep α] (A : Nat → Prop) (w : World) (vs : List Value) (x : α) : Prop := ∃ ps, Own ps w vs x ∧ ps.Nodup ∧ ∀ k, k ∈ ps → A k
theorem Ip.of_iv {α : Type} [Rep α] {lo hi : Nat} {w : World} {vs : List Value} {x : α} (h : Iv lo hi w vs x) : Ip (fun k => lo ≤ k ∧ k < hi) w vs x := h
theorem Ip.iv {α : Type} [Rep α] {A : Nat → Prop} {lo hi : Nat} {w : World} {vs : List Value} {x : α} (h : Ip A w vs x) (hA : ∀ k, A k → lo ≤ k ∧ k < hi) : Iv lo hi w vs x := by
  obtain ⟨ps, h1, h2, h3⟩ := h; exact ⟨ps, h1, h2, fun k hk => hA k (h3 k hk)⟩
theorem Ip.wk {α : Type} [Rep α] {A B : Nat → Prop} {w : World} {vs : List Value} {x : α} (h : Ip A w vs x) (hA : ∀ k, A k → B k) : Ip B w vs x := by
  obtain ⟨ps, h1, h2, h3⟩ := h; exact ⟨ps, h1, h2, fun k hk => hA k (h3 k hk)⟩
theorem Ip.rd {α : Type} [Rep α] {A : Nat → Prop} {w : World} {vs : List Value} {x : α} (h : Ip A w vs x) : Rd w vs x := by
  obtain ⟨ps, h1, _⟩ := h; exact Rep.own_rd h1
theorem Ip.mono {α : Type} [Rep α] {A : Nat → Prop} {w w' : World} {vs : List Value} {x : α} (h : Ip A w vs x) (hb : Below w.heap.size w w') : Ip A w' vs x := by
  obtain ⟨ps, h1, h2, h3⟩ := h; exact ⟨ps, Own.mono h1 hb, h2, h3⟩
theorem Ip.frame {α : Type} [Rep α] {A : Nat → Prop} {w w' : World} {vs : List Value} {x : α} (h : Ip A w vs x) (hb : ∀ k, A k → k < w.heap.size → w'.heap[k]? = w.heap[k]?) : Ip A w' vs x := by
  obtain ⟨ps, h1, h2, h3⟩ := h; exact ⟨ps, Rep.own_frame (fun k hk => hb k (h3 k hk) (Rep.own_lt h1 k hk)) h1, h2, h3⟩
theorem ip_cons {α β : Type} [Rep α] [Rep β] {A B C : Nat → Prop} {w : World} {v : Value} {vs : List Value} {x : α} {y : β} (h1 : Ip A w [v] x) (h2 : Ip B w vs y) (hd : ∀ k, A k → ¬ B k) (hA : ∀ k, A k → C k) (hB : ∀ k, B k → C k) : Ip C w (v :: vs) (x, y) := by
  obtain ⟨p, o1, n1, b1⟩ := h1
  obtain ⟨q, o2, n2, b2⟩ := h2
  refine ⟨p ++ q, ⟨p, q, [v], vs, rfl, rfl, o1, o2⟩, ?_, fun k hk => ?_⟩
  · rw [List.nodup_append]
    refine ⟨n1, n2, fun a ha b hb e => ?_⟩
    subst e
    exact hd a (b1 a ha) (b2 a hb)
  · rcases List.mem_append.1 hk with hk | hk
    · exact hA k (b1 k hk)
    · exact hB k (b2 k hk)
/-- Where a slice that is owned and not empty lies. -/
theorem ip_form {α : Type} [Rep α] {A : Nat → Prop} {w : World} {v : Value} {l : List α} (h : Ip A w [v] l) (hl : 0 < l.length) :
    ∃ g o c cur e, v = .slice (some ⟨g, o, none⟩) l.length c ∧ l.length ≤ c ∧ c ≤ maxLen ∧ w.heap[g]? = some (.cells cur e (0, 0)) ∧ A g ∧
      ∀ i (h : i < l.length), ∃ vs, Rd w vs l[i] ∧ ∀ k, k < sz α → w.cell? ⟨g, o + i * sz α + k, none⟩ = vs[k]? := by
  obtain ⟨ps, ⟨v', ev, ho⟩, hn, hb⟩ := h
  obtain rfl : v = v' := by simpa using ev
  rcases ho with ⟨rfl, _⟩ | ⟨g, o, c, cur, e, pss, rfl, h1, h2, h3, rfl, h5, h6⟩
  · exact absurd hl (by simp)
  · refine ⟨g, o, c, cur, e, rfl, h1, h2, h3, hb g (by simp), fun i hi => ?_⟩
    obtain ⟨p, vs, hp, hO, hc⟩ := h6 i hi
    have := Rep.rd_len (Rep.own_rd hO)
    exact ⟨vs, Rep.own_rd hO, fun k hk => by rw [cell_at_block h3]; exact hc k (by omega)⟩
/-- Element j written anew. -/
theorem ip_put {α : Type} [Rep α] {A B : Nat → Prop} {w : World} {g o n c : Nat} {l : List α} (h : Ip A w [.slice (some ⟨g, o, none⟩) n c] l) (j : Nat) (hj : j < l.length) {vs : List Value} {y : α} (hy : Ip B w vs y) (hAB : ∀ k, A k → ¬ B k) :
    Ip (fun k => A k ∨ B k) (putCells w g (o + j * sz α) vs) [.slice (some ⟨g, o, none⟩) n c] (l.set j y) := by
  obtain ⟨ps, ⟨v', e', ho⟩, hn, hb⟩ := h
  obtain ⟨p', hO', hn', hb'⟩ := hy
  obtain rfl : Value.slice (some ⟨g, o, none⟩) n c = v' := by simpa using e'
  rcases ho with ⟨rfl, _⟩ | ⟨g', o', c', cur, e, pss, hv, h1, h2, h3, rfl, h5, h6⟩
  · exact absurd hj (Nat.not_lt_zero _)
  simp only [Value.slice.injEq, Option.some.injEq, Addr.mk.injEq, and_true] at hv
  obtain ⟨⟨rfl, rfl⟩, rfl, rfl⟩ := hv
  have hg := hb g (by simp)
  have hvl := Rep.rd_len (Rep.own_rd hO')
  have hjp : j < pss.length := by omega
  have hsplit : pss.set j p' = pss.take j ++ p' :: pss.drop (j + 1) := List.set_eq_take_append_cons_drop .. |>.trans (by rw [if_pos hjp])
  have hwhole : pss = pss.take j ++ pss[j] :: pss.drop (j + 1) := by
    conv => lhs; rw [← List.take_append_drop j pss, List.drop_eq_getElem_cons hjp]
  have hmem : ∀ k, k ∈ List.flatten (pss.take j) ∨ k ∈ List.flatten (pss.drop (j + 1)) → A k := fun k hk => by
    refine hb k (List.mem_cons_of_mem _ ?_)
    rw [hwhole, List.flatten_append, List.flatten_cons]
    rcases hk with hk | hk <;> simp [hk]
  have hnd : (g :: List.flatten (pss.set j p')).Nodup := by
    rw [hwhole, List.flatten_append, List.flatten_cons] at hn
    rw [hsplit, List.flatten_append, List.flatten_cons]
    simp only [List.nodup_cons, List.nodup_append, List.mem_append, not_or] at hn ⊢
    obtain ⟨⟨n1, _, n3⟩, n4, ⟨n5, n6, n7⟩, n8⟩ := hn
    refine ⟨⟨n1, fun hk => ?_, n3⟩, n4, ⟨hn', n6, fun a ha b hbb => ?_⟩, fun a ha b hbb => ?_⟩
    · exact hAB g hg (hb' g hk)
    · have h1 := hb' a ha
      have h2 := hmem b (.inr hbb)
      rintro rfl
      exact hAB a h2 h1
    · rcases hbb with hbb | hbb
      · have h1 := hb' b hbb
        have h2 := hmem a (.inl ha)
        rintro rfl
        exact hAB a h2 h1
      · exact n8 a ha b (.inr hbb)
  have hkeep : ∀ {β : Type} [Rep β] (p : List Nat) (us : List Value) (z : β), Own p w us z → g ∉ p → Own p (putCells w g (o + j * sz α) vs) us z := by
    intro β _ p us z hO hgp
    exact Own.only hO (putCells_only g vs _ w) (fun k hk hkg => by obtain rfl : k = g := by simpa using hkg
                                                                   exact hgp hk)
  refine ⟨g :: List.flatten (pss.set j p'), ⟨_, rfl, .inr ⟨g, o, c, _, e, pss.set j p', by simp, by simpa using h1, h2, putCells_heap g e (0, 0) vs _ w cur h3, rfl, by simpa using h5, fun i hi => ?_⟩⟩, hnd, fun k hk => ?_⟩
  · simp only [List.length_set] at hi
    obtain ⟨p, us, hp, hO, hc⟩ := h6 i hi
    have hul := Rep.rd_len (Rep.own_rd hO)
    by_cases hij : j = i
    · subst hij
      refine ⟨p', vs, by simp [hjp], ?_, fun k hk => ?_⟩
      · simp only [List.getElem_set_self]
        exact hkeep p' vs y hO' (fun hk => hAB g hg (hb' g hk))
      · refine putArr_in vs _ k cur hk ?_
        have := hc k (by omega)
        rw [List.getElem?_eq_getElem (by omega)] at this
        exact (Array.getElem?_eq_some_iff.1 this).1
    · refine ⟨p, us, by rw [List.getElem?_set_ne hij]; exact hp, ?_, fun k hk => ?_⟩
      · simp only [List.getElem_set_ne hij]
        refine hkeep p us _ hO (fun hk => ?_)
        exact (List.nodup_cons.1 hn).1 (List.mem_flatten.2 ⟨p, List.mem_of_getElem? hp, hk⟩)
      · rw [putArr_out]
        · exact hc k hk
        · have hks : k < sz α := by omega
          rcases Nat.lt_or_gt_of_ne hij with hlt | hlt
          · right
            have : (j + 1) * sz α ≤ i * sz α := Nat.mul_le_mul_right _ hlt
            rw [Nat.add_mul] at this
            omega
          · left
            have := idx_lt (s := sz α) hlt hks
            omega
  · rcases List.mem_cons.1 hk with rfl | hk
    · exact .inl hg
    · rw [hsplit, List.flatten_append, List.flatten_cons] at hk
      rcases List.mem_append.1 hk with hk | hk
      · exact .inl (hmem k (.inl hk))
      · rcases List.mem_append.1 hk with hk | hk
        · exact .inr (hb' k hk)
        · exact .inl (hmem k (.inr hk))
theorem ip_swap {α : Type} [Rep α] {A : Nat → Prop} {w : World} {g o n c : Nat} {l : List α} (h : Ip A w [.slice (some ⟨g, o, none⟩) n c] l) (d : α) (i j : Nat) (hil : i < l.length) (hjl : j < l.length) {vi vj : List Value}
    (li : vi.length = sz α) (lj : vj.length = sz α) (ci : ∀ k, k < sz α → w.cell? ⟨g, o + i * sz α + k, none⟩ = vi[k]?) (cj : ∀ k, k < sz α → w.cell? ⟨g, o + j * sz α + k, none⟩ = vj[k]?) :
    Ip A (putCells (putCells w g (o + i * sz α) vj) g (o + j * sz α) vi) [.slice (some ⟨g, o, none⟩) n c] (swapL d l i j) := by
  obtain ⟨ps, ⟨v', e', ho⟩, hn, hb⟩ := h
  obtain rfl : Value.slice (some ⟨g, o, none⟩) n c = v' := by simpa using e'
  rcases ho with ⟨rfl, _⟩ | ⟨g', o', c', cur, e, pss, hv, h1, h2, h3, rfl, h5, h6⟩
  · exact absurd hil (Nat.not_lt_zero _)
  simp only [Value.slice.injEq, Option.some.injEq, Addr.mk.injEq, and_true] at hv
  obtain ⟨⟨rfl, rfl⟩, rfl, rfl⟩ := hv
  have hip : i < pss.length := by omega
  have hjp : j < pss.length := by omega
  obtain ⟨hnd, hdis⟩ := disj_of_nodup (List.nodup_cons.1 hn).2
  have hgn := (List.nodup_cons.1 hn).1
  have hpm : ∀ k p, pss[k]? = some p → g ∉ p := fun k p hp hg => hgn (List.mem_flatten.2 ⟨p, List.mem_of_getElem? hp, hg⟩)
  have hps' : ∀ k, ((pss.set i pss[j]).set j pss[i])[k]? = pss[sigma i j k]? := fun k => set2_get pss i j k hip hjp
  have hmem : ∀ k p, ((pss.set i pss[j]).set j pss[i])[k]? = some p → ∃ k', pss[k']? = some p := fun k p hp => ⟨_, by rw [← hps']; exact hp⟩
  have honly := (putCells_only g vj (o + i * sz α) w).trans (putCells_only g vi (o + j * sz α) _)
  have hheap : (putCells (putCells w g (o + i * sz α) vj) g (o + j * sz α) vi).heap[g]? = some (.cells (putArr (putArr cur (o + i * sz α) vj) (o + j * sz α) vi) e (0, 0)) :=
    putCells_heap g e (0, 0) vi _ _ _ (putCells_heap g e (0, 0) vj _ _ _ h3)
  have hown : ∀ k (hk : k < l.length), ∃ p us, pss[k]? = some p ∧ Own p (putCells (putCells w g (o + i * sz α) vj) g (o + j * sz α) vi) us l[k] ∧ us.length = sz α ∧ ∀ z, z < sz α → cur[o + k * sz α + z]? = us[z]? := fun k hk => by
    obtain ⟨p, us, hp, hO, hc⟩ := h6 k hk
    have hl := Rep.rd_len (Rep.own_rd hO)
    exact ⟨p, us, hp, Own.only hO honly (fun z hz hzg => by obtain rfl : z = g := (by simpa using hzg); exact hpm k p hp hz), hl, fun z hz => hc z (by omega)⟩
  have hi0 : ∀ z, z < sz α → cur[o + i * sz α + z]? = vi[z]? := fun z hz => by rw [← ci z hz, cell_at_block h3]
  have hj0 : ∀ z, z < sz α → cur[o + j * sz α + z]? = vj[z]? := fun z hz => by rw [← cj z hz, cell_at_block h3]
  have hlt : ∀ k, (∀ z, z < sz α → ∃ u, cur[o + k * sz α + z]? = some u) → ∀ z, z < sz α → o + k * sz α + z < cur.size := fun k h z hz => by
    obtain ⟨u, hu⟩ := h z hz; exact (Array.getElem?_eq_some_iff.1 hu).1
  have hsi := hlt i (fun z hz => ⟨vi[z]'(by omega), by rw [hi0 z hz, List.getElem?_eq_getElem]⟩)
  have hsj := hlt j (fun z hz => ⟨vj[z]'(by omega), by rw [hj0 z hz, List.getElem?_eq_getElem]⟩)
  have hsame : ∀ {us vs : List Value}, us.length = sz α → vs.length = sz α → (∀ z, z < sz α → us[z]? = vs[z]?) → us = vs := fun {us vs} h1 h2 h => by
    apply List.ext_getElem?
    intro z
    by_cases hz : z < sz α
    · exact h z hz
    · rw [List.getElem?_eq_none (by omega), List.getElem?_eq_none (by omega)]
  have hapart : ∀ {a b : Nat}, a ≠ b → ∀ z, z < sz α → o + a * sz α + z < o + b * sz α ∨ o + b * sz α + sz α ≤ o + a * sz α + z := fun {a b} hab z hz => by
    rcases Nat.lt_or_gt_of_ne hab with h | h
    · left
      have := idx_lt (s := sz α) h hz
      omega
    · right
      have : (b + 1) * sz α ≤ a * sz α := Nat.mul_le_mul_right _ h
      rw [Nat.add_mul] at this
      omega
  refine ⟨g :: List.flatten ((pss.set i pss[j]).set j pss[i]), ⟨_, rfl, .inr ⟨g, o, c, _, e, _, by simp, by simpa using h1, h2, hheap, rfl, by simpa using h5, fun k hk => ?_⟩⟩, ?_, ?_⟩
  · simp only [swapL_length] at hk
    have hks := sigma_lt hil hjl hk
    obtain ⟨p, us, hp, hO, hul, hc⟩ := hown (sigma i j k) hks
    have hlk : (swapL d l i j)[k]'(by simpa using hk) = l[sigma i j k] := by
      have := set2_get l i j k hil hjl
      rw [← swapL_eq d l i j hil hjl, List.getElem?_eq_getElem (by simpa using hk), List.getElem?_eq_getElem hks] at this
      simpa using this
    refine ⟨p, us, by rw [hps' k]; exact hp, by rw [hlk]; exact hO, fun z hz => ?_⟩
    rw [hul] at hz
    by_cases hkj : k = j
    · subst hkj
      have e1 : sigma i k k = i := by simp [sigma]
      rw [e1] at hc
      have : us = vi := hsame hul li (fun z hz => by rw [← hc z hz, hi0 z hz])
      subst this
      exact putArr_in us _ z _ (by omega) (by rw [putArr_size]; exact hsj z hz)
    · by_cases hki : k = i
      · subst hki
        have e1 : sigma k j k = j := by simp [sigma, hkj]
        rw [e1] at hc
        have : us = vj := hsame hul lj (fun z hz => by rw [← hc z hz, hj0 z hz])
        subst this
        rw [putArr_out vi _ _ _ (by rw [li]; exact hapart hkj z hz)]
        exact putArr_in us _ z _ (by omega) (hsi z hz)
      · have e1 : sigma i j k = k := by simp [sigma, hkj, hki]
        rw [e1] at hc
        rw [putArr_out vi _ _ _ (by rw [li]; exact hapart hkj z hz), putArr_out vj _ _ _ (by rw [lj]; exact hapart hki z hz)]
        exact hc z hz
  · rw [List.nodup_cons]
    refine ⟨fun hg => ?_, nodup_of_disj (fun k p hp => ?_) (fun a b p q hab hp hq => ?_)⟩
    · obtain ⟨p, hp, hgp⟩ := List.mem_flatten.1 hg
      obtain ⟨k, hk⟩ := List.mem_iff_getElem?.1 hp
      obtain ⟨k', hk'⟩ := hmem k p hk
      exact hpm k' p hk' hgp
    · rw [hps' k] at hp; exact hnd _ _ hp
    · rw [hps' a] at hp; rw [hps' b] at hq
      exact hdis _ _ _ _ (fun e => hab (sigma_inj e)) hp hq
  · intro x hx
    rcases List.mem_cons.1 hx with rfl | hx
    · exact hb _ (by simp)
    · obtain ⟨p, hp, hxp⟩ := List.mem_flatten.1 hx
      obtain ⟨k, hk⟩ := List.mem_iff_getElem?.1 hp
      obtain ⟨k', hk'⟩ := hmem k p hk
      exact hb x (List.mem_cons_of_mem _ (List.mem_flatten.2 ⟨p, List.mem_of_getElem? hk', hxp⟩))


theorem acc_made {α : Type} [Rep α] (w : World) (e : TypeId) : Acc w.heap.size (w.heap.size + 1) e (w.alloc (.cells #[] e)) (.slice (some ⟨w.heap.size, 0, none⟩) 0 0) ([] : List α) := by
  have h := World.ownsRow_made (e := e) (size := sz α) w #[] 0 (Nat.le_refl _) (Nat.zero_le _) (by simp)
  exact ⟨[], [], h, rfl, by simp [Value.ownBlock], by simp [Value.ownBlock], fun i h => absurd h (Nat.not_lt_zero _)⟩
/-- A number more, to a slice whose block is known. -/
theorem wp_append_int1 {P : Program} (w : World) {o : Oper} {a : Act} {K : Act → World → Prop} {Q : Exit → Act → World → Prop} (s x : Operand) (t : TypeId)
    (ho : o.op = .call { callee := .builtin .append, args := #[s, x], argTypes := #[t, t] }) {e : TypeId} {z : Value} {bytes : Nat} (E : ElemT P t e Int z bytes) {g n0 c0 : Nat} {l : List Int} {y : Int}
    (hs : a.eval s = .slice (some ⟨g, 0, none⟩) n0 c0) (hacc : Acc g (g + 1) e w (.slice (some ⟨g, 0, none⟩) n0 c0) l) (hg : g + 1 ≤ w.heap.size) (hy : I64 y)
    (ad : Addr) (c : Nat) (hx : a.eval x = .slice (some ad) 1 c) (hnew : w.cell? (ad.add 0) = some (.int .i64 y)) (hlen : l.length + 1 ≤ 1073741824)
    (h : ∀ g' c' w', (g' = g ∨ g' = w.heap.size) → Acc g' (g' + 1) e w' (.slice (some ⟨g', 0, none⟩) (l.length + 1) c') (l ++ [y]) → But [g] w w' → g' < w'.heap.size → K (a.put o.dst (.slice (some ⟨g', 0, none⟩) (l.length + 1) c')) w') : o.wp P a w K Q := by
  obtain ⟨i, hi, hz, hsz, hb⟩ := E.info
  obtain ⟨h1, h4, hIl⟩ := acc_ints_get hacc
  have hbytes : (l.length + 1) * bytes ≤ 140737488355328 := by
    have h1 := E.small
    calc (l.length + 1) * bytes ≤ 1073741824 * 1000 := Nat.mul_le_mul hlen h1
      _ ≤ _ := by decide
  have hm : l.length + 1 ≤ maxLen := by unfold maxLen; omega
  obtain ⟨v', w', hr, hown, hgr, hnil, hat⟩ := run_append_own_at (P := P) w g t o.type e i z (sz Int) bytes E.und hi hz hsz hb E.zs E.pos _ l.length (ivals l) h1 ad 1 c [.int .i64 y] (by simp) (by intro j u hu; cases j with
    | zero => simp at hu; subst hu; exact hnew
    | succ j => simp at hu) (by intro u hu; simp at hu; subst hu; rfl) hm hbytes (by omega)
  have hown' : w'.ownsRow g e 1 v' (l.length + 1) (ivals (l ++ [y])) := by simpa [ivals] using hown
  have hI' : ∀ a, a ∈ l ++ [y] → I64 a := fun a ha => by
    rcases List.mem_append.1 ha with ha | ha
    · exact hIl a ha
    · obtain rfl : a = y := by simpa using ha
      exact hy
  have hob : (Value.slice (some ⟨g, 0, none⟩) n0 c0).ownBlock = some g := rfl
  rcases hown'.2 with ⟨rfl, h0⟩ | ⟨g', cap, cur, rfl, hg', hh', hc', hm', hs', ht'⟩
  · omega
  have hgg : g' = g ∨ g' = w.heap.size := by
    rcases hat with h | h
    · rw [hob] at h
      exact .inl (by simpa [Value.ownBlock] using h)
    · exact .inr (by simpa [Value.ownBlock] using h)
  have hlt : g' < w'.heap.size := (Array.getElem?_eq_some_iff.1 hh').1
  have hA : Acc g' (g' + 1) e w' (.slice (some ⟨g', 0, none⟩) (l.length + 1) cap) (l ++ [y]) := by
    refine acc_ints_mk ?_ (fun k hk => by simp [Value.ownBlock] at hk; omega) hI'
    simp only [List.length_append, List.length_cons, List.length_nil, Nat.zero_add]
    exact ⟨hown'.1, .inr ⟨g', cap, cur, rfl, Nat.le_refl _, hh', hc', hm', hs', ht'⟩⟩
  have hbut : But [g] w w' := ⟨hgr.os, hgr.tape, hgr.output, hgr.size, fun k hk hp => hgr.block k hk (fun e => by rw [hob] at e; simp at e; exact hp (by simp [e]))⟩
  unfold Oper.wp execOp
  simp only [ho, resolve, invoke, builtin, Sem.run_bind, Sem.run_pure, Result.andThen_ok, List.map_toArray, List.map_cons, List.map_nil, hs, hx, hr]
  exact h g' cap w' hgg hA hbut hlt
theorem St.low {w : World} {B B' : Nat} {wr : World} {bx bx' : List (Nat × Array Value × TypeId)} (h : St w B wr bx) (h1 : w.heap.size ≤ B') (h2 : B' ≤ B) (hs : ∀ x, x ∈ bx' → x ∈ bx ∧ x.1 < B') : St w B' wr bx' :=
  ⟨h.bel, h1, Nat.le_trans h2 h.hi, fun x hx => ⟨(h.box x (hs x hx).1).1, (hs x hx).2, (h.box x (hs x hx).1).2.2⟩⟩

end Go.Proofs.Ytoblfnoaepbhfaa
