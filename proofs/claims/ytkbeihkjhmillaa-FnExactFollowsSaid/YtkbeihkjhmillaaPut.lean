/-
  PLAIN: an element of an owned slice is written anew; owned structs put together.
-/
import Derived.Test.YtkbeihkjhmillaaTyp
namespace Go.Proofs.Ytkbeihkjhmillaa
open Go.RowKit
open Rep (Rd Own sz)
set_option linter.unusedSimpArgs false
set_option linter.unusedVariables false

def putCells (w : World) (g : Nat) : Nat → List Value → World
  | _, [] => w
  | o, v :: vs => putCells (w.setCell ⟨g, o, none⟩ v) g (o + 1) vs
def putArr (cur : Array Value) : Nat → List Value → Array Value
  | _, [] => cur
  | o, v :: vs => putArr (cur.setIfInBounds o v) (o + 1) vs
theorem putCells_heap (g : Nat) (e : TypeId) (fr : Nat × Nat) : ∀ (vs : List Value) (o : Nat) (w : World) (cur : Array Value), w.heap[g]? = some (.cells cur e fr) → (putCells w g o vs).heap[g]? = some (.cells (putArr cur o vs) e fr)
  | [], _, _, _, h => h
  | v :: vs, o, w, cur, h => putCells_heap g e fr vs (o + 1) _ _ (heap_setCell_at w g o v cur e fr h)
theorem putCells_only (g : Nat) : ∀ (vs : List Value) (o : Nat) (w : World), OnlyAt [g] w (putCells w g o vs)
  | [], _, w => OnlyAt.refl _ _
  | v :: vs, o, w => ((OnlyAt.refl [g] w).setCell (p := ⟨g, o, none⟩) (by simp) v).trans (putCells_only g vs (o + 1) _)
theorem putArr_size : ∀ (vs : List Value) (o : Nat) (cur : Array Value), (putArr cur o vs).size = cur.size
  | [], _, _ => rfl
  | v :: vs, o, cur => by rw [putArr, putArr_size vs]; simp
theorem putArr_out : ∀ (vs : List Value) (o q : Nat) (cur : Array Value), (q < o ∨ o + vs.length ≤ q) → (putArr cur o vs)[q]? = cur[q]?
  | [], _, _, _, _ => rfl
  | v :: vs, o, q, cur, h => by
    simp only [List.length_cons] at h
    rw [putArr, putArr_out vs (o + 1) q _ (by omega), Array.getElem?_setIfInBounds_ne (by omega)]
theorem putArr_in : ∀ (vs : List Value) (o k : Nat) (cur : Array Value), k < vs.length → o + k < cur.size → (putArr cur o vs)[o + k]? = vs[k]?
  | [], _, _, _, h, _ => absurd h (Nat.not_lt_zero _)
  | v :: vs, o, 0, cur, _, hs => by
    rw [putArr, putArr_out vs (o + 1) _ _ (by omega)]
    have : o < cur.size := by omega
    simp [Array.getElem?_setIfInBounds, this]
  | v :: vs, o, k + 1, cur, h, hs => by
    simp only [List.length_cons] at h
    have := putArr_in vs (o + 1) k (cur.setIfInBounds o v) (by omega) (by simp; omega)
    rw [putArr, show o + (k + 1) = o + 1 + k by omega, this]
    simp

/-- Where a slice that is owned and not empty lies. -/
theorem iv_form {α : Type} [Rep α] {lo hi : Nat} {w : World} {v : Value} {l : List α} (h : Iv lo hi w [v] l) (hl : 0 < l.length) :
    ∃ g o c cur e, v = .slice (some ⟨g, o, none⟩) l.length c ∧ l.length ≤ c ∧ w.heap[g]? = some (.cells cur e (0, 0)) ∧ lo ≤ g ∧ g < hi ∧ o + l.length * sz α ≤ cur.size ∨ sz α = 0 := by
  obtain ⟨ps, ⟨v', ev, ho⟩, hn, hb⟩ := h
  obtain rfl : v = v' := by simpa using ev
  rcases ho with ⟨rfl, _⟩ | ⟨g, o, c, cur, e, pss, rfl, h1, h2, h3, rfl, h5, h6⟩
  · exact absurd hl (by simp)
  · by_cases hz : sz α = 0
    · exact ⟨g, o, c, cur, e, .inr hz⟩
    refine ⟨g, o, c, cur, e, .inl ⟨rfl, h1, h3, (hb g (by simp)).1, (hb g (by simp)).2, ?_⟩⟩
    obtain ⟨p, vs, hp, hO, hc⟩ := h6 (l.length - 1) (by omega)
    have hv := Rep.rd_len (Rep.own_rd hO)
    have := hc (sz α - 1) (by omega)
    rw [List.getElem?_eq_getElem (by omega)] at this
    have := (Array.getElem?_eq_some_iff.1 this).1
    have e1 : l.length * sz α = (l.length - 1) * sz α + sz α := by
      obtain ⟨q, hq⟩ : ∃ q, l.length = q + 1 := ⟨l.length - 1, by omega⟩
      rw [hq, Nat.add_sub_cancel, Nat.add_mul, Nat.one_mul]
    omega
theorem iv_form' {α : Type} [Rep α] {lo hi : Nat} {w : World} {v : Value} {l : List α} (h : Iv lo hi w [v] l) (hl : 0 < l.length) (hz : 0 < sz α) :
    ∃ g o c cur e, v = .slice (some ⟨g, o, none⟩) l.length c ∧ w.heap[g]? = some (.cells cur e (0, 0)) ∧ lo ≤ g ∧ g < hi ∧ o + l.length * sz α ≤ cur.size := by
  obtain ⟨g, o, c, cur, e, h | h⟩ := iv_form h hl
  · exact ⟨g, o, c, cur, e, h.1, h.2.2.1, h.2.2.2.1, h.2.2.2.2.1, h.2.2.2.2.2⟩
  · omega
theorem cell_of_heap {w : World} {g q : Nat} {cur : Array Value} {e : TypeId} (h : w.heap[g]? = some (.cells cur e (0, 0))) (hq : q < cur.size) : w.cell? ⟨g, q, none⟩ = some cur[q] := by
  rw [cell_at_block h, Array.getElem?_eq_getElem hq]
theorem idx_lt {n j k s : Nat} (hj : j < n) (hk : k < s) : j * s + k < n * s := by
  have : (j + 1) * s ≤ n * s := Nat.mul_le_mul_right _ hj
  rw [Nat.add_mul] at this
  omega
/-- Element j written anew. -/
theorem iv_put {α : Type} [Rep α] {lo hi hi' : Nat} {w : World} {g o n c : Nat} {l : List α} (h : Iv lo hi w [.slice (some ⟨g, o, none⟩) n c] l) (j : Nat) (hj : j < l.length) {vs : List Value} {y : α} (hy : Iv hi hi' w vs y) (hh : hi ≤ hi') :
    Iv lo hi' (putCells w g (o + j * sz α) vs) [.slice (some ⟨g, o, none⟩) n c] (l.set j y) := by
  obtain ⟨ps, ⟨v', e', ho⟩, hn, hb⟩ := h
  obtain ⟨p', hO', hn', hb'⟩ := hy
  obtain rfl : Value.slice (some ⟨g, o, none⟩) n c = v' := by simpa using e'
  rcases ho with ⟨rfl, _⟩ | ⟨g', o', c', cur, e, pss, hv, h1, h2, h3, rfl, h5, h6⟩
  · exact absurd hj (Nat.not_lt_zero _)
  simp only [Value.slice.injEq, Option.some.injEq, Addr.mk.injEq, and_true] at hv
  obtain ⟨⟨rfl, rfl⟩, rfl, rfl⟩ := hv
  have hg := hb g (by simp)
  have hvl := Rep.rd_len (Rep.own_rd hO')
  have hjp : j < pss.length := by omega
  have hsplit : pss.set j p' = pss.take j ++ p' :: pss.drop (j + 1) := List.set_eq_take_append_cons_drop .. |>.trans (by rw [if_pos hjp])
  have hwhole : pss = pss.take j ++ pss[j] :: pss.drop (j + 1) := by
    conv => lhs; rw [← List.take_append_drop j pss, List.drop_eq_getElem_cons hjp]
  have hmem : ∀ k, k ∈ List.flatten (pss.take j) ∨ k ∈ List.flatten (pss.drop (j + 1)) → lo ≤ k ∧ k < hi := fun k hk => by
    refine hb k (List.mem_cons_of_mem _ ?_)
    rw [hwhole, List.flatten_append, List.flatten_cons]
    rcases hk with hk | hk <;> simp [hk]
  have hnd : (g :: List.flatten (pss.set j p')).Nodup := by
    rw [hwhole, List.flatten_append, List.flatten_cons] at hn
    rw [hsplit, List.flatten_append, List.flatten_cons]
    simp only [List.nodup_cons, List.nodup_append, List.mem_append, not_or] at hn ⊢
    obtain ⟨⟨n1, _, n3⟩, n4, ⟨n5, n6, n7⟩, n8⟩ := hn
    refine ⟨⟨n1, fun hk => ?_, n3⟩, n4, ⟨hn', n6, fun a ha b hbb => ?_⟩, fun a ha b hbb => ?_⟩
    · have := hb' g hk; omega
    · have h1 := hb' a ha
      have h2 := hmem b (.inr hbb)
      omega
    · rcases hbb with hbb | hbb
      · have h1 := hb' b hbb
        have h2 := hmem a (.inl ha)
        omega
      · exact n8 a ha b (.inr hbb)
  have hkeep : ∀ {β : Type} [Rep β] (p : List Nat) (us : List Value) (z : β), Own p w us z → g ∉ p → Own p (putCells w g (o + j * sz α) vs) us z := by
    intro β _ p us z hO hgp
    exact Own.only hO (putCells_only g vs _ w) (fun k hk hkg => by obtain rfl : k = g := by simpa using hkg
                                                                   exact hgp hk)
  refine ⟨g :: List.flatten (pss.set j p'), ⟨_, rfl, .inr ⟨g, o, c, _, e, pss.set j p', by simp, by simpa using h1, h2, putCells_heap g e (0, 0) vs _ w cur h3, rfl, by simpa using h5, fun i hi => ?_⟩⟩, hnd, fun k hk => ?_⟩
  · simp only [List.length_set] at hi
    obtain ⟨p, us, hp, hO, hc⟩ := h6 i hi
    have hul := Rep.rd_len (Rep.own_rd hO)
    by_cases hij : j = i
    · subst hij
      refine ⟨p', vs, by simp [hjp], ?_, fun k hk => ?_⟩
      · simp only [List.getElem_set_self]
        exact hkeep p' vs y hO' (fun hk => by have := hb' g hk; omega)
      · refine putArr_in vs _ k cur hk ?_
        have := hc k (by omega)
        rw [List.getElem?_eq_getElem (by omega)] at this
        exact (Array.getElem?_eq_some_iff.1 this).1
    · refine ⟨p, us, by rw [List.getElem?_set_ne hij]; exact hp, ?_, fun k hk => ?_⟩
      · simp only [List.getElem_set_ne hij]
        refine hkeep p us _ hO (fun hk => ?_)
        exact (List.nodup_cons.1 hn).1 (List.mem_flatten.2 ⟨p, List.mem_of_getElem? hp, hk⟩)
      · rw [putArr_out]
        · exact hc k hk
        · have hks : k < sz α := by omega
          rcases Nat.lt_or_gt_of_ne hij with hlt | hlt
          · right
            have : (j + 1) * sz α ≤ i * sz α := Nat.mul_le_mul_right _ hlt
            rw [Nat.add_mul] at this
            omega
          · left
            have := idx_lt (s := sz α) hlt hks
            omega
  · rcases List.mem_cons.1 hk with rfl | hk
    · exact ⟨hg.1, by omega⟩
    · rw [hsplit, List.flatten_append, List.flatten_cons] at hk
      rcases List.mem_append.1 hk with hk | hk
      · have := hmem k (.inl hk); omega
      · rcases List.mem_append.1 hk with hk | hk
        · have := hb' k hk; omega
        · have := hmem k (.inr hk); omega

/-! ### Structs put together -/
theorem iv_int {lo hi : Nat} {w : World} {n : Int} (h : I64 n) : Iv lo hi w [.int .i64 n] n := ⟨[], ⟨rfl, rfl, h⟩, by simp, by simp⟩
theorem iv_cons {α β : Type} [Rep α] [Rep β] {lo mid mid' hi : Nat} {w : World} {v : Value} {vs : List Value} {x : α} {y : β} (h1 : Iv lo mid w [v] x) (h2 : Iv mid' hi w vs y) (hm : mid ≤ mid') (hl : lo ≤ mid') (hh : mid ≤ hi) : Iv lo hi w (v :: vs) (x, y) := by
  obtain ⟨p, o1, n1, b1⟩ := h1
  obtain ⟨q, o2, n2, b2⟩ := h2
  refine ⟨p ++ q, ⟨p, q, [v], vs, rfl, rfl, o1, o2⟩, ?_, fun k hk => ?_⟩
  · rw [List.nodup_append]
    refine ⟨n1, n2, fun a ha b hb => ?_⟩
    have := b1 a ha
    have := b2 b hb
    omega
  · rcases List.mem_append.1 hk with hk | hk
    · have := b1 k hk; omega
    · have := b2 k hk; omega
theorem iv_int_cons {β : Type} [Rep β] {lo hi : Nat} {w : World} {n : Int} {vs : List Value} {y : β} (h : I64 n) (h2 : Iv lo hi w vs y) : Iv lo hi w (.int .i64 n :: vs) (n, y) := by
  obtain ⟨q, o2, n2, b2⟩ := h2
  exact ⟨q, ⟨[], q, [_], vs, rfl, rfl, ⟨rfl, rfl, h⟩, o2⟩, n2, b2⟩
theorem iv_cons_int {α : Type} [Rep α] {lo hi : Nat} {w : World} {n : Int} {v : Value} {x : α} (h : I64 n) (h1 : Iv lo hi w [v] x) : Iv lo hi w [v, .int .i64 n] (x, n) := by
  obtain ⟨q, o2, n2, b2⟩ := h1
  exact ⟨q, ⟨q, [], [v], [_], by simp, rfl, o2, ⟨rfl, rfl, h⟩⟩, n2, b2⟩
theorem iv_wide {α : Type} [Rep α] {lo lo' hi hi' : Nat} {w : World} {vs : List Value} {x : α} (h : Iv lo hi w vs x) (h1 : lo' ≤ lo) (h2 : hi ≤ hi') : Iv lo' hi' w vs x := by
  obtain ⟨q, o2, n2, b2⟩ := h
  exact ⟨q, o2, n2, fun k hk => by have := b2 k hk; omega⟩
theorem Iv.fresh {α : Type} [Rep α] {lo hi : Nat} {w : World} {vs : List Value} {x : α} (h : Iv lo hi w vs x) : Fresh lo w vs x := by
  obtain ⟨q, o2, n2, b2⟩ := h
  exact ⟨q, o2, n2, fun k hk => (b2 k hk).1⟩
theorem Iv.frame {α : Type} [Rep α] {lo hi : Nat} {w w' : World} {vs : List Value} {x : α} (h : Iv lo hi w vs x) (hb : ∀ k, lo ≤ k → k < hi → w'.heap[k]? = w.heap[k]?) : Iv lo hi w' vs x := by
  obtain ⟨q, o2, n2, b2⟩ := h
  exact ⟨q, Rep.own_frame (fun k hk => hb k (b2 k hk).1 (b2 k hk).2) o2, n2, b2⟩
/-- A slice of zeros, behind make. -/
theorem iv_made {α : Type} [Rep α] {g : Nat} {w : World} {v : Value} {l : List α} (h : OwnSl [g] w v l) : Iv g (g + 1) w [v] l := ⟨[g], ⟨v, rfl, h⟩, by simp, by simp⟩
/-- Behind i rounds of a copy into zeros. -/
def filledG {α : Type} (x0 : α) (l : List α) (i : Nat) : List α := l.take i ++ List.replicate (l.length - i) x0
theorem filledG_length {α : Type} (x0 : α) (l : List α) (i : Nat) (h : i ≤ l.length) : (filledG x0 l i).length = l.length := by simp [filledG]; omega
theorem filledG_zero {α : Type} (x0 : α) (l : List α) : filledG x0 l 0 = List.replicate l.length x0 := by simp [filledG]
theorem filledG_all {α : Type} (x0 : α) (l : List α) : filledG x0 l l.length = l := by simp [filledG]
theorem filledG_succ {α : Type} (x0 : α) (l : List α) (i : Nat) (h : i < l.length) : (filledG x0 l i).set i l[i] = filledG x0 l (i + 1) := by
  simp only [filledG]
  have h1 : (l.take i).length = i := by simp; omega
  rw [List.set_append_right _ _ (by omega), h1, Nat.sub_self]
  obtain ⟨q, hq⟩ : ∃ q, l.length - i = q + 1 := ⟨l.length - i - 1, by omega⟩
  rw [hq, List.replicate_succ, List.set_cons_zero, show l.length - (i + 1) = q by omega, List.take_succ_eq_append_getElem h, List.append_assoc]
  rfl

theorem iv_put' {α : Type} [Rep α] {lo hi hi' : Nat} {w : World} {g o n c q : Nat} {l : List α} (h : Iv lo hi w [.slice (some ⟨g, o, none⟩) n c] l) (j : Nat) (hj : j < l.length) {vs : List Value} {y : α} (hy : Iv hi hi' w vs y) (hh : hi ≤ hi') (hq : o + j * sz α = q) :
    Iv lo hi' (putCells w g q vs) [.slice (some ⟨g, o, none⟩) n c] (l.set j y) := by subst hq; exact iv_put h j hj hy hh
theorem Iv.setCell {α : Type} [Rep α] {lo hi : Nat} {w : World} {vs : List Value} {x : α} (h : Iv lo hi w vs x) {a : Addr} (ha : a.block < lo) (u : Value) : Iv lo hi (w.setCell a u) vs x :=
  h.frame (fun k hk _ => Below.heap_setCell _ _ _ _ (by omega))
/-- The result is laid into the call's box g. -/
theorem St.finI {α : Type} [Rep α] {w : World} {B lo hi : Nat} {w1 : World} {bx : List (Nat × Array Value × TypeId)} (h : St w B w1 bx) {vs : List Value} {x : α} (iv : Iv lo hi w1 vs x) {g : Nat} (hg : w.heap.size ≤ g) (hgl : g < lo) (us : List Value) :
    Fresh w.heap.size (putCells w1 g 0 us) vs x ∧ Below w.heap.size w (putCells w1 g 0 us) := by
  have ho := putCells_only g us 0 w1
  exact ⟨(Iv.fresh (iv.frame (fun k hk _ => ho.block k (by simp; omega)))).lower (by omega), h.bel.trans (ho.below (by simp; exact hg))⟩
theorem own_i1 {ps : List Nat} {w : World} {v : Value} {n : Int} (h : Own ps w [v] n) : ps = [] ∧ v = .int .i64 n ∧ I64 n := ⟨h.1, by simpa using h.2.1, h.2.2⟩
theorem own_cons {α β : Type} [Rep α] [Rep β] {ps : List Nat} {w : World} {v0 : Value} {vs : List Value} {x : α × β} (hα : sz α = 1) (h : Own ps w (v0 :: vs) x) : ∃ p q, ps = p ++ q ∧ Own p w [v0] x.1 ∧ Own q w vs x.2 := by
  obtain ⟨p, q, a, b, hp, e, h1, h2⟩ := h
  have := Rep.rd_len (Rep.own_rd h1)
  rw [hα] at this
  match a, this with
  | [a0], _ => simp only [List.cons_append, List.nil_append, List.cons.injEq] at e; obtain ⟨rfl, rfl⟩ := e; exact ⟨p, q, hp, h1, h2⟩
theorem mk_own {α β : Type} [Rep α] [Rep β] {p q : List Nat} {w : World} {v0 : Value} {vs : List Value} {x : α} {y : β} (h1 : Own p w [v0] x) (h2 : Own q w vs y) : Own (p ++ q) w (v0 :: vs) (x, y) := ⟨p, q, [v0], vs, rfl, rfl, h1, h2⟩

end Go.Proofs.Ytkbeihkjhmillaa
