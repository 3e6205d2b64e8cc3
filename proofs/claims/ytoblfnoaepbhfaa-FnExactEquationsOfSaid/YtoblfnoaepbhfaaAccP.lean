/-
  PLAIN: a slice that grows by append, what it owns said by a predicate on blocks.
-/
import Derived.Test.YtoblfnoaepbhfaaRaw
namespace Go.Proofs.Ytoblfnoaepbhfaa
open Go.RowKit
open Rep (Rd Own sz)
set_option linter.unusedSimpArgs false
set_option linter.unusedVariables false

/-- What stood there is as it was, but for the blocks of A. -/
structure ButP (A : Nat → Prop) (w w' : World) : Prop where
  os : w'.os = w.os
  tape : w'.tape = w.tape
  output : w'.output = w.output
  size : w.heap.size ≤ w'.heap.size
  block : ∀ k, k < w.heap.size → ¬ A k → w'.heap[k]? = w.heap[k]?
theorem ButP.refl (A : Nat → Prop) (w : World) : ButP A w w := ⟨rfl, rfl, rfl, Nat.le_refl _, fun _ _ _ => rfl⟩
theorem ButP.of {A : Nat → Prop} {w w' : World} (h : Below w.heap.size w w') : ButP A w w' := ⟨h.os, h.tape, h.output, h.size, fun k hk _ => h.block k hk⟩
theorem But.butP {A : Nat → Prop} {ps : List Nat} {w w' : World} (h : But ps w w') (hA : ∀ k, k ∈ ps → A k) : ButP A w w' := ⟨h.os, h.tape, h.output, h.size, fun k hk hn => h.block k hk (fun hp => hn (hA k hp))⟩
/-- A step behind another one: what is new may be written. -/
theorem ButP.trans {A C : Nat → Prop} {a b c : World} (h : ButP A a b) (k : ButP C b c) (hC : ∀ z, C z → A z ∨ a.heap.size ≤ z) : ButP A a c :=
  ⟨k.os.trans h.os, k.tape.trans h.tape, k.output.trans h.output, Nat.le_trans h.size k.size, fun i hi hn => (k.block i (Nat.lt_of_lt_of_le hi h.size) (fun hc => by rcases hC i hc with h1 | h1; exact hn h1; omega)).trans (h.block i hi hn)⟩
theorem ButP.wk {A C : Nat → Prop} {w w' : World} (h : ButP A w w') (hA : ∀ k, A k → C k) : ButP C w w' := ⟨h.os, h.tape, h.output, h.size, fun k hk hn => h.block k hk (fun ha => hn (hA k ha))⟩
theorem ButP.below {A : Nat → Prop} {B : Nat} {w w' : World} (h : ButP A w w') (hA : ∀ k, A k → B ≤ k) (hB : B ≤ w.heap.size) : Below B w w' :=
  ⟨h.os, h.tape, h.output, h.size, fun k hk => h.block k (by omega) (fun ha => by have := hA k ha; omega)⟩
theorem Own.butP {α : Type} [Rep α] {A : Nat → Prop} {ps : List Nat} {w w' : World} {vs : List Value} {x : α} (h : Own ps w vs x) (hb : ButP A w w') (hd : ∀ k, k ∈ ps → ¬ A k) : Own ps w' vs x :=
  Rep.own_frame (fun k hk => hb.block k (Rep.own_lt h k hk) (hd k hk)) h
theorem Ip.butP {α : Type} [Rep α] {A C : Nat → Prop} {w w' : World} {vs : List Value} {x : α} (h : Ip C w vs x) (hb : ButP A w w') (hd : ∀ k, C k → ¬ A k) : Ip C w' vs x := by
  obtain ⟨ps, h1, h2, h3⟩ := h
  exact ⟨ps, Own.butP h1 hb (fun k hk => hd k (h3 k hk)), h2, h3⟩
theorem cellB {A : Nat → Prop} {w w' : World} {b o : Nat} {v : Value} (hb : ButP A w w') (h : w.cell? ⟨b, o, none⟩ = some v) (hA : ¬ A b) : w'.cell? ⟨b, o, none⟩ = some v :=
  cellK h (hb.block b (World.block_lt_of_cell? w _ h) hA)

def AccP {α : Type} [Rep α] (A : Nat → Prop) (e : TypeId) (w : World) (v : Value) (l : List α) : Prop :=
  ∃ (xs : List Value) (pss : List (List Nat)), w.ownsRow 0 e (sz α) v l.length xs ∧ pss.length = l.length ∧ (v.ownBlock.toList ++ List.flatten pss).Nodup ∧ (∀ k, k ∈ v.ownBlock.toList ++ List.flatten pss → A k ∧ k < w.heap.size) ∧
    ∀ i (h : i < l.length), ∃ p vs, pss[i]? = some p ∧ Own p w vs l[i] ∧ ∀ k, k < vs.length → xs[i * sz α + k]? = vs[k]?
theorem Acc.accP {α : Type} [Rep α] {B H : Nat} {e : TypeId} {w : World} {v : Value} {l : List α} (h : Acc B H e w v l) (hH : H ≤ w.heap.size) : AccP (fun k => B ≤ k ∧ k < H) e w v l := by
  obtain ⟨xs, pss, h1, h2, h3, h4, h5⟩ := h
  exact ⟨xs, pss, row_base h1, h2, h3, fun k hk => ⟨h4 k hk, by have := (h4 k hk).2; omega⟩, h5⟩
theorem AccP.wk {α : Type} [Rep α] {A C : Nat → Prop} {e : TypeId} {w : World} {v : Value} {l : List α} (h : AccP A e w v l) (hA : ∀ k, A k → C k) : AccP C e w v l := by
  obtain ⟨xs, pss, h1, h2, h3, h4, h5⟩ := h
  exact ⟨xs, pss, h1, h2, h3, fun k hk => ⟨hA k (h4 k hk).1, (h4 k hk).2⟩, h5⟩
theorem AccP.frame {α : Type} [Rep α] {A : Nat → Prop} {e : TypeId} {w w' : World} {v : Value} {l : List α} (h : AccP A e w v l) (hs : w.heap.size ≤ w'.heap.size) (hb : ∀ k, A k → k < w.heap.size → w'.heap[k]? = w.heap[k]?) : AccP A e w' v l := by
  obtain ⟨xs, pss, h1, h2, h3, h4, h5⟩ := h
  refine ⟨xs, pss, row_frame h1 (fun g hg => ?_), h2, h3, fun k hk => ⟨(h4 k hk).1, Nat.lt_of_lt_of_le (h4 k hk).2 hs⟩, fun i hi => ?_⟩
  · have := h4 g (by simp [hg]); exact hb g this.1 this.2
  · obtain ⟨p, vs, hp, hO, hc⟩ := h5 i hi
    refine ⟨p, vs, hp, Rep.own_frame (fun k hk => ?_) hO, hc⟩
    have := h4 k (List.mem_append.2 (.inr (List.mem_flatten.2 ⟨p, List.mem_of_getElem? hp, hk⟩)))
    exact hb k this.1 this.2
theorem AccP.mono {α : Type} [Rep α] {A : Nat → Prop} {e : TypeId} {w w' : World} {v : Value} {l : List α} (h : AccP A e w v l) (hb : Below w.heap.size w w') : AccP A e w' v l :=
  h.frame hb.size (fun k _ hk => hb.block k hk)
theorem AccP.butP {α : Type} [Rep α] {A C : Nat → Prop} {e : TypeId} {w w' : World} {v : Value} {l : List α} (h : AccP A e w v l) (hb : ButP C w w') (hd : ∀ k, A k → ¬ C k) : AccP A e w' v l :=
  h.frame hb.size (fun k hA hk => hb.block k hk (hd k hA))
theorem AccP.ip {α : Type} [Rep α] {A : Nat → Prop} {e : TypeId} {w : World} {v : Value} {l : List α} (h : AccP A e w v l) : Ip A w [v] l := by
  obtain ⟨xs, pss, h1, h2, h3, h4, h5⟩ := h
  exact ⟨_, ⟨v, rfl, ownSl_of_row h1 h2 h5⟩, h3, fun k hk => (h4 k hk).1⟩
theorem AccP.rd {α : Type} [Rep α] {A : Nat → Prop} {e : TypeId} {w : World} {v : Value} {l : List α} (h : AccP A e w v l) : Rd w [v] l := h.ip.rd
theorem AccP.len {α : Type} [Rep α] {A : Nat → Prop} {e : TypeId} {w : World} {v : Value} {l : List α} (h : AccP A e w v l) : ∃ a c, v = .slice a l.length c ∧ l.length ≤ maxLen := by
  obtain ⟨xs, pss, h1, h2, h3, h4, h5⟩ := h
  rcases h1.2 with ⟨rfl, h0⟩ | ⟨g, cap, cur, rfl, hg, hh, hc, hm, hs, ht⟩
  · exact ⟨none, 0, by rw [h0], by omega⟩
  · exact ⟨_, cap, rfl, Nat.le_trans hc hm⟩
theorem AccP.nil {α : Type} [Rep α] (A : Nat → Prop) (e : TypeId) (w : World) : AccP (α := α) A e w (.slice none 0 0) [] :=
  ⟨[], [], World.ownsRow_nil w 0 e _, rfl, by simp [Value.ownBlock], by simp [Value.ownBlock], fun i h => absurd h (Nat.not_lt_zero _)⟩
theorem accP_made {α : Type} [Rep α] (w : World) (e : TypeId) : AccP (α := α) (fun k => k = w.heap.size) e (w.alloc (.cells #[] e)) (.slice (some ⟨w.heap.size, 0, none⟩) 0 0) [] :=
  ⟨[], [], row_made w e, rfl, by simp [Value.ownBlock], by simp [Value.ownBlock], fun i h => absurd h (Nat.not_lt_zero _)⟩
theorem accP_snoc {α : Type} [Rep α] {A C : Nat → Prop} {e : TypeId} {w w' : World} {v : Value} {l : List α} {y : α} {vs : List Value} {xs : List Value} {pss : List (List Nat)} {g' c' : Nat}
    (h1 : w.ownsRow 0 e (sz α) v l.length xs) (h2 : pss.length = l.length) (h3 : (v.ownBlock.toList ++ List.flatten pss).Nodup) (h4 : ∀ k, k ∈ v.ownBlock.toList ++ List.flatten pss → A k ∧ k < w.heap.size)
    (h5 : ∀ i (h : i < l.length), ∃ p vs, pss[i]? = some p ∧ Own p w vs l[i] ∧ ∀ k, k < vs.length → xs[i * sz α + k]? = vs[k]?) (hy : Ip C w vs y) (hd : ∀ k, A k → ¬ C k)
    (hg : v.ownBlock = some g' ∨ g' = w.heap.size) (hrow : w'.ownsRow 0 e (sz α) (.slice (some ⟨g', 0, none⟩) (l.length + 1) c') (l.length + 1) (xs ++ vs)) (hb : But v.ownBlock.toList w w') (hlt : g' < w'.heap.size) :
    AccP (fun k => A k ∨ C k ∨ k = w.heap.size) e w' (.slice (some ⟨g', 0, none⟩) (l.length + 1) c') (l ++ [y]) ∧ ButP A w w' := by
  obtain ⟨q, hq, hqn, hqC⟩ := hy
  have hql := Rep.own_lt hq
  rw [List.nodup_append] at h3
  obtain ⟨n1, n2, n3⟩ := h3
  have hown : ∀ k, k ∈ v.ownBlock.toList → A k ∧ k < w.heap.size := fun k hk => h4 k (List.mem_append.2 (.inl hk))
  have hfl : ∀ k, k ∈ List.flatten pss → A k ∧ k < w.heap.size := fun k hk => h4 k (List.mem_append.2 (.inr hk))
  have hg2 : ∀ k, k ∈ List.flatten pss → k ≠ g' := fun k hk e => by
    subst e
    rcases hg with h | h
    · exact n3 k (by simp [h]) k hk rfl
    · have := (hfl k hk).2; omega
  have hg3 : ∀ k, k ∈ q → k ≠ g' := fun k hk e => by
    subst e
    rcases hg with h | h
    · exact hd k (hown k (by simp [h])).1 (hqC k hk)
    · have := hql k hk; omega
  refine ⟨⟨xs ++ vs, pss ++ [q], by simpa using hrow, by simp [h2], ?_, ?_, ?_⟩, hb.butP (fun k hk => (hown k hk).1)⟩
  · simp only [Value.ownBlock, Option.toList_some, List.singleton_append, List.flatten_append, List.flatten_cons, List.flatten_nil, List.append_nil, List.nodup_cons, List.mem_append, not_or]
    refine ⟨⟨fun h => hg2 _ h rfl, fun h => hg3 _ h rfl⟩, List.nodup_append.2 ⟨n2, hqn, fun a ha b hb2 e => ?_⟩⟩
    subst e
    exact hd a (hfl a ha).1 (hqC a hb2)
  · intro k hk
    simp only [Value.ownBlock, Option.toList_some, List.singleton_append, List.flatten_append, List.flatten_cons, List.flatten_nil, List.append_nil, List.mem_cons, List.mem_append] at hk
    rcases hk with rfl | hk | hk
    · refine ⟨?_, hlt⟩
      rcases hg with h | h
      · exact .inl (hown k (by simp [h])).1
      · exact .inr (.inr h)
    · exact ⟨.inl (hfl k hk).1, Nat.lt_of_lt_of_le (hfl k hk).2 hb.size⟩
    · exact ⟨.inr (.inl (hqC k hk)), Nat.lt_of_lt_of_le (hql k hk) hb.size⟩
  · refine row_el_snoc (by have := h1.1; simpa using this) h2 (fun i hi => ?_) (Own.but hq hb (fun k hk hm => hd k (hown k hm).1 (hqC k hk)))
    obtain ⟨p, us, hp, hO, hc⟩ := h5 i hi
    exact ⟨p, us, hp, Own.but hO hb (fun k hk hm => n3 k hm k (List.mem_flatten.2 ⟨p, List.mem_of_getElem? hp, hk⟩) rfl), hc⟩
theorem wp_append_accP {P : Program} (w : World) {o : Oper} {a : Act} {K : Act → World → Prop} {Q : Exit → Act → World → Prop} (s x : Operand) (t : TypeId)
    (ho : o.op = .call { callee := .builtin .append, args := #[s, x], argTypes := #[t, t] }) {e : TypeId} {α : Type} [Rep α] {z : Value} {bytes : Nat} (E : ElemT P t e α z bytes) {v : Value} {l : List α} {A C : Nat → Prop}
    (hs : a.eval s = v) (hacc : AccP A e w v l) {y : α} {vs : List Value} (hy : Ip C w vs y) (hd : ∀ k, A k → ¬ C k)
    (ad : Addr) (c : Nat) (hx : a.eval x = .slice (some ad) 1 c) (hnews : ∀ j u, vs[j]? = some u → w.cell? (ad.add j) = some u) (hlen : l.length + 1 ≤ 1073741824)
    (h : ∀ a' c' w', AccP (fun k => A k ∨ C k ∨ k = w.heap.size) e w' (.slice a' (l.length + 1) c') (l ++ [y]) → ButP A w w' → K (a.put o.dst (.slice a' (l.length + 1) c')) w') : o.wp P a w K Q := by
  obtain ⟨xs, pss, h1, h2, h3, h4, h5⟩ := hacc
  exact wp_append_row w s x t ho E hs h1 (Rep.rd_len hy.rd) (Rep.rd_one hy.rd) ad c hx hnews hlen (fun g' c' w' hg hrow hb hlt => by
    obtain ⟨r1, r2⟩ := accP_snoc h1 h2 h3 h4 h5 hy hd hg hrow hb hlt
    exact h _ c' w' r1 r2)
theorem wpList_append_accP {P : Program} (w : World) {ops : Array Oper} {rest : List Oper} {o : Oper} {a : Act} {Q : Exit → Act → World → Prop} (hgd : o.guard = none) (s x : Operand) (t : TypeId)
    (ho : o.op = .call { callee := .builtin .append, args := #[s, x], argTypes := #[t, t] }) {e : TypeId} {α : Type} [Rep α] {z : Value} {bytes : Nat} (E : ElemT P t e α z bytes) {v : Value} {l : List α} {A C : Nat → Prop}
    (hs : a.eval s = v) (hacc : AccP A e w v l) {y : α} {vs : List Value} (hy : Ip C w vs y) (hd : ∀ k, A k → ¬ C k)
    (ad : Addr) (c : Nat) (hx : a.eval x = .slice (some ad) 1 c) (hnews : ∀ j u, vs[j]? = some u → w.cell? (ad.add j) = some u) (hlen : l.length + 1 ≤ 1073741824)
    (h : ∀ a' c' w', AccP (fun k => A k ∨ C k ∨ k = w.heap.size) e w' (.slice a' (l.length + 1) c') (l ++ [y]) → ButP A w w' → wpList P ops Q rest (a.put o.dst (.slice a' (l.length + 1) c')) w') : wpList P ops Q (o :: rest) a w :=
  wpList_plain hgd fun _ hK => wp_append_accP w s x t ho E hs hacc hy hd ad c hx hnews hlen fun a' c' w' h1 h2 => hK _ _ (h a' c' w' h1 h2)
theorem AccP.tight {α : Type} [Rep α] {A : Nat → Prop} {e : TypeId} {w : World} {v : Value} {l : List α} (h : AccP A e w v l) : AccP (fun k => A k ∧ k < w.heap.size) e w v l := by
  obtain ⟨xs, pss, h1, h2, h3, h4, h5⟩ := h
  exact ⟨xs, pss, h1, h2, h3, fun k hk => ⟨h4 k hk, (h4 k hk).2⟩, h5⟩
theorem Fresh.ip {α : Type} [Rep α] {lo : Nat} {w : World} {vs : List Value} {x : α} (h : Fresh lo w vs x) : Ip (fun k => lo ≤ k ∧ k < w.heap.size) w vs x := by
  obtain ⟨ps, h1, h2, h3⟩ := h
  exact ⟨ps, h1, h2, fun k hk => ⟨h3 k hk, Rep.own_lt h1 k hk⟩⟩
theorem Ip.fresh {α : Type} [Rep α] {A : Nat → Prop} {lo : Nat} {w : World} {vs : List Value} {x : α} (h : Ip A w vs x) (hA : ∀ k, A k → lo ≤ k) : Fresh lo w vs x := by
  obtain ⟨ps, h1, h2, h3⟩ := h
  exact ⟨ps, h1, h2, fun k hk => hA k (h3 k hk)⟩
theorem St.butP {w : World} {B : Nat} {wr w1 : World} {bx : List (Nat × Array Value × TypeId)} (h : St w B wr bx) {A : Nat → Prop} (hb : ButP A wr w1) (hA : ∀ k, A k → w.heap.size ≤ k) (hx : ∀ x, x ∈ bx → ¬ A x.1) : St w B w1 bx :=
  ⟨h.bel.trans (hb.below hA (Nat.le_trans h.lo h.hi)), h.lo, Nat.le_trans h.hi hb.size, fun x hm => by
    have h1 := h.box x hm
    exact ⟨h1.1, h1.2.1, by rw [hb.block _ (Nat.lt_of_lt_of_le h1.2.1 h.hi) (hx x hm)]; exact h1.2.2⟩⟩
theorem AccP.setCell {α : Type} [Rep α] {A : Nat → Prop} {e : TypeId} {w : World} {v : Value} {l : List α} (h : AccP A e w v l) {b o : Nat} (u : Value) (hA : ¬ A b) : AccP A e (w.setCell ⟨b, o, none⟩ u) v l :=
  h.frame (by simp [World.setCell]) (fun k hk _ => Below.heap_setCell _ _ _ _ (fun e => by subst e; exact hA hk))

end Go.Proofs.Ytoblfnoaepbhfaa
