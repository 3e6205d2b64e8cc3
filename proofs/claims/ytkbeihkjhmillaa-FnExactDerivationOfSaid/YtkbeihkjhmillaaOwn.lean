/-
  PLAIN: writing into what the call owns.
-/
import Derived.Test.YtkbeihkjhmillaaLib
import Derived.Maps.AppendAt
import Derived.RegionTactic
import Derived.Deep.AppendLies
namespace Go.Proofs.Ytkbeihkjhmillaa
open Go.RowKit
open Rep (Rd Own sz)
set_option linter.unusedSimpArgs false
set_option linter.unusedVariables false

/-- w' is w but for the blocks ps; no block is new. -/
structure OnlyAt (ps : List Nat) (w w' : World) : Prop where
  os : w'.os = w.os
  tape : w'.tape = w.tape
  output : w'.output = w.output
  size : w'.heap.size = w.heap.size
  block : ∀ k, k ∉ ps → w'.heap[k]? = w.heap[k]?

theorem OnlyAt.refl (ps : List Nat) (w : World) : OnlyAt ps w w := ⟨rfl, rfl, rfl, rfl, fun _ _ => rfl⟩
theorem OnlyAt.trans {ps : List Nat} {a b c : World} (h : OnlyAt ps a b) (k : OnlyAt ps b c) : OnlyAt ps a c :=
  ⟨k.os.trans h.os, k.tape.trans h.tape, k.output.trans h.output, k.size.trans h.size, fun i hi => (k.block i hi).trans (h.block i hi)⟩
theorem OnlyAt.mono {ps qs : List Nat} {a b : World} (h : OnlyAt ps a b) (hs : ∀ k, k ∈ ps → k ∈ qs) : OnlyAt qs a b :=
  ⟨h.os, h.tape, h.output, h.size, fun i hi => h.block i (fun hk => hi (hs i hk))⟩
theorem OnlyAt.drewN {ps : List Nat} {a b : World} (h : OnlyAt ps a b) (n : Nat) : OnlyAt ps a (b.drewN n) := ⟨h.os, h.tape, h.output, h.size, h.block⟩
theorem OnlyAt.below {ps : List Nat} {B : Nat} {a b : World} (h : OnlyAt ps a b) (hp : ∀ k, k ∈ ps → B ≤ k) : Below B a b :=
  ⟨h.os, h.tape, h.output, by rw [h.size]; exact Nat.le_refl _, fun k hk => h.block k (fun hm => by have := hp k hm; omega)⟩
theorem OnlyAt.setCell {ps : List Nat} {a b : World} (h : OnlyAt ps a b) {p : Addr} (hp : p.block ∈ ps) (u : Value) : OnlyAt ps a (b.setCell p u) := by
  refine h.trans ⟨rfl, rfl, rfl, by simp [World.setCell], fun k hk => ?_⟩
  exact Below.heap_setCell _ _ _ _ (fun e => hk (e ▸ hp))
theorem Own.only {α : Type} [Rep α] {ps qs : List Nat} {w w' : World} {vs : List Value} {x : α} (h : Own ps w vs x) (hb : OnlyAt qs w w') (hd : ∀ k, k ∈ ps → k ∉ qs) : Own ps w' vs x :=
  Rep.own_frame (fun k hk => hb.block k (hd k hk)) h
/-- A block of cells behind a store into it. -/
theorem heap_setCell_at (w : World) (g o : Nat) (u : Value) (cur : Array Value) (e : TypeId) (fr : Nat × Nat) (h : w.heap[g]? = some (.cells cur e fr)) :
    (w.setCell ⟨g, o, none⟩ u).heap[g]? = some (.cells (cur.setIfInBounds o u) e fr) := by
  simp [World.setCell, Array.getElem?_modify, h]
theorem cell_at_block {w : World} {g o : Nat} {cur : Array Value} {e : TypeId} {fr : Nat × Nat} (h : w.heap[g]? = some (.cells cur e fr)) : w.cell? ⟨g, o, none⟩ = cur[o]? := by simp [World.cell?, h]
theorem free_at_block {w : World} {g o : Nat} {cur : Array Value} {e : TypeId} (h : w.heap[g]? = some (.cells cur e (0, 0))) : w.frozen? ⟨g, o, none⟩ = false := by simp [World.frozen?, h]

theorem heap_alloc_at (w : World) (o : Obj) {n : Nat} (h : w.heap.size = n) : (w.alloc o).heap[n]? = some o := by subst h; exact heap_alloc_new w o
/-- A slice of ints that is the call's own: its cells, free to be written. -/
theorem ownSl_int {ps : List Nat} {w : World} {v : Value} {l : List Int} (h : OwnSl ps w v l) (i : Nat) (hi : i < l.length) :
    ∃ g o c, v = .slice (some ⟨g, o, none⟩) l.length c ∧ ps = [g] ∧ w.cell? ⟨g, o + i, none⟩ = some (.int .i64 (l.getD i 0)) ∧ w.frozen? ⟨g, o + i, none⟩ = false ∧
      ∀ x, I64 x → OwnSl ps (w.setCell ⟨g, o + i, none⟩ (.int .i64 x)) v (l.set i x) := by
  rcases h with ⟨rfl, rfl, _⟩ | ⟨g, o, c, cur, e, pss, rfl, h1, h2, h3, rfl, h5, h6⟩
  · exact absurd hi (Nat.not_lt_zero _)
  have hps : List.flatten pss = [] := by
    rw [List.flatten_eq_nil_iff]
    intro p hp
    obtain ⟨j, hj, rfl⟩ := List.mem_iff_getElem.1 hp
    obtain ⟨p', vs, hp', hO, _⟩ := h6 j (by omega)
    rw [List.getElem?_eq_getElem hj] at hp'
    cases hp'
    exact hO.1
  obtain ⟨p, vs, hp, hO, hc⟩ := h6 i hi
  obtain ⟨rfl, rfl, hI⟩ := hO
  have hci := hc 0 (by simp)
  simp at hci
  have hlt : o + i < cur.size := (Array.getElem?_eq_some_iff.1 hci).1
  refine ⟨g, o, c, rfl, by rw [hps], ?_, free_at_block h3, fun x hx => ?_⟩
  · rw [cell_at_block h3, hci]; simp [List.getD, hi]
  · refine .inr ⟨g, o, c, _, e, pss, by simp, by simpa using h1, h2, heap_setCell_at _ _ _ _ _ _ _ h3, rfl, by simpa using h5, fun j hj => ?_⟩
    simp only [List.length_set] at hj
    obtain ⟨p', vs', hp', hO', hc'⟩ := h6 j hj
    obtain ⟨rfl, rfl, hI'⟩ := hO'
    by_cases hij : i = j
    · subst hij
      refine ⟨[], [.int .i64 x], hp', ?_, fun k hk => ?_⟩
      · simp only [List.getElem_set_self]; exact ⟨rfl, rfl, hx⟩
      · obtain rfl : k = 0 := by simpa using hk
        simp [Array.getElem?_setIfInBounds, hlt]
    · refine ⟨[], [.int .i64 l[j]], hp', ?_, fun k hk => ?_⟩
      · simp only [List.getElem_set_ne hij]; exact ⟨rfl, rfl, hI'⟩
      · obtain rfl : k = 0 := by simpa using hk
        have := hc' 0 (by simp)
        simp at this
        simp [Array.getElem?_setIfInBounds, hij, this]
theorem ownSl_len {α : Type} [Rep α] {ps : List Nat} {w : World} {v : Value} {l : List α} (h : OwnSl ps w v l) : ∃ a c, v = .slice a l.length c ∧ l.length ≤ maxLen := by
  rcases h with ⟨rfl, rfl, a, c, rfl, hc⟩ | ⟨g, o, c, cur, e, pss, rfl, h1, h2, h3, rfl, h5, h6⟩
  · exact ⟨a, c, rfl, Nat.zero_le _⟩
  · exact ⟨_, c, rfl, Nat.le_trans h1 h2⟩
theorem ownSl_rd {α : Type} [Rep α] {ps : List Nat} {w : World} {v : Value} {l : List α} (h : OwnSl ps w v l) : Rd w [v] l := Rep.own_rd (ps := ps) ⟨v, rfl, h⟩
theorem own_list {α : Type} [Rep α] {ps : List Nat} {w : World} {v : Value} {l : List α} (h : Own ps w [v] l) : OwnSl ps w v l := by
  obtain ⟨v', e, h⟩ := h
  obtain rfl : v = v' := by simpa using e
  exact h

/-! ### A slice that the call makes by appending -/

/-- v is a row of the call's own that holds l; all blocks of it lie in [B, H), none twice. -/
def Acc {α : Type} [Rep α] (B H : Nat) (e : TypeId) (w : World) (v : Value) (l : List α) : Prop :=
  ∃ (xs : List Value) (pss : List (List Nat)), w.ownsRow B e (sz α) v l.length xs ∧ pss.length = l.length ∧ (v.ownBlock.toList ++ List.flatten pss).Nodup ∧ (∀ k, k ∈ v.ownBlock.toList ++ List.flatten pss → B ≤ k ∧ k < H) ∧
    ∀ i (h : i < l.length), ∃ p vs, pss[i]? = some p ∧ Own p w vs l[i] ∧ ∀ k, k < vs.length → xs[i * sz α + k]? = vs[k]?

theorem Acc.nil {α : Type} [Rep α] (B H : Nat) (e : TypeId) (w : World) : Acc (α := α) B H e w (.slice none 0 0) [] :=
  ⟨[], [], World.ownsRow_nil w B e _, rfl, by simp [Value.ownBlock], by simp [Value.ownBlock], fun i h => absurd h (Nat.not_lt_zero _)⟩
theorem ownsRow_below {w w' : World} {B : Nat} {e : TypeId} {size : Nat} {v : Value} {n : Nat} {xs : List Value} (h : w.ownsRow B e size v n xs) (hb : Below w.heap.size w w') : w'.ownsRow B e size v n xs := by
  refine ⟨h.1, ?_⟩
  rcases h.2 with hn | ⟨g, cap, cur, rfl, hg, hgg, rest⟩
  · exact .inl hn
  · exact .inr ⟨g, cap, cur, rfl, hg, by rw [hb.block g (Array.getElem?_eq_some_iff.1 hgg).1]; exact hgg, rest⟩
theorem Acc.mono {α : Type} [Rep α] {B H : Nat} {e : TypeId} {w w' : World} {v : Value} {l : List α} (h : Acc B H e w v l) (hb : Below w.heap.size w w') : Acc B H e w' v l := by
  obtain ⟨xs, pss, h1, h2, h3, h4, h5⟩ := h
  refine ⟨xs, pss, ownsRow_below h1 hb, h2, h3, h4, fun i hi => ?_⟩
  obtain ⟨p, vs, hp, hO, hx⟩ := h5 i hi
  exact ⟨p, vs, hp, Own.mono hO hb, hx⟩
theorem Acc.frame {α : Type} [Rep α] {B H : Nat} {e : TypeId} {w w' : World} {v : Value} {l : List α} (h : Acc B H e w v l) (hb : ∀ k, B ≤ k → k < H → w'.heap[k]? = w.heap[k]?) : Acc B H e w' v l := by
  obtain ⟨xs, pss, h1, h2, h3, h4, h5⟩ := h
  refine ⟨xs, pss, ?_, h2, h3, h4, fun i hi => ?_⟩
  · refine ⟨h1.1, ?_⟩
    rcases h1.2 with hn | ⟨g, cap, cur, rfl, hg, hgg, rest⟩
    · exact .inl hn
    · have := h4 g (by simp [Value.ownBlock])
      exact .inr ⟨g, cap, cur, rfl, hg, by rw [hb g this.1 this.2]; exact hgg, rest⟩
  · obtain ⟨p, vs, hp, hO, hx⟩ := h5 i hi
    refine ⟨p, vs, hp, Rep.own_frame (fun k hk => ?_) hO, hx⟩
    have := h4 k (List.mem_append.2 (.inr (List.mem_flatten.2 ⟨p, List.mem_of_getElem? hp, hk⟩)))
    exact hb k this.1 this.2
/-- A store below the row's blocks. -/
theorem Acc.setCell {α : Type} [Rep α] {B H : Nat} {e : TypeId} {w : World} {v : Value} {l : List α} (h : Acc B H e w v l) {a : Addr} (ha : a.block < B) (u : Value) : Acc B H e (w.setCell a u) v l :=
  h.frame (fun k hk _ => Below.heap_setCell _ _ _ _ (by omega))
theorem Acc.drewN {α : Type} [Rep α] {B H : Nat} {e : TypeId} {w : World} {v : Value} {l : List α} (h : Acc B H e w v l) (n : Nat) : Acc B H e (w.drewN n) v l :=
  h.frame (fun _ _ _ => rfl)
theorem Acc.up {α : Type} [Rep α] {B H H' : Nat} {e : TypeId} {w : World} {v : Value} {l : List α} (h : Acc B H e w v l) (hH : H ≤ H') : Acc B H' e w v l := by
  obtain ⟨xs, pss, h1, h2, h3, h4, h5⟩ := h
  exact ⟨xs, pss, h1, h2, h3, fun k hk => ⟨(h4 k hk).1, Nat.lt_of_lt_of_le (h4 k hk).2 hH⟩, h5⟩
theorem Acc.len {α : Type} [Rep α] {B H : Nat} {e : TypeId} {w : World} {v : Value} {l : List α} (h : Acc B H e w v l) : ∃ a c, v = .slice a l.length c ∧ l.length ≤ maxLen := by
  obtain ⟨xs, pss, h1, _⟩ := h
  rcases h1.2 with ⟨rfl, h0⟩ | ⟨g, cap, cur, rfl, _, _, hc, hm, _⟩
  · exact ⟨none, 0, by rw [h0], by rw [h0]; exact Nat.zero_le _⟩
  · exact ⟨_, _, rfl, Nat.le_trans hc hm⟩
theorem Acc.ownSl {α : Type} [Rep α] {B H : Nat} {e : TypeId} {w : World} {v : Value} {l : List α} (h : Acc B H e w v l) : ∃ ps, OwnSl ps w v l ∧ ps.Nodup ∧ ∀ k, k ∈ ps → B ≤ k ∧ k < H := by
  obtain ⟨xs, pss, h1, h2, h3, h4, h5⟩ := h
  rcases h1.2 with ⟨rfl, h0⟩ | ⟨g, cap, cur, rfl, hg, hh, hc, hm, hs, ht⟩
  · have : l = [] := List.eq_nil_of_length_eq_zero h0
    subst this
    exact ⟨[], .inl ⟨rfl, rfl, none, 0, rfl, Nat.zero_le _⟩, List.nodup_nil, by simp⟩
  · refine ⟨g :: List.flatten pss, .inr ⟨g, 0, cap, cur, e, pss, rfl, hc, hm, hh, rfl, h2, fun i hi => ?_⟩, by simpa [Value.ownBlock] using h3, by simpa [Value.ownBlock] using h4⟩
    obtain ⟨p, vs, hp, hO, hx⟩ := h5 i hi
    refine ⟨p, vs, hp, hO, fun k hk => ?_⟩
    have hsz := Rep.rd_len (Rep.own_rd hO)
    rw [← hx k hk, ← ht, List.getElem?_take]
    have hlt : i * sz α + k < l.length * sz α := by
      have : (i + 1) * sz α ≤ l.length * sz α := Nat.mul_le_mul_right _ hi
      rw [Nat.add_mul] at this
      omega
    rw [if_pos hlt, Nat.zero_add]
    simp
theorem Acc.fresh {α : Type} [Rep α] {B H : Nat} {e : TypeId} {w : World} {v : Value} {l : List α} (h : Acc B H e w v l) : Fresh B w [v] l := by
  obtain ⟨ps, h1, h2, h3⟩ := h.ownSl
  exact ⟨ps, ⟨v, rfl, h1⟩, h2, fun k hk => (h3 k hk).1⟩
theorem Acc.rd {α : Type} [Rep α] {B H : Nat} {e : TypeId} {w : World} {v : Value} {l : List α} (h : Acc B H e w v l) : Rd w [v] l := h.fresh.rd

theorem grownBy_below {w w' : World} {row : Option Nat} {B : Nat} (hg : w.grownBy w' row) (hB : B ≤ w.heap.size) (hr : ∀ k, row = some k → B ≤ k) : Below B w w' := (Below.refl B w).grown hg hB hr

/-- One element more. -/
theorem Acc.append {α : Type} [Rep α] {B H : Nat} {e : TypeId} {w w' : World} {v v' : Value} {l : List α} {x : α} {vs : List Value} (h : Acc B H e w v l) (hx : Fresh H w vs x) (hBH : B ≤ H) (hH : H ≤ w.heap.size)
    (hown : ∀ xs, w.ownsRow B e (sz α) v l.length xs → w'.ownsRow B e (sz α) v' (l.length + 1) (xs ++ vs)) (hgrow : w.grownBy w' v.ownBlock) (hv' : v'.ownBlock = v.ownBlock ∨ ∃ g, v'.ownBlock = some g ∧ w.heap.size ≤ g) :
    Acc B w'.heap.size e w' v' (l ++ [x]) := by
  obtain ⟨xs, pss, h1, h2, h3, h4, h5⟩ := h
  obtain ⟨q, hq, hqn, hqB⟩ := hx
  have hl1 := h1.1
  have hql := Rep.own_lt hq
  have keep : ∀ {β : Type} [Rep β] (p : List Nat) (us : List Value) (y : β), Own p w us y → (∀ k, k ∈ p → v.ownBlock ≠ some k) → Own p w' us y := by
    intro β _ p us y hO hne
    exact Rep.own_frame (fun k hk => hgrow.block k (Rep.own_lt hO k hk) (fun e => hne k hk e.symm)) hO
  have hsub : ∀ k, v.ownBlock = some k → k < H := fun k hk => (h4 k (by simp [hk])).2
  have hv'lt : ∀ k, v'.ownBlock = some k → B ≤ k ∧ k < w'.heap.size := (hown xs h1).lt
  have hsz := hgrow.size
  refine ⟨xs ++ vs, pss ++ [q], by simpa using hown xs h1, by simp [h2], ?_, ?_, fun i hi => ?_⟩
  · rw [List.nodup_append] at h3
    obtain ⟨_, n2, n3⟩ := h3
    rw [List.flatten_append, List.nodup_append]
    refine ⟨by cases v'.ownBlock <;> simp, ?_, ?_⟩
    · rw [List.nodup_append]
      refine ⟨n2, by simpa using hqn, ?_⟩
      rintro a ha b hb rfl
      have h6 := (h4 a (by simp [ha])).2
      have h7 := hqB a (by simpa using hb)
      omega
    · rintro a ha b hb rfl
      have ha' : v'.ownBlock = some a := by simpa using ha
      rcases List.mem_append.1 hb with hb | hb
      · rcases hv' with e1 | ⟨g, e1, hg⟩
        · exact n3 a (by rw [← e1]; simpa using ha) a hb rfl
        · rw [e1] at ha'
          cases ha'
          have := (h4 _ (List.mem_append.2 (.inr hb))).2
          omega
      · have hb : a ∈ q := by simpa using hb
        rcases hv' with e1 | ⟨g, e1, hg⟩
        · have := hsub a (by rw [← e1]; exact ha')
          have := hqB a hb
          omega
        · rw [e1] at ha'
          cases ha'
          have := hql _ hb
          omega
  · intro k hk
    rcases List.mem_append.1 hk with hk | hk
    · exact hv'lt k (by simpa using hk)
    · rw [List.flatten_append] at hk
      rcases List.mem_append.1 hk with hk | hk
      · have := h4 k (List.mem_append.2 (.inr hk))
        exact ⟨this.1, by omega⟩
      · have hk : k ∈ q := by simpa using hk
        have := hqB k hk
        have := hql k hk
        exact ⟨by omega, by omega⟩
  · by_cases hil : i < l.length
    · obtain ⟨p, us, hp, hO, hxx⟩ := h5 i hil
      refine ⟨p, us, by rw [List.getElem?_append_left (by omega)]; exact hp, ?_, fun k hk => ?_⟩
      · simp only [List.getElem_append_left hil]
        refine keep p us _ hO (fun k hk e => ?_)
        rw [List.nodup_append] at h3
        exact h3.2.2 k (by simp [e]) k (List.mem_flatten.2 ⟨p, List.mem_of_getElem? hp, hk⟩) rfl
      · have hus := Rep.rd_len (Rep.own_rd hO)
        have : (i + 1) * sz α ≤ l.length * sz α := Nat.mul_le_mul_right _ hil
        rw [Nat.add_mul] at this
        rw [List.getElem?_append_left (by omega)]
        exact hxx k hk
    · have hi' : i = l.length := by simp at hi; omega
      subst hi'
      refine ⟨q, vs, by rw [List.getElem?_append_right (by omega)]; simp [h2], ?_, fun k hk => ?_⟩
      · simp only [List.getElem_concat_length]
        refine keep q vs _ hq (fun k hk e => ?_)
        have := hsub k e
        have := hqB k hk
        omega
      · rw [List.getElem?_append_right (by omega)]
        congr 1
        omega

/-- What the table says of a slice type and its element type. -/
structure ElemT (P : Program) (t e : TypeId) (α : Type) [Rep α] (z : Value) (bytes : Nat) : Prop where
  und : P.underlying t = some (.slice e)
  info : ∃ i, P.info? e = some i ∧ i.zero = some z ∧ i.size = sz α ∧ i.bytes = bytes
  zs : z.cells.size = sz α
  pos : 0 < sz α
  small : bytes ≤ 1000
theorem ElemT.mk' {P : Program} {t e : TypeId} {α : Type} [Rep α] {z : Value} {bytes : Nat} (h1 : P.underlying t = some (.slice e))
    (h2 : (P.info? e).map (fun i => (i.zero, i.size, i.bytes)) = some (some z, sz α, bytes)) (h3 : z.cells.size = sz α) (h4 : 0 < sz α) (h5 : bytes ≤ 1000) : ElemT P t e α z bytes :=
  ⟨h1, info_parts h2, h3, h4, h5⟩

theorem run_append_acc {P : Program} (w : World) (t ty e : TypeId) {α : Type} [Rep α] {z : Value} {bytes : Nat} (E : ElemT P t e α z bytes) {B H : Nat} {v : Value} {l : List α} (hacc : Acc B H e w v l)
    {y : α} {vs : List Value} (hy : Fresh H w vs y) (hBH : B ≤ H) (hH : H ≤ w.heap.size) (ad : Addr) (c : Nat) (hnews : ∀ j u, vs[j]? = some u → w.cell? (ad.add j) = some u) (hlen : l.length + 1 ≤ 1073741824) :
    ∃ v' w', (Builtin.append_ #[t, t] ty #[v, .slice (some ad) 1 c]).run P w = .ok v' w' ∧ Acc B w'.heap.size e w' v' (l ++ [y]) ∧ Below B w w' ∧ (∀ k, H ≤ k → k < w.heap.size → w'.heap[k]? = w.heap[k]?) := by
  obtain ⟨i, hi, hz, hs, hb⟩ := E.info
  have hvs := Rep.rd_len hy.rd
  have hacc' := hacc
  obtain ⟨xs, pss, h1, h2, h3, h4, h5⟩ := hacc'
  have hbytes : (l.length + 1) * bytes ≤ 140737488355328 := by
    have h1 := E.small
    calc (l.length + 1) * bytes ≤ 1073741824 * 1000 := Nat.mul_le_mul hlen h1
      _ ≤ _ := by decide
  have hm : l.length + 1 ≤ maxLen := by unfold maxLen; omega
  have hn1 : ∀ j u, vs[j]? = some u → u ∈ vs := fun j u h => List.mem_of_getElem? h
  obtain ⟨v', w', hr, ho, hg, _, hat⟩ := run_append_own_at (P := P) w B t ty e i z (sz α) bytes E.und hi hz hs hb E.zs E.pos v l.length xs h1 ad 1 c vs (by omega) hnews (Rep.rd_one hy.rd) hm hbytes (by omega)
  refine ⟨v', w', hr, ?_, grownBy_below hg (by omega) (fun k hk => (h4 k (by simp [hk])).1), fun k hk hkw => hg.block k hkw (fun e => by have := (h4 k (by simp [← e])).2; omega)⟩
  refine Acc.append hacc hy hBH hH (fun xs' hx' => ?_) hg ?_
  · -- the cells of the row are what they are
    have : xs' = xs := by
      rcases h1.2 with ⟨rfl, h0⟩ | ⟨g, cap, cur, rfl, _, hh, _, _, _, ht⟩
      · have e1 := h1.1
        have e2 := hx'.1
        rw [h0] at e1 e2
        have z1 : xs = [] := List.eq_nil_of_length_eq_zero (by rw [e1]; simp)
        have z2 : xs' = [] := List.eq_nil_of_length_eq_zero (by rw [e2]; simp)
        rw [z1, z2]
      · rcases hx'.2 with ⟨hv, _⟩ | ⟨g', cap', cur', hv, _, hh', _, _, _, ht'⟩
        · simp at hv
        · simp only [Value.slice.injEq, Option.some.injEq, Addr.mk.injEq] at hv
          obtain ⟨⟨rfl, _⟩, _, _⟩ := hv
          rw [hh] at hh'
          simp only [Option.some.injEq, Obj.cells.injEq] at hh'
          obtain ⟨rfl, _⟩ := hh'
          rw [← ht, ← ht']
    rw [this]
    exact ho
  · rcases hat with h | h
    · exact .inl h
    · exact .inr ⟨_, h, Nat.le_refl _⟩

theorem wp_append_acc {P : Program} (w : World) {o : Oper} {a : Act} {K : Act → World → Prop} {Q : Exit → Act → World → Prop} (s x : Operand) (t : TypeId)
    (ho : o.op = .call { callee := .builtin .append, args := #[s, x], argTypes := #[t, t] }) {e : TypeId} {α : Type} [Rep α] {z : Value} {bytes : Nat} (E : ElemT P t e α z bytes) {B H : Nat} {v : Value} {l : List α}
    (hs : a.eval s = v) (hacc : Acc B H e w v l)
    {y : α} {vs : List Value} (hy : Fresh H w vs y) (hBH : B ≤ H) (hH : H ≤ w.heap.size) (ad : Addr) (c : Nat) (hx : a.eval x = .slice (some ad) 1 c) (hnews : ∀ j u, vs[j]? = some u → w.cell? (ad.add j) = some u) (hlen : l.length + 1 ≤ 1073741824)
    (h : ∀ a' c' w', Acc B w'.heap.size e w' (.slice a' (l.length + 1) c') (l ++ [y]) → Below B w w' → (∀ k, H ≤ k → k < w.heap.size → w'.heap[k]? = w.heap[k]?) → K (a.put o.dst (.slice a' (l.length + 1) c')) w') : o.wp P a w K Q := by
  obtain ⟨v', w', hr, h2, h3, h4⟩ := run_append_acc (P := P) w t o.type e E hacc hy hBH hH ad c hnews hlen
  obtain ⟨a', c', rfl, _⟩ := h2.len
  simp only [List.length_append, List.length_cons, List.length_nil, Nat.zero_add] at h2 hr
  unfold Oper.wp execOp
  simp only [ho, resolve, invoke, builtin, Sem.run_bind, Sem.run_pure, Result.andThen_ok, List.map_toArray, List.map_cons, List.map_nil, hs, hx, hr]
  exact h a' c' w' h2 h3 h4

theorem wpList_append_acc {P : Program} (w : World) {ops : Array Oper} {rest : List Oper} {o : Oper} {a : Act} {Q : Exit → Act → World → Prop} (hgd : o.guard = none) (s x : Operand) (t : TypeId)
    (ho : o.op = .call { callee := .builtin .append, args := #[s, x], argTypes := #[t, t] }) {e : TypeId} {α : Type} [Rep α] {z : Value} {bytes : Nat} (E : ElemT P t e α z bytes) {B H : Nat} {v : Value} {l : List α}
    (hs : a.eval s = v) (hacc : Acc B H e w v l)
    {y : α} {vs : List Value} (hy : Fresh H w vs y) (hBH : B ≤ H) (hH : H ≤ w.heap.size) (ad : Addr) (c : Nat) (hx : a.eval x = .slice (some ad) 1 c) (hnews : ∀ j u, vs[j]? = some u → w.cell? (ad.add j) = some u) (hlen : l.length + 1 ≤ 1073741824)
    (h : ∀ a' c' w', Acc B w'.heap.size e w' (.slice a' (l.length + 1) c') (l ++ [y]) → Below B w w' → (∀ k, H ≤ k → k < w.heap.size → w'.heap[k]? = w.heap[k]?) → wpList P ops Q rest (a.put o.dst (.slice a' (l.length + 1) c')) w') : wpList P ops Q (o :: rest) a w :=
  wpList_plain hgd fun _ hK => wp_append_acc w s x t ho E hs hacc hy hBH hH ad c hx hnews hlen fun a' c' w' h2 h3 h4 => hK _ _ (h a' c' w' h2 h3 h4)

theorem step_append_acc {P : Program} (w : World) {ops : Array Oper} {o : Oper} {a : Act} {K : Act → World → Prop} {Q : Exit → Act → World → Prop} {EE : Prop} (hgd : o.guard = none) (s x : Operand) (t : TypeId)
    (ho : o.op = .call { callee := .builtin .append, args := #[s, x], argTypes := #[t, t] }) {e : TypeId} {α : Type} [Rep α] {z : Value} {bytes : Nat} (E : ElemT P t e α z bytes) {B H : Nat} {v : Value} {l : List α}
    (hs : a.eval s = v) (hacc : Acc B H e w v l)
    {y : α} {vs : List Value} (hy : Fresh H w vs y) (hBH : B ≤ H) (hH : H ≤ w.heap.size) (ad : Addr) (c : Nat) (hx : a.eval x = .slice (some ad) 1 c) (hnews : ∀ j u, vs[j]? = some u → w.cell? (ad.add j) = some u) (hlen : l.length + 1 ≤ 1073741824)
    (h : ∀ a' c' w', Acc B w'.heap.size e w' (.slice a' (l.length + 1) c') (l ++ [y]) → Below B w w' → (∀ k, H ≤ k → k < w.heap.size → w'.heap[k]? = w.heap[k]?) → K (a.put o.dst (.slice a' (l.length + 1) c')) w') :
    if Region.wanted o (yielded ops a.tmps) = true then Oper.wp P o a w K Q else EE := by
  have hw : Region.wanted o (yielded ops a.tmps) = true := by simp [Region.wanted, hgd]
  rw [if_pos hw]
  exact wp_append_acc w s x t ho E hs hacc hy hBH hH ad c hx hnews hlen h

/-! ### make([]T, n) -/
theorem run_make_rep {P : Program} (w : World) (t e : TypeId) {α : Type} [Rep α] {z : Value} {bytes : Nat} (E : ElemT P t e α z bytes) (x0 : α) (h0 : ∀ w : World, Own [] w z.cells.toList x0) (n : Nat) (hn : n ≤ 1073741824) :
    ∃ w', (Instr.makeSlice t (.int .i64 (n : Int)) (.int .i64 (n : Int))).run P w = .ok (.slice (some ⟨w.heap.size, 0, none⟩) n n) w' ∧
      OwnSl [w.heap.size] w' (.slice (some ⟨w.heap.size, 0, none⟩) n n) (List.replicate n x0) ∧ Below w.heap.size w w' ∧ w'.heap.size = w.heap.size + 1 := by
  obtain ⟨i, hi, hz, hs, hb⟩ := E.info
  have hbytes : (i.bytes : Int) * (n : Int) ≤ 281474976710656 := by
    have h1 := E.small
    rw [hb]
    have : bytes * n ≤ 1000 * 1073741824 := Nat.mul_le_mul h1 hn
    have h2 : ((bytes * n : Nat) : Int) ≤ ((1000 * 1073741824 : Nat) : Int) := by exact_mod_cast this
    rw [Int.natCast_mul] at h2
    omega
  have hr := run_make (P := P) w t e i z E.und hi hz .i64 .i64 (n : Int) (n : Int) (by omega) (by omega) hbytes (by omega)
  simp only [Int.toNat_natCast] at hr
  refine ⟨_, hr, ?_, (Below.refl _ _).alloc (Nat.le_refl _) _, by simp⟩
  refine .inr ⟨w.heap.size, 0, n, _, e, List.replicate n [], by simp, by simp, by unfold maxLen; omega, heap_alloc_new w _, by simp, by simp, fun j hj => ?_⟩
  simp only [List.length_replicate] at hj
  refine ⟨[], z.cells.toList, by simp [hj], by simpa using h0 _, fun k hk => ?_⟩
  have hzs := E.zs
  simp only [Array.length_toList] at hk
  have hk' : k < sz α := by omega
  rw [hs]
  have hlt : j * sz α + k < n * sz α := by
    have : (j + 1) * sz α ≤ n * sz α := Nat.mul_le_mul_right _ hj
    rw [Nat.add_mul] at this
    omega
  have hmod : (j * sz α + k) % z.cells.size = k := by rw [hzs, Nat.add_comm, Nat.add_mul_mod_self_right]; exact Nat.mod_eq_of_lt hk'
  simp [madeCells, hlt, hmod, hk]

theorem wpList_make_rep {P : Program} (w : World) {ops : Array Oper} {rest : List Oper} {o : Oper} {a : Act} {Q : Exit → Act → World → Prop} (hgd : o.guard = none) (l c : Operand) (t : TypeId) (hop : o.op = Op.makeSlice t l c)
    {e : TypeId} {α : Type} [Rep α] {z : Value} {bytes : Nat} (E : ElemT P t e α z bytes) (x0 : α) (h0 : ∀ w : World, Own [] w z.cells.toList x0) (n : Nat) (hn : n ≤ 1073741824)
    (hl : a.eval l = .int .i64 (n : Int)) (hc : a.eval c = .int .i64 (n : Int))
    (h : ∀ w', OwnSl [w.heap.size] w' (.slice (some ⟨w.heap.size, 0, none⟩) n n) (List.replicate n x0) → Below w.heap.size w w' → w'.heap.size = w.heap.size + 1 → wpList P ops Q rest (a.put o.dst (.slice (some ⟨w.heap.size, 0, none⟩) n n)) w') :
    wpList P ops Q (o :: rest) a w := by
  refine wpList_plain hgd fun K hK' => ?_
  obtain ⟨w', hrun, r1, r2, r3⟩ := run_make_rep (P := P) w t e E x0 h0 n hn
  unfold Oper.wp
  simp [execOp, hop, hl, hc, hrun, Result.andThen]
  exact hK' _ _ (h w' r1 r2 r3)

theorem Fresh.setCell {α : Type} [Rep α] {lo : Nat} {w : World} {vs : List Value} {x : α} (h : Fresh lo w vs x) {a : Addr} (ha : a.block < lo) (u : Value) : Fresh lo (w.setCell a u) vs x := by
  obtain ⟨ps, h1, h2, h3⟩ := h
  exact ⟨ps, Rep.own_frame (fun k hk => Below.heap_setCell _ _ _ _ (by have := h3 k hk; omega)) h1, h2, h3⟩
theorem Fresh.frame {α : Type} [Rep α] {lo : Nat} {w w' : World} {vs : List Value} {x : α} (h : Fresh lo w vs x) (hb : ∀ k, lo ≤ k → k < w.heap.size → w'.heap[k]? = w.heap[k]?) : Fresh lo w' vs x := by
  obtain ⟨ps, h1, h2, h3⟩ := h
  exact ⟨ps, Rep.own_frame (fun k hk => hb k (h3 k hk) (Rep.own_lt h1 k hk)) h1, h2, h3⟩

/-! ### The state of a call: its own boxes -/
/-- wr has come of w by the call's own doing; below B lie its boxes, which hold what is said. -/
structure St (w : World) (B : Nat) (wr : World) (bx : List (Nat × Array Value × TypeId)) : Prop where
  bel : Below w.heap.size w wr
  lo : w.heap.size ≤ B
  hi : B ≤ wr.heap.size
  box : ∀ x, x ∈ bx → w.heap.size ≤ x.1 ∧ x.1 < B ∧ wr.heap[x.1]? = some (.cells x.2.1 x.2.2 (0, 0))
theorem St.start (w : World) : St w w.heap.size w [] := ⟨Below.refl _ _, Nat.le_refl _, Nat.le_refl _, by simp⟩
/-- One box more. -/
theorem St.alloc {w : World} {B : Nat} {wr : World} {bx : List (Nat × Array Value × TypeId)} (h : St w B wr bx) (cs : Array Value) (t : TypeId) {n : Nat} (hn : n = wr.heap.size) :
    St w (n + 1) (wr.alloc (.cells cs t)) (bx ++ [(n, cs, t)]) := by
  subst hn
  refine ⟨h.bel.alloc (Nat.le_trans h.lo h.hi) _, by have := h.lo; have := h.hi; omega, by simp, fun x hx => ?_⟩
  rcases List.mem_append.1 hx with hx | hx
  · have h1 := h.box x hx
    have := h.hi
    exact ⟨h1.1, by omega, by rw [Below.heap_alloc _ _ _ (by omega)]; exact h1.2.2⟩
  · obtain rfl : x = _ := by simpa using hx
    exact ⟨by have := h.lo; have := h.hi; simp; omega, by simp, heap_alloc_at _ _ rfl⟩
/-- What only adds. -/
theorem St.step {w : World} {B : Nat} {wr w1 : World} {bx : List (Nat × Array Value × TypeId)} (h : St w B wr bx) (hb : Below wr.heap.size wr w1) : St w B w1 bx :=
  ⟨h.bel.trans (hb.mono (Nat.le_trans h.lo h.hi)), h.lo, Nat.le_trans h.hi hb.size, fun x hx => by
    have h1 := h.box x hx
    exact ⟨h1.1, h1.2.1, by rw [hb.block _ (Nat.lt_of_lt_of_le h1.2.1 h.hi)]; exact h1.2.2⟩⟩
/-- What turns nothing below B. -/
theorem St.stepB {w : World} {B : Nat} {wr w1 : World} {bx : List (Nat × Array Value × TypeId)} (h : St w B wr bx) (hb : Below B wr w1) : St w B w1 bx :=
  ⟨h.bel.trans (hb.mono h.lo), h.lo, Nat.le_trans h.hi hb.size, fun x hx => by
    have h1 := h.box x hx
    exact ⟨h1.1, h1.2.1, by rw [hb.block _ h1.2.1]; exact h1.2.2⟩⟩
theorem St.drewN {w : World} {B : Nat} {wr : World} {bx : List (Nat × Array Value × TypeId)} (h : St w B wr bx) (n : Nat) : St w B (wr.drewN n) bx := h.step ⟨rfl, rfl, rfl, Nat.le_refl _, fun _ _ => rfl⟩
theorem St.drew {w : World} {B : Nat} {wr : World} {bx : List (Nat × Array Value × TypeId)} (h : St w B wr bx) : St w B wr.drew bx := h.step (Below.refl _ _).drew
/-- The boundary may be put higher. -/
theorem St.up {w : World} {B : Nat} {wr : World} {bx : List (Nat × Array Value × TypeId)} (h : St w B wr bx) {B' : Nat} (h1 : B ≤ B') (h2 : B' ≤ wr.heap.size) : St w B' wr bx :=
  ⟨h.bel, Nat.le_trans h.lo h1, h2, fun x hx => ⟨(h.box x hx).1, Nat.lt_of_lt_of_le (h.box x hx).2.1 h1, (h.box x hx).2.2⟩⟩
theorem St.sub {w : World} {B : Nat} {wr : World} {bx bx' : List (Nat × Array Value × TypeId)} (h : St w B wr bx) (hs : ∀ x, x ∈ bx' → x ∈ bx) : St w B wr bx' :=
  ⟨h.bel, h.lo, h.hi, fun x hx => h.box x (hs x hx)⟩
theorem St.cell {w : World} {B : Nat} {wr : World} {bx : List (Nat × Array Value × TypeId)} (h : St w B wr bx) (g : Nat) (cs : Array Value) (t : TypeId) (hm : (g, cs, t) ∈ bx) (o : Nat) : wr.cell? ⟨g, o, none⟩ = cs[o]? := cell_at_block (h.box _ hm).2.2
theorem St.free {w : World} {B : Nat} {wr : World} {bx : List (Nat × Array Value × TypeId)} (h : St w B wr bx) (g : Nat) (cs : Array Value) (t : TypeId) (hm : (g, cs, t) ∈ bx) (o : Nat) : wr.frozen? ⟨g, o, none⟩ = false := free_at_block (h.box _ hm).2.2
/-- Cell o of box number i. -/
theorem St.cellAt {w : World} {B : Nat} {wr : World} {bx : List (Nat × Array Value × TypeId)} (h : St w B wr bx) (i : Nat) {g : Nat} {cs : Array Value} {t : TypeId} (hi : bx[i]? = some (g, cs, t)) (o : Nat) {v : Value} (hv : cs[o]? = some v) : wr.cell? ⟨g, o, none⟩ = some v :=
  (h.cell g cs t (List.mem_of_getElem? hi) o).trans hv
theorem St.freeAt {w : World} {B : Nat} {wr : World} {bx : List (Nat × Array Value × TypeId)} (h : St w B wr bx) (i : Nat) {g : Nat} {cs : Array Value} {t : TypeId} (hi : bx[i]? = some (g, cs, t)) (o : Nat) : wr.frozen? ⟨g, o, none⟩ = false :=
  h.free g cs t (List.mem_of_getElem? hi) o
/-- A store into the box in the middle of the list. -/
theorem St.set {w : World} {B : Nat} {wr : World} {p q : List (Nat × Array Value × TypeId)} {g : Nat} {cs : Array Value} {t : TypeId} (h : St w B wr (p ++ (g, cs, t) :: q)) (hd : ∀ x, x ∈ p ++ q → x.1 ≠ g) (o : Nat) (u : Value) :
    St w B (wr.setCell ⟨g, o, none⟩ u) (p ++ (g, cs.setIfInBounds o u, t) :: q) := by
  have hg := h.box (g, cs, t) (by simp)
  refine ⟨h.bel.setCell hg.1 _, h.lo, by simpa [World.setCell] using h.hi, fun x hx => ?_⟩
  by_cases hx' : x = (g, cs.setIfInBounds o u, t)
  · subst hx'
    exact ⟨hg.1, hg.2.1, heap_setCell_at _ _ _ _ _ _ _ hg.2.2⟩
  · have hm : x ∈ p ++ q := by
      rcases List.mem_append.1 hx with hx | hx
      · exact List.mem_append.2 (.inl hx)
      · rcases List.mem_cons.1 hx with hx | hx
        · exact absurd hx hx'
        · exact List.mem_append.2 (.inr hx)
    have h1 := h.box x (by rcases List.mem_append.1 hm with hm | hm <;> simp [hm])
    exact ⟨h1.1, h1.2.1, by rw [Below.heap_setCell _ _ _ _ (hd x hm)]; exact h1.2.2⟩
/-- The result is laid into the call's box g, two cells. -/
theorem St.fin2 {α : Type} [Rep α] {w : World} {B lo : Nat} {w1 : World} {bx : List (Nat × Array Value × TypeId)} (h : St w B w1 bx) {g : Nat} (hg : w.heap.size ≤ g) (hgB : g < B) (hB : B ≤ lo) {vs : List Value} {x : α} (fr : Fresh lo w1 vs x) (o0 o1 : Nat) (u0 u1 : Value) :
    Fresh w.heap.size ((w1.setCell ⟨g, o0, none⟩ u0).setCell ⟨g, o1, none⟩ u1) vs x ∧ Below w.heap.size w ((w1.setCell ⟨g, o0, none⟩ u0).setCell ⟨g, o1, none⟩ u1) :=
  ⟨((fr.setCell (a := ⟨g, o0, none⟩) (Nat.lt_of_lt_of_le hgB hB) u0).setCell (a := ⟨g, o1, none⟩) (Nat.lt_of_lt_of_le hgB hB) u1).lower (Nat.le_trans h.lo hB), (h.bel.setCell hg _).setCell hg _⟩
theorem St.fin3 {α : Type} [Rep α] {w : World} {B lo : Nat} {w1 : World} {bx : List (Nat × Array Value × TypeId)} (h : St w B w1 bx) {g : Nat} (hg : w.heap.size ≤ g) (hgB : g < B) (hB : B ≤ lo) {vs : List Value} {x : α} (fr : Fresh lo w1 vs x) (o0 o1 o2 : Nat) (u0 u1 u2 : Value) :
    Fresh w.heap.size (((w1.setCell ⟨g, o0, none⟩ u0).setCell ⟨g, o1, none⟩ u1).setCell ⟨g, o2, none⟩ u2) vs x ∧ Below w.heap.size w (((w1.setCell ⟨g, o0, none⟩ u0).setCell ⟨g, o1, none⟩ u1).setCell ⟨g, o2, none⟩ u2) :=
  ⟨(((fr.setCell (a := ⟨g, o0, none⟩) (Nat.lt_of_lt_of_le hgB hB) u0).setCell (a := ⟨g, o1, none⟩) (Nat.lt_of_lt_of_le hgB hB) u1).setCell (a := ⟨g, o2, none⟩) (Nat.lt_of_lt_of_le hgB hB) u2).lower (Nat.le_trans h.lo hB), ((h.bel.setCell hg _).setCell hg _).setCell hg _⟩
theorem Fresh.block {α : Type} [Rep α] {lo : Nat} {w : World} {b o n c : Nat} {l : List α} (h : Fresh lo w [.slice (some ⟨b, o, none⟩) n c] l) (hl : l ≠ []) : lo ≤ b ∧ b < w.heap.size := by
  obtain ⟨ps, ⟨v, e, h1⟩, h2, h3⟩ := h
  obtain rfl : .slice (some ⟨b, o, none⟩) n c = v := by simpa using e
  rcases h1 with ⟨rfl, _⟩ | ⟨g, o', c', cur, e', pss, hv, _, _, hh, rfl, _⟩
  · exact absurd rfl hl
  · simp only [Value.slice.injEq, Option.some.injEq, Addr.mk.injEq] at hv
    obtain ⟨⟨rfl, _⟩, _⟩ := hv
    exact ⟨h3 _ (by simp), (Array.getElem?_eq_some_iff.1 hh).1⟩
theorem cellK {w w' : World} {b o : Nat} {v : Value} (h : w.cell? ⟨b, o, none⟩ = some v) (hk : w'.heap[b]? = w.heap[b]?) : w'.cell? ⟨b, o, none⟩ = some v := by rw [← h]; exact World.cell?_of_block (a := ⟨b, o, none⟩) hk
theorem fresh_nil_list {α : Type} [Rep α] {H : Nat} {w : World} : Fresh H w [.slice none 0 0] ([] : List α) := ⟨[], ⟨_, rfl, .inl ⟨rfl, rfl, none, 0, rfl, Nat.zero_le _⟩⟩, by simp, by simp⟩
theorem St.acc {α : Type} [Rep α] {w : World} {B H : Nat} {wr w1 : World} {bx : List (Nat × Array Value × TypeId)} {e : TypeId} {v : Value} {l : List α} (_ : St w B wr bx) (h : Acc B H e wr v l) (hb : Below wr.heap.size wr w1) : Acc B H e w1 v l := h.mono hb

/-- What stood there is as it was, but for the blocks ps. -/
structure But (ps : List Nat) (w w' : World) : Prop where
  os : w'.os = w.os
  tape : w'.tape = w.tape
  output : w'.output = w.output
  size : w.heap.size ≤ w'.heap.size
  block : ∀ k, k < w.heap.size → k ∉ ps → w'.heap[k]? = w.heap[k]?
theorem But.refl (ps : List Nat) (w : World) : But ps w w := ⟨rfl, rfl, rfl, Nat.le_refl _, fun _ _ _ => rfl⟩
theorem But.trans {ps : List Nat} {a b c : World} (h : But ps a b) (k : But ps b c) : But ps a c :=
  ⟨k.os.trans h.os, k.tape.trans h.tape, k.output.trans h.output, Nat.le_trans h.size k.size, fun i hi hp => (k.block i (Nat.lt_of_lt_of_le hi h.size) hp).trans (h.block i hi hp)⟩
theorem OnlyAt.but {ps : List Nat} {a b : World} (h : OnlyAt ps a b) : But ps a b := ⟨h.os, h.tape, h.output, by rw [h.size]; exact Nat.le_refl _, fun k _ hp => h.block k hp⟩
theorem but_of {ps : List Nat} {a b : World} (h : Below a.heap.size a b) : But ps a b := ⟨h.os, h.tape, h.output, h.size, fun k hk _ => h.block k hk⟩
theorem But.mono {ps qs : List Nat} {a b : World} (h : But ps a b) (hs : ∀ k, k ∈ ps → k ∈ qs) : But qs a b := ⟨h.os, h.tape, h.output, h.size, fun i hi hp => h.block i hi (fun hk => hp (hs i hk))⟩
theorem But.below {ps : List Nat} {B : Nat} {a b : World} (h : But ps a b) (hp : ∀ k, k ∈ ps → B ≤ k) (hB : B ≤ a.heap.size) : Below B a b :=
  ⟨h.os, h.tape, h.output, h.size, fun k hk => h.block k (by omega) (fun hm => by have := hp k hm; omega)⟩
theorem Own.but {α : Type} [Rep α] {ps qs : List Nat} {w w' : World} {vs : List Value} {x : α} (h : Own ps w vs x) (hb : But qs w w') (hd : ∀ k, k ∈ ps → k ∉ qs) : Own ps w' vs x :=
  Rep.own_frame (fun k hk => hb.block k (Rep.own_lt h k hk) (hd k hk)) h
theorem St.but {w : World} {B : Nat} {wr w1 : World} {bx : List (Nat × Array Value × TypeId)} (h : St w B wr bx) {ps : List Nat} (hb : But ps wr w1) (hp : ∀ k, k ∈ ps → B ≤ k) : St w B w1 bx := h.stepB (hb.below hp h.hi)

/-- Owned, in blocks of [lo, hi), none twice. -/
def Iv {α : Type} [Rep α] (lo hi : Nat) (w : World) (vs : List Value) (x : α) : Prop := ∃ ps, Own ps w vs x ∧ ps.Nodup ∧ ∀ k, k ∈ ps → lo ≤ k ∧ k < hi
theorem Fresh.iv {α : Type} [Rep α] {lo : Nat} {w : World} {vs : List Value} {x : α} (h : Fresh lo w vs x) : Iv lo w.heap.size w vs x := by
  obtain ⟨ps, h1, h2, h3⟩ := h
  exact ⟨ps, h1, h2, fun k hk => ⟨h3 k hk, Rep.own_lt h1 k hk⟩⟩
theorem Iv.mono {α : Type} [Rep α] {lo hi : Nat} {w w' : World} {vs : List Value} {x : α} (h : Iv lo hi w vs x) (hb : Below w.heap.size w w') : Iv lo hi w' vs x := by
  obtain ⟨ps, h1, h2, h3⟩ := h
  exact ⟨ps, Own.mono h1 hb, h2, h3⟩
theorem Iv.but {α : Type} [Rep α] {lo hi : Nat} {w w' : World} {vs : List Value} {x : α} (h : Iv lo hi w vs x) {ps : List Nat} (hb : But ps w w') (hd : ∀ k, k ∈ ps → ¬ (lo ≤ k ∧ k < hi)) : Iv lo hi w' vs x := by
  obtain ⟨qs, h1, h2, h3⟩ := h
  exact ⟨qs, Own.but h1 hb (fun k hk hp => hd k hp (h3 k hk)), h2, h3⟩
theorem Iv.rd {α : Type} [Rep α] {lo hi : Nat} {w : World} {vs : List Value} {x : α} (h : Iv lo hi w vs x) : Rd w vs x := by
  obtain ⟨ps, h1, _⟩ := h; exact Rep.own_rd h1
/-- A writing call: the boxes stay. -/
theorem St.butIv {w : World} {B : Nat} {wr w1 : World} {bx : List (Nat × Array Value × TypeId)} (h : St w B wr bx) {ps : List Nat} (hb : But ps wr w1) (hp : ∀ k, k ∈ ps → w.heap.size ≤ k) (hx : ∀ x, x ∈ bx → x.1 ∉ ps) : St w B w1 bx :=
  ⟨h.bel.trans (hb.below hp (Nat.le_trans h.lo h.hi)), h.lo, Nat.le_trans h.hi hb.size, fun x hm => by
    have h1 := h.box x hm
    exact ⟨h1.1, h1.2.1, by rw [hb.block _ (Nat.lt_of_lt_of_le h1.2.1 h.hi) (hx x hm)]; exact h1.2.2⟩⟩

end Go.Proofs.Ytkbeihkjhmillaa
