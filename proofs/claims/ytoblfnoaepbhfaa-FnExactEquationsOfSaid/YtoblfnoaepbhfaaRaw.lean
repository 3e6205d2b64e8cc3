/-
  PLAIN: a slice that grows by append, its cells known one by one; what it owns is said at the end.
-/
import Derived.Test.YtoblfnoaepbhfaaIp
namespace Go.Proofs.Ytoblfnoaepbhfaa
open Go.RowKit
open Rep (Rd Own sz)
set_option linter.unusedSimpArgs false
set_option linter.unusedVariables false

theorem wp_append_row {P : Program} (w : World) {o : Oper} {a : Act} {K : Act → World → Prop} {Q : Exit → Act → World → Prop} (s x : Operand) (t : TypeId)
    (ho : o.op = .call { callee := .builtin .append, args := #[s, x], argTypes := #[t, t] }) {e : TypeId} {α : Type} [Rep α] {z : Value} {bytes : Nat} (E : ElemT P t e α z bytes) {v : Value} {n : Nat} {xs : List Value}
    (hs : a.eval s = v) (hrow : w.ownsRow 0 e (sz α) v n xs) {vs : List Value} (hvs : vs.length = sz α) (hone : ∀ u, u ∈ vs → u.oneCell' = true)
    (ad : Addr) (c : Nat) (hx : a.eval x = .slice (some ad) 1 c) (hnews : ∀ j u, vs[j]? = some u → w.cell? (ad.add j) = some u) (hlen : n + 1 ≤ 1073741824)
    (h : ∀ g' c' w', (v.ownBlock = some g' ∨ g' = w.heap.size) → w'.ownsRow 0 e (sz α) (.slice (some ⟨g', 0, none⟩) (n + 1) c') (n + 1) (xs ++ vs) → But v.ownBlock.toList w w' → g' < w'.heap.size → K (a.put o.dst (.slice (some ⟨g', 0, none⟩) (n + 1) c')) w') : o.wp P a w K Q := by
  obtain ⟨i, hi, hz, hsz, hb⟩ := E.info
  have hbytes : (n + 1) * bytes ≤ 140737488355328 := by
    have h1 := E.small
    calc (n + 1) * bytes ≤ 1073741824 * 1000 := Nat.mul_le_mul hlen h1
      _ ≤ _ := by decide
  have hm : n + 1 ≤ maxLen := by unfold maxLen; omega
  obtain ⟨v', w', hr, hown, hgr, hnil, hat⟩ := run_append_own_at (P := P) w 0 t o.type e i z (sz α) bytes E.und hi hz hsz hb E.zs E.pos v n xs hrow ad 1 c vs (by omega) hnews hone hm hbytes (Nat.zero_le _)
  rcases hown.2 with ⟨rfl, h0⟩ | ⟨g', cap, cur, rfl, hg', hh', hc', hm', hs', ht'⟩
  · omega
  have hgg : v.ownBlock = some g' ∨ g' = w.heap.size := by
    rcases hat with h | h
    · exact .inl (by rw [← h]; rfl)
    · exact .inr (by simpa [Value.ownBlock] using h)
  have hlt : g' < w'.heap.size := (Array.getElem?_eq_some_iff.1 hh').1
  have hbut : But v.ownBlock.toList w w' := ⟨hgr.os, hgr.tape, hgr.output, hgr.size, fun k hk hp => hgr.block k hk (fun e => hp (by rw [← e]; simp))⟩
  unfold Oper.wp execOp
  simp only [ho, resolve, invoke, builtin, Sem.run_bind, Sem.run_pure, Result.andThen_ok, List.map_toArray, List.map_cons, List.map_nil, hs, hx, hr]
  exact h g' cap w' hgg hown hbut hlt
theorem wpList_append_row {P : Program} (w : World) {ops : Array Oper} {rest : List Oper} {o : Oper} {a : Act} {Q : Exit → Act → World → Prop} (hgd : o.guard = none) (s x : Operand) (t : TypeId)
    (ho : o.op = .call { callee := .builtin .append, args := #[s, x], argTypes := #[t, t] }) {e : TypeId} {α : Type} [Rep α] {z : Value} {bytes : Nat} (E : ElemT P t e α z bytes) {v : Value} {n : Nat} {xs : List Value}
    (hs : a.eval s = v) (hrow : w.ownsRow 0 e (sz α) v n xs) {vs : List Value} (hvs : vs.length = sz α) (hone : ∀ u, u ∈ vs → u.oneCell' = true)
    (ad : Addr) (c : Nat) (hx : a.eval x = .slice (some ad) 1 c) (hnews : ∀ j u, vs[j]? = some u → w.cell? (ad.add j) = some u) (hlen : n + 1 ≤ 1073741824)
    (h : ∀ g' c' w', (v.ownBlock = some g' ∨ g' = w.heap.size) → w'.ownsRow 0 e (sz α) (.slice (some ⟨g', 0, none⟩) (n + 1) c') (n + 1) (xs ++ vs) → But v.ownBlock.toList w w' → g' < w'.heap.size → wpList P ops Q rest (a.put o.dst (.slice (some ⟨g', 0, none⟩) (n + 1) c')) w') : wpList P ops Q (o :: rest) a w :=
  wpList_plain hgd fun _ hK => wp_append_row w s x t ho E hs hrow hvs hone ad c hx hnews hlen fun g' c' w' h1 h2 h3 h4 => hK _ _ (h g' c' w' h1 h2 h3 h4)
theorem row_made {size : Nat} (w : World) (e : TypeId) : (w.alloc (.cells #[] e)).ownsRow 0 e size (.slice (some ⟨w.heap.size, 0, none⟩) 0 0) 0 [] := by
  have h := World.ownsRow_made (e := e) (size := size) w #[] 0 (Nat.zero_le _) (Nat.zero_le _) (by simp)
  exact h
theorem row_frame {w w' : World} {e : TypeId} {size : Nat} {v : Value} {n : Nat} {xs : List Value} (h : w.ownsRow 0 e size v n xs) (hb : ∀ g, v.ownBlock = some g → w'.heap[g]? = w.heap[g]?) : w'.ownsRow 0 e size v n xs := by
  refine ⟨h.1, ?_⟩
  rcases h.2 with hn | ⟨g, cap, cur, rfl, hg, hgg, rest⟩
  · exact .inl hn
  · exact .inr ⟨g, cap, cur, rfl, hg, by rw [hb g rfl]; exact hgg, rest⟩
/-- What a row holds, and who owns it. -/
theorem ownSl_of_row {α : Type} [Rep α] {w : World} {e : TypeId} {v : Value} {l : List α} {xs : List Value} {pss : List (List Nat)} (h : w.ownsRow 0 e (sz α) v l.length xs) (hp : pss.length = l.length)
    (hel : ∀ i (hi : i < l.length), ∃ p vs, pss[i]? = some p ∧ Own p w vs l[i] ∧ ∀ k, k < vs.length → xs[i * sz α + k]? = vs[k]?) : OwnSl (v.ownBlock.toList ++ List.flatten pss) w v l := by
  rcases h.2 with ⟨rfl, h0⟩ | ⟨g, cap, cur, rfl, _, hh, hn, hm, hsz, ht⟩
  · have hl : l = [] := List.eq_nil_of_length_eq_zero h0
    subst hl
    have : pss = [] := List.eq_nil_of_length_eq_zero (by simpa using hp)
    subst this
    exact .inl ⟨rfl, rfl, none, 0, rfl, Nat.zero_le _⟩
  · refine .inr ⟨g, 0, cap, cur, e, pss, rfl, hn, hm, hh, by simp [Value.ownBlock], hp, fun i hi => ?_⟩
    obtain ⟨p, vs, h1, h2, h3⟩ := hel i hi
    refine ⟨p, vs, h1, h2, fun k hk => ?_⟩
    rw [← h3 k hk, ← ht]
    have hv := Rep.rd_len (Rep.own_rd h2)
    have hlt : i * sz α + k < l.length * sz α := by
      have : (i + 1) * sz α ≤ l.length * sz α := Nat.mul_le_mul_right _ hi
      rw [Nat.add_mul] at this; omega
    rw [List.getElem?_take_of_lt hlt, Nat.zero_add]
    simp
/-- An element more. -/
theorem row_el_snoc {α : Type} [Rep α] {w : World} {l : List α} {x : α} {xs us : List Value} {pss : List (List Nat)} {q : List Nat} (hxs : xs.length = l.length * sz α) (hp : pss.length = l.length)
    (hel : ∀ i (hi : i < l.length), ∃ p vs, pss[i]? = some p ∧ Own p w vs l[i] ∧ ∀ k, k < vs.length → xs[i * sz α + k]? = vs[k]?) (hx : Own q w us x) :
    ∀ i (hi : i < (l ++ [x]).length), ∃ p vs, (pss ++ [q])[i]? = some p ∧ Own p w vs (l ++ [x])[i] ∧ ∀ k, k < vs.length → (xs ++ us)[i * sz α + k]? = vs[k]? := by
  intro i hi
  by_cases h : i < l.length
  · obtain ⟨p, vs, h1, h2, h3⟩ := hel i h
    refine ⟨p, vs, by rw [List.getElem?_append_left (by omega)]; exact h1, by rw [List.getElem_append_left h]; exact h2, fun k hk => ?_⟩
    have hv := Rep.rd_len (Rep.own_rd h2)
    have hlt : i * sz α + k < l.length * sz α := by
      have : (i + 1) * sz α ≤ l.length * sz α := Nat.mul_le_mul_right _ h
      rw [Nat.add_mul] at this; omega
    rw [List.getElem?_append_left (by omega)]
    exact h3 k hk
  · have hi' : i = l.length := by simp at hi; omega
    subst hi'
    refine ⟨q, us, by rw [List.getElem?_append_right (by omega), hp]; simp, by simpa using hx, fun k hk => ?_⟩
    rw [List.getElem?_append_right (by omega), hxs]
    congr 1
    omega
theorem ownSl_but {α : Type} [Rep α] {ps qs : List Nat} {w w' : World} {v : Value} {l : List α} (h : OwnSl ps w v l) (hb : But qs w w') (hd : ∀ k, k ∈ ps → k ∉ qs) : OwnSl ps w' v l := by
  have h2 := Own.but (vs := [v]) (x := l) ⟨v, rfl, h⟩ hb hd
  exact own_list h2
theorem one_slice_int (a : Option Addr) (n c : Nat) (i : Int) : ∀ u, u ∈ [Value.slice a n c, .int .i64 i] → u.oneCell' = true := by
  intro u hu
  simp only [List.mem_cons, List.not_mem_nil, or_false] at hu
  rcases hu with rfl | rfl <;> rfl
theorem news2 {w : World} {b : Nat} {v0 v1 : Value} (h0 : w.cell? ⟨b, 0, none⟩ = some v0) (h1 : w.cell? ⟨b, 1, none⟩ = some v1) : ∀ j u, [v0, v1][j]? = some u → w.cell? ((⟨b, 0, none⟩ : Addr).add j) = some u := by
  intro j u hj
  match j with
  | 0 => simp at hj; subst hj; exact h0
  | 1 => simp at hj; subst hj; exact h1
  | j + 2 => simp at hj
theorem row_base {w : World} {B : Nat} {e : TypeId} {size : Nat} {v : Value} {n : Nat} {xs : List Value} (h : w.ownsRow B e size v n xs) : w.ownsRow 0 e size v n xs := by
  refine ⟨h.1, ?_⟩
  rcases h.2 with hn | ⟨g, cap, cur, rfl, hg, rest⟩
  · exact .inl hn
  · exact .inr ⟨g, cap, cur, rfl, Nat.zero_le _, rest⟩
/-- A row of ints is owned. -/
theorem ownSl_ints {w : World} {g n c : Nat} {e : TypeId} {l : List Int} (h : w.ownsRow 0 e 1 (.slice (some ⟨g, 0, none⟩) n c) n (ivals l)) (hn : n = l.length) (hI : ∀ a, a ∈ l → I64 a) : OwnSl [g] w (.slice (some ⟨g, 0, none⟩) n c) l := by
  subst hn
  have := ownSl_of_row (α := Int) (l := l) (pss := List.replicate l.length []) h (by simp) (fun i hi => by
    refine ⟨[], [.int .i64 l[i]], by simp [hi], ⟨rfl, rfl, hI _ (List.getElem_mem hi)⟩, fun k hk => ?_⟩
    obtain rfl : k = 0 := by simpa using hk
    simp [ivals, hi])
  simpa [Value.ownBlock, flat_nil] using this
theorem news1 {w : World} {b : Nat} {v0 : Value} (h0 : w.cell? ⟨b, 0, none⟩ = some v0) : ∀ j u, [v0][j]? = some u → w.cell? ((⟨b, 0, none⟩ : Addr).add j) = some u := by
  intro j u hj
  match j with
  | 0 => simp at hj; subst hj; exact h0
  | j + 1 => simp at hj
theorem one_int (i : Int) : ∀ u, u ∈ [Value.int .i64 i] → u.oneCell' = true := by
  intro u hu
  simp only [List.mem_cons, List.not_mem_nil, or_false] at hu
  subst hu; rfl
/-- An empty row and a box are made. -/
theorem row_box {w wB : World} {B : Nat} {bx : List (Nat × Array Value × TypeId)} (hst : St w B wB bx) (e t : TypeId) (size : Nat) (cs : Array Value) :
    St w (wB.heap.size + 1 + 1) ((wB.alloc (.cells #[] e)).alloc (.cells cs t)).drew (bx ++ [(wB.heap.size + 1, cs, t)]) ∧ (((wB.alloc (.cells #[] e)).alloc (.cells cs t)).drew).ownsRow 0 e size (.slice (some ⟨wB.heap.size, 0, none⟩) 0 0) 0 [] ∧ Below wB.heap.size wB ((wB.alloc (.cells #[] e)).alloc (.cells cs t)).drew := by
  have h1 := hst.step (belowA wB (.cells #[] e))
  have h2 := (h1.alloc cs t (n := wB.heap.size + 1) (by simp)).drew
  refine ⟨h2, ?_, ?_⟩
  · exact ownsRow_below (ownsRow_below (row_made (size := size) wB e) (belowA _ (.cells cs t))) (belowD _)
  · exact ((belowA wB (.cells #[] e)).trans ((belowA (wB.alloc (.cells #[] e)) (.cells cs t)).mono (by simp))).trans ((belowD _).mono (by simp; omega))
theorem box_row {w wB : World} {B : Nat} {bx : List (Nat × Array Value × TypeId)} (hst : St w B wB bx) (e t : TypeId) (size : Nat) (cs : Array Value) :
    St w (wB.heap.size + 1 + 1) ((wB.alloc (.cells cs t)).alloc (.cells #[] e)).drew (bx ++ [(wB.heap.size, cs, t)]) ∧ (((wB.alloc (.cells cs t)).alloc (.cells #[] e)).drew).ownsRow 0 e size (.slice (some ⟨wB.heap.size + 1, 0, none⟩) 0 0) 0 [] ∧ Below wB.heap.size wB ((wB.alloc (.cells cs t)).alloc (.cells #[] e)).drew := by
  have h1 := hst.alloc cs t (n := wB.heap.size) rfl
  have h2 := ((h1.step (belowA _ (.cells #[] e))).drew).up (B' := wB.heap.size + 1 + 1) (by omega) (by simp)
  refine ⟨h2, ?_, ?_⟩
  · have h3 := row_made (size := size) (wB.alloc (.cells cs t)) e
    rw [show (wB.alloc (.cells cs t)).heap.size = wB.heap.size + 1 by simp] at h3
    exact ownsRow_below h3 (belowD _)
  · exact ((belowA wB (.cells cs t)).trans ((belowA (wB.alloc (.cells cs t)) (.cells #[] e)).mono (by simp))).trans ((belowD _).mono (by simp; omega))

end Go.Proofs.Ytoblfnoaepbhfaa
