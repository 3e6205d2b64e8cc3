/-
  PLAIN: numbers are appended, many at once.
-/
import Derived.Test.YtkbeihkjhmillaaPut
namespace Go.Proofs.Ytkbeihkjhmillaa
open Go.RowKit
open Rep (Rd Own sz)
set_option linter.unusedSimpArgs false
set_option linter.unusedVariables false

def ivals (l : List Int) : List Value := l.map (Value.int .i64)
theorem flat_nil (n : Nat) : List.flatten (List.replicate n ([] : List Nat)) = [] := by induction n with
  | zero => rfl
  | succ n ih => simp [List.replicate_succ, ih]
theorem acc_ints_mk {B H : Nat} {e : TypeId} {w : World} {v : Value} {l : List Int} (h : w.ownsRow B e 1 v l.length (ivals l)) (hb : ∀ g, v.ownBlock = some g → B ≤ g ∧ g < H) (hi : ∀ a, a ∈ l → I64 a) : Acc B H e w v l := by
  refine ⟨ivals l, List.replicate l.length [], h, by simp, ?_, ?_, fun i hil => ⟨[], [.int .i64 l[i]], by simp [hil], ⟨rfl, rfl, hi _ (List.getElem_mem hil)⟩, fun k hk => ?_⟩⟩
  · rw [flat_nil, List.append_nil]; cases v.ownBlock <;> simp
  · rw [flat_nil, List.append_nil]; intro k hk; exact hb k (by simpa using hk)
  · obtain rfl : k = 0 := by simpa using hk
    show (ivals l)[i * 1 + 0]? = _
    simp [ivals, hil]
theorem acc_ints_get {B H : Nat} {e : TypeId} {w : World} {v : Value} {l : List Int} (h : Acc B H e w v l) : w.ownsRow B e 1 v l.length (ivals l) ∧ (∀ g, v.ownBlock = some g → B ≤ g ∧ g < H) ∧ ∀ a, a ∈ l → I64 a := by
  obtain ⟨xs, pss, h1, h2, h3, h4, h5⟩ := h
  have hx : xs = ivals l := by
    apply List.ext_getElem?
    intro i
    by_cases hi : i < l.length
    · obtain ⟨p, vs, _, hO, hc⟩ := h5 i hi
      obtain ⟨_, rfl, _⟩ := hO
      have := hc 0 (by simp)
      rw [show i * sz Int + 0 = i from Nat.mul_one i] at this
      rw [this]; simp [ivals, hi]
    · have e1 : xs.length = l.length * 1 := h1.1
      rw [List.getElem?_eq_none (by omega), List.getElem?_eq_none (by simp [ivals]; omega)]
  subst hx
  refine ⟨h1, fun g hg => h4 g (by simp [hg]), fun a ha => ?_⟩
  obtain ⟨i, hi, rfl⟩ := List.getElem_of_mem ha
  obtain ⟨p, vs, _, hO, _⟩ := h5 i hi
  exact hO.2.2
theorem run_append_ints {P : Program} (w : World) (t ty e : TypeId) {z : Value} {bytes : Nat} (E : ElemT P t e Int z bytes) {B H : Nat} {v : Value} {l ns : List Int} (hacc : Acc B H e w v l) (hBH : B ≤ H) (hH : H ≤ w.heap.size)
    (ad : Addr) (c : Nat) (hnews : ∀ j u, (ivals ns)[j]? = some u → w.cell? (ad.add j) = some u) (hI : ∀ a, a ∈ ns → I64 a) (hlen : l.length + ns.length ≤ 1073741824) :
    ∃ v' w', (Builtin.append_ #[t, t] ty #[v, .slice (some ad) ns.length c]).run P w = .ok v' w' ∧ Acc B w'.heap.size e w' v' (l ++ ns) ∧ Below B w w' ∧ (∀ k, H ≤ k → k < w.heap.size → w'.heap[k]? = w.heap[k]?) := by
  obtain ⟨i, hi, hz, hs, hb⟩ := E.info
  obtain ⟨h1, h4, hIl⟩ := acc_ints_get hacc
  have hbytes : (l.length + ns.length) * bytes ≤ 140737488355328 := by
    have h1 := E.small
    calc (l.length + ns.length) * bytes ≤ 1073741824 * 1000 := Nat.mul_le_mul hlen h1
      _ ≤ _ := by decide
  have hm : l.length + ns.length ≤ maxLen := by unfold maxLen; omega
  obtain ⟨v', w', hr, ho, hg, _, hat⟩ := run_append_own_at (P := P) w B t ty e i z (sz Int) bytes E.und hi hz hs hb E.zs E.pos v l.length (ivals l) h1 ad ns.length c (ivals ns) (by simp [ivals]) hnews (by intro u hu; simp [ivals] at hu; obtain ⟨a, _, rfl⟩ := hu; rfl) hm hbytes (by omega)
  refine ⟨v', w', hr, acc_ints_mk (by simpa [ivals] using ho) (fun g hgv => ?_) (fun a ha => ?_), grownBy_below hg (by omega) (fun k hk => (h4 k hk).1), fun k hk hkw => hg.block k hkw (fun e => by have := (h4 k e.symm).2; omega)⟩
  · exact ho.lt g hgv
  · rcases List.mem_append.1 ha with ha | ha
    · exact hIl a ha
    · exact hI a ha

theorem wp_append_ints {P : Program} (w : World) {o : Oper} {a : Act} {K : Act → World → Prop} {Q : Exit → Act → World → Prop} (s x : Operand) (t : TypeId)
    (ho : o.op = .call { callee := .builtin .append, args := #[s, x], argTypes := #[t, t] }) {e : TypeId} {z : Value} {bytes : Nat} (E : ElemT P t e Int z bytes) {B H : Nat} {v : Value} {l ns : List Int}
    (hs : a.eval s = v) (hacc : Acc B H e w v l) (hBH : B ≤ H) (hH : H ≤ w.heap.size) (ad : Addr) (c : Nat) (hx : a.eval x = .slice (some ad) ns.length c) (hnews : ∀ j u, (ivals ns)[j]? = some u → w.cell? (ad.add j) = some u) (hI : ∀ a, a ∈ ns → I64 a) (hlen : l.length + ns.length ≤ 1073741824)
    (h : ∀ a' c' w', Acc B w'.heap.size e w' (.slice a' (l.length + ns.length) c') (l ++ ns) → Below B w w' → (∀ k, H ≤ k → k < w.heap.size → w'.heap[k]? = w.heap[k]?) → K (a.put o.dst (.slice a' (l.length + ns.length) c')) w') : o.wp P a w K Q := by
  obtain ⟨v', w', hr, h2, h3, h4⟩ := run_append_ints (P := P) w t o.type e E hacc hBH hH ad c hnews hI hlen
  obtain ⟨a', c', rfl, _⟩ := h2.len
  simp only [List.length_append] at h2 hr
  unfold Oper.wp execOp
  simp only [ho, resolve, invoke, builtin, Sem.run_bind, Sem.run_pure, Result.andThen_ok, List.map_toArray, List.map_cons, List.map_nil, hs, hx, hr]
  exact h a' c' w' h2 h3 h4
theorem wpList_append_ints {P : Program} (w : World) {ops : Array Oper} {rest : List Oper} {o : Oper} {a : Act} {Q : Exit → Act → World → Prop} (hgd : o.guard = none) (s x : Operand) (t : TypeId)
    (ho : o.op = .call { callee := .builtin .append, args := #[s, x], argTypes := #[t, t] }) {e : TypeId} {z : Value} {bytes : Nat} (E : ElemT P t e Int z bytes) {B H : Nat} {v : Value} {l ns : List Int}
    (hs : a.eval s = v) (hacc : Acc B H e w v l) (hBH : B ≤ H) (hH : H ≤ w.heap.size) (ad : Addr) (c : Nat) (hx : a.eval x = .slice (some ad) ns.length c) (hnews : ∀ j u, (ivals ns)[j]? = some u → w.cell? (ad.add j) = some u) (hI : ∀ a, a ∈ ns → I64 a) (hlen : l.length + ns.length ≤ 1073741824)
    (h : ∀ a' c' w', Acc B w'.heap.size e w' (.slice a' (l.length + ns.length) c') (l ++ ns) → Below B w w' → (∀ k, H ≤ k → k < w.heap.size → w'.heap[k]? = w.heap[k]?) → wpList P ops Q rest (a.put o.dst (.slice a' (l.length + ns.length) c')) w') : wpList P ops Q (o :: rest) a w :=
  wpList_plain hgd fun _ hK => wp_append_ints w s x t ho E hs hacc hBH hH ad c hx hnews hI hlen fun a' c' w' h2 h3 h4 => hK _ _ (h a' c' w' h2 h3 h4)

end Go.Proofs.Ytkbeihkjhmillaa
