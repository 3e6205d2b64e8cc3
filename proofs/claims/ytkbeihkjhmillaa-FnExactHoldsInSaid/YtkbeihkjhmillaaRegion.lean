/-
  PLAIN: a region that draws its order, walked once: what only reads (a copy, an address, a load of a cell that nobody writes who may come before) is taken as soon as it may come up; the other operations wait for one another.
-/
import Derived.OrdersHeld
import Derived.WalkKit
namespace Go.Proofs.Ytkbeihkjhmillaa
open Go.RowKit
set_option linter.unusedSimpArgs false
set_option linter.unusedVariables false

section
variable {P : Program} {ops : Array Oper} {Q : Exit → Act → World → Prop} {S : World → Prop}

/-- Operation j waits for all others. -/
def sinkB (ops : Array Oper) (j : Nat) : Bool :=
  (List.range ops.size).all fun k => k == j || (match ops[j]? with | some o => o.after.any (fun e => Region.binds .any e && e.on == k) | none => false)

def wpAnyK (P : Program) (ops : Array Oper) (Q : Exit → Act → World → Prop) (S : World → Prop) : Nat → Array Bool → Act → World → Prop
  | 0, listed, a, w => Region.ready .any ops listed = [] ∧ Q .normal a w
  | fuel + 1, listed, a, w =>
    (Region.ready .any ops listed = [] → Q .normal a w) ∧
    ∀ i ∈ Region.ready .any ops listed, wpOp P ops Q i (fun a' w' => (sinkB ops i = false → S w') ∧ wpAnyK P ops Q S fuel (listed.setIfInBounds i true) a' w') a w

theorem wpAny_of_K : ∀ (fuel : Nat) (listed : Array Bool) (a : Act) (w : World), wpAnyK P ops Q S fuel listed a w → wpAny P .any ops Q fuel listed a w
  | 0, _, _, _, h => h
  | fuel + 1, _, _, _, h => ⟨h.1, fun i hi => wpOp_mono (fun a' w' h' => wpAny_of_K fuel _ a' w' h'.2) (h.2 i hi)⟩

theorem sink_no {i j : Nat} {oj : Oper} (hi : i < ops.size) (hj : ops[j]? = some oj) (hne : j ≠ i) (hnot : ∀ e ∈ oj.after, Region.binds .any e = true → e.on ≠ i) : sinkB ops j = false := by
  cases h : sinkB ops j with
  | false => rfl
  | true =>
    simp only [sinkB, List.all_eq_true, List.mem_range] at h
    have h1 := h i hi
    simp only [hj, Bool.or_eq_true, beq_iff_eq, Ne.symm hne, false_or, Array.any_eq_true, Bool.and_eq_true] at h1
    obtain ⟨k, hk, h2, h3⟩ := h1
    exact absurd h3 (hnot _ (Array.getElem_mem hk) h2)

theorem wpAnyK_first {i : Nat} {oi : Oper} {v : Value} (hi : ops[i]? = some oi) (hsel : ∀ (j : Nat) (o : Oper) cs b, ops[j]? = some o → o.op ≠ .select cs b)
    (hQ : ∀ c a w, Q (.panic c) (a.put oi.dst v) w → Q (.panic c) a w) :
    ∀ (fuel : Nat) (listed : Array Bool) (a : Act) (w : World),
      (∀ j oj, ops[j]? = some oj → j ≠ i → listed.getD j true = false → (∀ e ∈ oj.after, Region.binds .any e = true → e.on ≠ i) → oi.apart ops oj = true) →
      i ∈ Region.ready .any ops listed → YieldsIf P ops S oi v a → S w →
      wpAnyK P ops Q S fuel (listed.setIfInBounds i true) (a.put oi.dst v) w → wpAnyK P ops Q S (fuel + 1) listed a w := by
  intro fuel
  induction fuel with
  | zero =>
    intro listed a w _ hr hy hS H
    refine ⟨fun h => (by rw [h] at hr; cases hr), fun j hj => ?_⟩
    by_cases hji : j = i
    · subst hji; exact hy.wpOp hi hS ⟨fun _ => hS, H⟩
    · have := ready_mono hj hji
      rw [H.1] at this
      cases this
  | succ fuel ih =>
    intro listed a w hfree hr hy hS H
    refine ⟨fun h => (by rw [h] at hr; cases hr), fun j hj => ?_⟩
    by_cases hji : j = i
    · subst hji; exact hy.wpOp hi hS ⟨fun _ => hS, H⟩
    · have h1 := H.2 j (ready_mono hj hji)
      obtain ⟨hjun, oj, hoj, hall⟩ := mem_ready.1 hj
      have hnot : ∀ e ∈ oj.after, Region.binds .any e = true → e.on ≠ i := fun e he hb heq => by
        have h1 := hall e he hb
        have h0 := (mem_ready.1 hr).1
        rw [heq] at h1
        rcases Nat.lt_or_ge i listed.size with h' | h'
        · simp [h'] at h0 h1; rw [h0] at h1; cases h1
        · simp [Array.getElem?_eq_none h'] at h1
      have hns := sink_no (Array.getElem?_eq_some_iff.1 hi).1 hoj hji hnot
      have h2 := wpOp_putIf hoj (hfree j oj hoj hji hjun hnot) (fun cs b => hsel i oi cs b hi) (fun cs b => hsel j oj cs b hoj) hQ hy h1
      have hfree' : ∀ k ok, ops[k]? = some ok → k ≠ i → (listed.setIfInBounds j true).getD k true = false →
          (∀ e ∈ ok.after, Region.binds .any e = true → e.on ≠ i) → oi.apart ops ok = true := fun k ok hk hki hun hno => by
        refine hfree k ok hk hki ?_ hno
        by_cases hjk : j = k
        · subst hjk; exact hjun
        · rw [getD_set_ne true hjk] at hun; exact hun
      refine wpOp_mono (fun a' w' h3 => ⟨fun _ => h3.2.1 hns, ih (listed.setIfInBounds j true) a' w' hfree' (ready_mono hr (Ne.symm hji)) h3.1 (h3.2.1 hns) ?_⟩) h2
      rw [Array.setIfInBounds_comm _ _ hji]
      exact h3.2.2

/-- The walk of a plan: 0: taken as soon as it may come up; 1: alone may come up, S behind it; 2: alone may come up, waits for all, last of those that S is for. -/
def wpEl (P : Program) (ops : Array Oper) (Q : Exit → Act → World → Prop) (S : World → Prop) : List (Nat × Nat) → Act → World → Prop
  | [], a, w => Q .normal a w
  | (i, 0) :: rest, a, w => ∃ o v, ops[i]? = some o ∧ YieldsIf P ops S o v a ∧ wpEl P ops Q S rest (a.put o.dst v) w
  | (i, 1) :: rest, a, w => wpOp P ops Q i (fun a' w' => S w' ∧ wpEl P ops Q S rest a' w') a w
  | (i, _) :: rest, a, w => wpOp P ops Q i (wpEl P ops Q S rest) a w

def planB (ops : Array Oper) : Array Bool → List (Nat × Nat) → Bool
  | listed, [] => (Region.ready .any ops listed).isEmpty
  | listed, (i, 0) :: rest => (Region.ready .any ops listed).contains i && Region.free .any ops listed i && planB ops (listed.setIfInBounds i true) rest
  | listed, (i, 1) :: rest => (Region.ready .any ops listed) == [i] && planB ops (listed.setIfInBounds i true) rest
  | listed, (i, _) :: rest => (Region.ready .any ops listed) == [i] && sinkB ops i && rest.all (fun x => x.2 != 0 && x.2 != 1) && planB ops (listed.setIfInBounds i true) rest

theorem wpAnyK_of_el (hsel : Region.noSelect ops = true) (hQ : ∀ c a d v w, Q (.panic c) (a.put d v) w → Q (.panic c) a w) :
    ∀ (π : List (Nat × Nat)) (listed : Array Bool) (a : Act) (w : World), planB ops listed π = true → (π.all (fun x => x.2 != 0 && x.2 != 1) = false → S w) →
      wpEl P ops Q S π a w → wpAnyK P ops Q S π.length listed a w := by
  intro π
  induction π with
  | nil => intro listed a w hp _ h; exact ⟨by simpa [planB] using hp, h⟩
  | cons x rest ih =>
    obtain ⟨i, k⟩ := x
    intro listed a w hp hS h
    match k with
    | 0 =>
      simp only [planB, Bool.and_eq_true] at hp
      obtain ⟨o, v, ho, hy, hr⟩ := h
      have hSw : S w := hS (by simp)
      refine wpAnyK_first ho (Region.noSelect_spec hsel) (fun c a w h => hQ c a _ _ w h) _ listed a w (Region.free_spec ho hp.1.2) (by simpa using hp.1.1) hy hSw ?_
      exact ih _ _ _ hp.2 (fun _ => hSw) hr
    | 1 =>
      simp only [planB, Bool.and_eq_true, beq_iff_eq] at hp
      have h : wpOp P ops Q i (fun a' w' => S w' ∧ wpEl P ops Q S rest a' w') a w := h
      refine ⟨fun h0 => (by rw [hp.1] at h0; cases h0), fun j hj => ?_⟩
      rw [hp.1] at hj
      obtain rfl : j = i := by simpa using hj
      exact wpOp_mono (fun a' w' h' => ⟨fun _ => h'.1, ih _ _ _ hp.2 (fun _ => h'.1) h'.2⟩) h
    | n + 2 =>
      simp only [planB, Bool.and_eq_true, beq_iff_eq] at hp
      have h : wpOp P ops Q i (wpEl P ops Q S rest) a w := h
      refine ⟨fun h0 => (by rw [hp.1.1.1] at h0; cases h0), fun j hj => ?_⟩
      rw [hp.1.1.1] at hj
      obtain rfl : j = i := by simpa using hj
      exact wpOp_mono (fun a' w' h' => ⟨fun hs => (by rw [hp.1.1.2] at hs; cases hs), ih _ _ _ hp.2 (fun hall => by rw [hp.1.2] at hall; cases hall) h'⟩) h

/-- THE BEGINNING. -/
theorem wp_region_el {id : Nat} {a : Act} {w : World} (S : World → Prop) (π : List (Nat × Nat)) (hm : P.follows .mixedOrders = true) (hsel : Region.noSelect ops = true)
    (hp : planB ops (Array.replicate ops.size false) π = true) (hl : π.length = ops.size) (hS : S w.drew)
    (hQ : ∀ c a d v w, Q (.panic c) (a.put d v) w → Q (.panic c) a w) (h : wpEl P ops Q S π a w.drew) : (Code.region id ops true).wp P Q a w := by
  refine wp_region_any hm (wpAny_of_K _ _ _ _ (?_ : wpAnyK P ops Q S ops.size (Array.replicate ops.size false) a w.drew))
  have := wpAnyK_of_el hsel hQ π _ a w.drew hp (fun _ => hS) h
  rw [hl] at this
  exact this

theorem el_nil {a : Act} {w : World} (h : Q .normal a w) : wpEl P ops Q S [] a w := h
variable {i : Nat} {dst : Option Tmp} {op : Op} {ty : TypeId} {pos : String} {after : Array Edge} {guard : Option (Nat × Bool)} {rest : List (Nat × Nat)} {a : Act} {w : World}
theorem el_float {v : Value} (ho : ops[i]? = some ⟨dst, op, ty, pos, after, guard⟩) (hw : Region.wanted ⟨dst, op, ty, pos, after, guard⟩ (yielded ops a.tmps) = true)
    (hy : ∀ w', S w' → (execOp a.eval ⟨dst, op, ty, pos, after, guard⟩).run P w' = .ok (.value v) w') (h : wpEl P ops Q S rest (a.put dst v) w) : wpEl P ops Q S ((i, 0) :: rest) a w :=
  ⟨_, v, ho, .inl ⟨hw, hy⟩, h⟩
theorem el_skip (ho : ops[i]? = some ⟨dst, op, ty, pos, after, guard⟩) (hw : Region.wanted ⟨dst, op, ty, pos, after, guard⟩ (yielded ops a.tmps) = false)
    (h : wpEl P ops Q S rest (a.put dst undef) w) : wpEl P ops Q S ((i, 0) :: rest) a w :=
  ⟨_, undef, ho, .inr ⟨hw, rfl⟩, h⟩
/-- A hard operation (its guard, if there is one, says yes). -/
theorem el_hard (ho : ops[i]? = some ⟨dst, op, ty, pos, after, guard⟩) (hw : Region.wanted ⟨dst, op, ty, pos, after, guard⟩ (yielded ops a.tmps) = true)
    (h : ∀ K : Act → World → Prop, (∀ a w, S w ∧ wpEl P ops Q S rest a w → K a w) → Oper.wp P ⟨dst, op, ty, pos, after, guard⟩ a w K Q) : wpEl P ops Q S ((i, 1) :: rest) a w := by
  show wpOp P ops Q i _ a w
  unfold wpOp
  simp only [ho]
  rw [if_pos hw]
  exact .inl (h _ (fun _ _ h => h))
theorem el_last (ho : ops[i]? = some ⟨dst, op, ty, pos, after, guard⟩) (hw : Region.wanted ⟨dst, op, ty, pos, after, guard⟩ (yielded ops a.tmps) = true)
    (h : ∀ K : Act → World → Prop, (∀ a w, wpEl P ops Q S rest a w → K a w) → Oper.wp P ⟨dst, op, ty, pos, after, guard⟩ a w K Q) : wpEl P ops Q S ((i, 2) :: rest) a w := by
  show wpOp P ops Q i _ a w
  unfold wpOp
  simp only [ho]
  rw [if_pos hw]
  exact .inl (h _ (fun _ _ h => h))
theorem el_hard_no (ho : ops[i]? = some ⟨dst, op, ty, pos, after, guard⟩) (hw : Region.wanted ⟨dst, op, ty, pos, after, guard⟩ (yielded ops a.tmps) = false)
    (hS : S w) (h : wpEl P ops Q S rest (a.put dst undef) w) : wpEl P ops Q S ((i, 1) :: rest) a w := by
  show wpOp P ops Q i _ a w
  unfold wpOp
  simp only [ho]
  rw [if_neg (by rw [hw]; simp)]
  exact ⟨hS, h⟩
end
end Go.Proofs.Ytkbeihkjhmillaa
