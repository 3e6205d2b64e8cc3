/-
  PLAIN: as XRegion, and with operations behind which other things hold ('barriers': every other operation comes before it or behind it).
-/
import Derived.Test.YtkbeihkjhmillaaRegion
namespace Go.Proofs.Ytkbeihkjhmillaa
open Go.RowKit
set_option linter.unusedSimpArgs false
set_option linter.unusedVariables false

section
variable {P : Program} {ops : Array Oper} {Q : Exit → Act → World → Prop} {S : World → Prop}
/-- Of those that are not in L0: every other operation waits for it, or it waits for it. -/
def barB (ops : Array Oper) (L0 : Array Bool) (j : Nat) : Bool := (List.range ops.size).all fun k => L0.getD k false || k == j || reachB ops ops.size j k || reachB ops ops.size k j
def ShutL (ops : Array Oper) (L0 listed : Array Bool) : Prop := Shut ops listed ∧ ∀ k, L0.getD k false = true → listed.getD k false = true
theorem shutL_set {L0 listed : Array Bool} {i : Nat} (h : ShutL ops L0 listed) (hi : i ∈ Region.ready .any ops listed) : ShutL ops L0 (listed.setIfInBounds i true) := ⟨shut_set h.1 hi, fun k hk => getD_keep (h.2 k hk)⟩
theorem ready_not {listed : Array Bool} {i : Nat} (h : i ∈ Region.ready .any ops listed) : listed.getD i false = false := by
  have h0 := (mem_ready.1 h).1
  simp only [Array.getD_eq_getD_getElem?] at h0 ⊢
  cases hl : listed[i]? with
  | none => simp
  | some b => rw [hl] at h0; simpa using h0
theorem ready_needs {listed : Array Bool} {j : Nat} (h : j ∈ Region.ready .any ops listed) : ∀ k, k ∈ needsB ops j → listed.getD k false = true := by
  intro k hk
  obtain ⟨_, oj, hoj, hall⟩ := mem_ready.1 h
  unfold needsB at hk
  rw [hoj] at hk
  simp only [List.mem_map, List.mem_filter, Array.mem_toList_iff] at hk
  obtain ⟨e, ⟨he, hb⟩, rfl⟩ := hk
  exact hall e he hb
theorem bar_no {L0 listed : Array Bool} {i j : Nat} (hcl : ShutL ops L0 listed) (hi : i < ops.size) (hir : i ∈ Region.ready .any ops listed) (hjr : j ∈ Region.ready .any ops listed) (hne : j ≠ i) : barB ops L0 j = false := by
  cases h : barB ops L0 j with
  | false => rfl
  | true =>
    simp only [barB, List.all_eq_true, List.mem_range] at h
    have h1 := h i hi
    simp only [Bool.or_eq_true, beq_iff_eq, Ne.symm hne, or_false] at h1
    rcases h1 with (h1 | h1) | h1
    · have h2 := hcl.2 i h1
      rw [ready_not hir] at h2; cases h2
    · have h2 := reach_listed hcl.1 _ j i (ready_needs hjr) h1
      rw [ready_not hir] at h2; cases h2
    · have h2 := reach_listed hcl.1 _ i j (ready_needs hir) h1
      rw [ready_not hjr] at h2; cases h2

def wpAnyB (P : Program) (ops : Array Oper) (L0 : Array Bool) (Q : Exit → Act → World → Prop) (S : World → Prop) : Nat → Array Bool → Act → World → Prop
  | 0, listed, a, w => Region.ready .any ops listed = [] ∧ Q .normal a w
  | fuel + 1, listed, a, w =>
    (Region.ready .any ops listed = [] → Q .normal a w) ∧
    ∀ i ∈ Region.ready .any ops listed, wpOp P ops Q i (fun a' w' => (barB ops L0 i = true ∧ wpAny P .any ops Q fuel (listed.setIfInBounds i true) a' w') ∨ (S w' ∧ wpAnyB P ops L0 Q S fuel (listed.setIfInBounds i true) a' w')) a w

theorem wpAny_of_B {L0 : Array Bool} : ∀ (fuel : Nat) (listed : Array Bool) (a : Act) (w : World), wpAnyB P ops L0 Q S fuel listed a w → wpAny P .any ops Q fuel listed a w
  | 0, _, _, _, h => h
  | fuel + 1, _, _, _, h => ⟨h.1, fun i hi => wpOp_mono (fun a' w' h' => h'.elim (fun h1 => h1.2) (fun h1 => wpAny_of_B fuel _ a' w' h1.2)) (h.2 i hi)⟩

theorem wpAnyB_first {L0 : Array Bool} {i : Nat} {oi : Oper} {v : Value} (hi : ops[i]? = some oi) (hsel : ∀ (j : Nat) (o : Oper) cs b, ops[j]? = some o → o.op ≠ .select cs b)
    (hQ : ∀ c a w, Q (.panic c) (a.put oi.dst v) w → Q (.panic c) a w) :
    ∀ (fuel : Nat) (listed : Array Bool) (a : Act) (w : World), ShutL ops L0 listed →
      (∀ j oj, ops[j]? = some oj → j ≠ i → listed.getD j true = false → (∀ e ∈ oj.after, Region.binds .any e = true → e.on ≠ i) → oi.apart ops oj = true) →
      i ∈ Region.ready .any ops listed → YieldsIf P ops S oi v a → S w →
      wpAnyB P ops L0 Q S fuel (listed.setIfInBounds i true) (a.put oi.dst v) w → wpAnyB P ops L0 Q S (fuel + 1) listed a w := by
  intro fuel
  induction fuel with
  | zero =>
    intro listed a w _ _ hr hy hS H
    refine ⟨fun h => (by rw [h] at hr; cases hr), fun j hj => ?_⟩
    by_cases hji : j = i
    · subst hji; exact hy.wpOp hi hS (.inr ⟨hS, H⟩)
    · have := ready_mono hj hji
      rw [H.1] at this
      cases this
  | succ fuel ih =>
    intro listed a w hcl hfree hr hy hS H
    refine ⟨fun h => (by rw [h] at hr; cases hr), fun j hj => ?_⟩
    by_cases hji : j = i
    · subst hji; exact hy.wpOp hi hS (.inr ⟨hS, H⟩)
    · have h1 := H.2 j (ready_mono hj hji)
      obtain ⟨hjun, oj, hoj, hall⟩ := mem_ready.1 hj
      have hnot : ∀ e ∈ oj.after, Region.binds .any e = true → e.on ≠ i := fun e he hb heq => by
        have h1 := hall e he hb
        have h0 := (mem_ready.1 hr).1
        rw [heq] at h1
        rcases Nat.lt_or_ge i listed.size with h' | h'
        · simp [h'] at h0 h1; rw [h0] at h1; cases h1
        · simp [Array.getElem?_eq_none h'] at h1
      have hns := bar_no hcl (Array.getElem?_eq_some_iff.1 hi).1 hr hj hji
      have h2 := wpOp_putIf hoj (hfree j oj hoj hji hjun hnot) (fun cs b => hsel i oi cs b hi) (fun cs b => hsel j oj cs b hoj) hQ hy h1
      have hfree' : ∀ k ok, ops[k]? = some ok → k ≠ i → (listed.setIfInBounds j true).getD k true = false →
          (∀ e ∈ ok.after, Region.binds .any e = true → e.on ≠ i) → oi.apart ops ok = true := fun k ok hk hki hun hno => by
        refine hfree k ok hk hki ?_ hno
        by_cases hjk : j = k
        · subst hjk; exact hjun
        · rw [getD_set_ne true hjk] at hun; exact hun
      refine wpOp_mono (fun a' w' h3 => ?_) h2
      rcases h3.2 with hb | hb
      · rw [hns] at hb; exact absurd hb.1 (by decide)
      · refine .inr ⟨hb.1, ih (listed.setIfInBounds j true) a' w' (shutL_set hcl hj) hfree' (ready_mono hr (Ne.symm hji)) h3.1 hb.1 ?_⟩
        rw [Array.setIfInBounds_comm _ _ hji]
        exact hb.2

/-- The walk of a plan: 0: taken as soon as it may come up; 1: alone may come up, S behind it; 2: a barrier: alone may come up, another S behind it. -/
def wpElB (P : Program) (ops : Array Oper) (Q : Exit → Act → World → Prop) : (World → Prop) → List (Nat × Nat) → Act → World → Prop
  | _, [], a, w => Q .normal a w
  | S, (i, 0) :: rest, a, w => ∃ o v, ops[i]? = some o ∧ YieldsIf P ops S o v a ∧ wpElB P ops Q S rest (a.put o.dst v) w
  | S, (i, 1) :: rest, a, w => wpOp P ops Q i (fun a' w' => S w' ∧ wpElB P ops Q S rest a' w') a w
  | _, (i, _) :: rest, a, w => wpOp P ops Q i (fun a' w' => ∃ S' : World → Prop, S' w' ∧ wpElB P ops Q S' rest a' w') a w

def planC (ops : Array Oper) (L0 : Array Bool) : Array Bool → List (Nat × Nat) → Bool
  | listed, [] => (Region.ready .any ops listed).isEmpty
  | listed, (i, 0) :: rest => (Region.ready .any ops listed).contains i && Region.free .any ops listed i && planC ops L0 (listed.setIfInBounds i true) rest
  | listed, (i, 1) :: rest => (Region.ready .any ops listed) == [i] && planC ops L0 (listed.setIfInBounds i true) rest
  | listed, (i, _) :: rest => (Region.ready .any ops listed) == [i] && barB ops L0 i && planC ops L0 (listed.setIfInBounds i true) rest

theorem wpAnyB_of_el {L0 : Array Bool} (hsel : Region.noSelect ops = true) (hQ : ∀ c a d v w, Q (.panic c) (a.put d v) w → Q (.panic c) a w) :
    ∀ (π : List (Nat × Nat)) (S : World → Prop) (listed : Array Bool) (a : Act) (w : World), ShutL ops L0 listed → planC ops L0 listed π = true → S w →
      wpElB P ops Q S π a w → wpAnyB P ops L0 Q S π.length listed a w := by
  intro π
  induction π with
  | nil => intro S listed a w _ hp _ h; exact ⟨by simpa [planC] using hp, h⟩
  | cons x rest ih =>
    obtain ⟨i, k⟩ := x
    intro S listed a w hcl hp hS h
    match k with
    | 0 =>
      simp only [planC, Bool.and_eq_true] at hp
      obtain ⟨o, v, ho, hy, hr⟩ := h
      refine wpAnyB_first ho (Region.noSelect_spec hsel) (fun c a w h => hQ c a _ _ w h) _ listed a w hcl (Region.free_spec ho hp.1.2) (by simpa using hp.1.1) hy hS ?_
      exact ih _ _ _ _ (shutL_set hcl (by simpa using hp.1.1)) hp.2 hS hr
    | 1 =>
      simp only [planC, Bool.and_eq_true, beq_iff_eq] at hp
      have h : wpOp P ops Q i (fun a' w' => S w' ∧ wpElB P ops Q S rest a' w') a w := h
      refine ⟨fun h0 => (by rw [hp.1] at h0; cases h0), fun j hj => ?_⟩
      have hj0 := hj
      rw [hp.1] at hj
      obtain rfl : j = i := by simpa using hj
      exact wpOp_mono (fun a' w' h' => .inr ⟨h'.1, ih _ _ _ _ (shutL_set hcl hj0) hp.2 h'.1 h'.2⟩) h
    | n + 2 =>
      simp only [planC, Bool.and_eq_true, beq_iff_eq] at hp
      have h : wpOp P ops Q i (fun a' w' => ∃ S' : World → Prop, S' w' ∧ wpElB P ops Q S' rest a' w') a w := h
      refine ⟨fun h0 => (by rw [hp.1.1] at h0; cases h0), fun j hj => ?_⟩
      have hj0 := hj
      rw [hp.1.1] at hj
      obtain rfl : j = i := by simpa using hj
      exact wpOp_mono (fun a' w' ⟨S', hS', h'⟩ => .inl ⟨hp.1.2, wpAny_of_B _ _ _ _ (ih S' _ _ _ (shutL_set hcl hj0) hp.2 hS' h')⟩) h

/-- Ahead of them: what is pure, taken as soon as it may come up. -/
def wpElP (P : Program) (ops : Array Oper) (Q : Exit → Act → World → Prop) (S : World → Prop) (π : List (Nat × Nat)) : List Nat → Act → World → Prop
  | [], a, w => S w ∧ wpElB P ops Q S π a w
  | i :: rest, a, w => ∃ o v, ops[i]? = some o ∧ Yields P ops o v a ∧ wpElP P ops Q S π rest (a.put o.dst v) w
def planP (ops : Array Oper) (π : List (Nat × Nat)) : Array Bool → List Nat → Bool
  | listed, [] => planC ops listed listed π
  | listed, i :: rest => (Region.ready .any ops listed).contains i && Region.free .any ops listed i && planP ops π (listed.setIfInBounds i true) rest
theorem wpAny_of_elP (hsel : Region.noSelect ops = true) (hQ : ∀ c a d v w, Q (.panic c) (a.put d v) w → Q (.panic c) a w) (π : List (Nat × Nat)) (S : World → Prop) :
    ∀ (ρ : List Nat) (listed : Array Bool) (a : Act) (w : World), Shut ops listed → planP ops π listed ρ = true → wpElP P ops Q S π ρ a w → wpAny P .any ops Q (ρ.length + π.length) listed a w
  | [], listed, a, w, hcl, hp, h => by
    have h1 := wpAny_of_B _ _ _ _ (wpAnyB_of_el (L0 := listed) hsel hQ π S listed a w ⟨hcl, fun k hk => hk⟩ hp h.1 h.2)
    simpa using h1
  | i :: rest, listed, a, w, hcl, hp, h => by
    simp only [planP, Bool.and_eq_true] at hp
    obtain ⟨o, v, ho, hy, hr⟩ := h
    have h1 := wpAny_of_elP hsel hQ π S rest (listed.setIfInBounds i true) _ w (shut_set hcl (by simpa using hp.1.1)) hp.2 hr
    have h2 := wpAny_take ho hsel hp.1.2 hp.1.1 (fun c a w h => hQ c a _ _ w h) hy h1
    rw [show (i :: rest).length + π.length = rest.length + π.length + 1 by simp; omega]
    exact h2
/-- THE BEGINNING. -/
theorem wp_region_eb {id : Nat} {a : Act} {w : World} (S : World → Prop) (ρ : List Nat) (π : List (Nat × Nat)) (hm : P.follows .mixedOrders = true) (hsel : Region.noSelect ops = true)
    (hp : planP ops π (Array.replicate ops.size false) ρ = true) (hl : ρ.length + π.length = ops.size)
    (hQ : ∀ c a d v w, Q (.panic c) (a.put d v) w → Q (.panic c) a w) (h : wpElP P ops Q S π ρ a w.drew) : (Code.region id ops true).wp P Q a w := by
  refine wp_region_any hm ?_
  have := wpAny_of_elP hsel hQ π S ρ _ a w.drew shut_start hp h
  rw [hl] at this
  exact this

theorem ep_nil {a : Act} {w : World} {π : List (Nat × Nat)} (hS : S w) (h : wpElB P ops Q S π a w) : wpElP P ops Q S π [] a w := ⟨hS, h⟩
theorem ep_pure {i : Nat} {rest : List Nat} {π : List (Nat × Nat)} {a : Act} {w : World} {dst : Option Tmp} {op : Op} {ty : TypeId} {pos : String} {after : Array Edge} {guard : Option (Nat × Bool)} {v : Value} (ho : ops[i]? = some ⟨dst, op, ty, pos, after, guard⟩) (hw : Region.wanted ⟨dst, op, ty, pos, after, guard⟩ (yielded ops a.tmps) = true)
    (hy : ∀ w', (execOp a.eval ⟨dst, op, ty, pos, after, guard⟩).run P w' = .ok (.value v) w') (h : wpElP P ops Q S π rest (a.put dst v) w) : wpElP P ops Q S π (i :: rest) a w :=
  ⟨_, v, ho, .inl ⟨hw, hy⟩, h⟩
theorem eb_nil {a : Act} {w : World} (h : Q .normal a w) : wpElB P ops Q S [] a w := h
variable {i : Nat} {dst : Option Tmp} {op : Op} {ty : TypeId} {pos : String} {after : Array Edge} {guard : Option (Nat × Bool)} {rest : List (Nat × Nat)} {a : Act} {w : World}
theorem eb_float {v : Value} (ho : ops[i]? = some ⟨dst, op, ty, pos, after, guard⟩) (hw : Region.wanted ⟨dst, op, ty, pos, after, guard⟩ (yielded ops a.tmps) = true)
    (hy : ∀ w', S w' → (execOp a.eval ⟨dst, op, ty, pos, after, guard⟩).run P w' = .ok (.value v) w') (h : wpElB P ops Q S rest (a.put dst v) w) : wpElB P ops Q S ((i, 0) :: rest) a w :=
  ⟨_, v, ho, .inl ⟨hw, hy⟩, h⟩
theorem eb_skip (ho : ops[i]? = some ⟨dst, op, ty, pos, after, guard⟩) (hw : Region.wanted ⟨dst, op, ty, pos, after, guard⟩ (yielded ops a.tmps) = false)
    (h : wpElB P ops Q S rest (a.put dst undef) w) : wpElB P ops Q S ((i, 0) :: rest) a w :=
  ⟨_, undef, ho, .inr ⟨hw, rfl⟩, h⟩
/-- A hard operation (its guard, if there is one, says yes). -/
theorem eb_hard (ho : ops[i]? = some ⟨dst, op, ty, pos, after, guard⟩) (hw : Region.wanted ⟨dst, op, ty, pos, after, guard⟩ (yielded ops a.tmps) = true)
    (h : ∀ K : Act → World → Prop, (∀ a w, S w ∧ wpElB P ops Q S rest a w → K a w) → Oper.wp P ⟨dst, op, ty, pos, after, guard⟩ a w K Q) : wpElB P ops Q S ((i, 1) :: rest) a w := by
  show wpOp P ops Q i _ a w
  unfold wpOp
  simp only [ho]
  rw [if_pos hw]
  exact .inl (h _ (fun _ _ h => h))
theorem eb_last (ho : ops[i]? = some ⟨dst, op, ty, pos, after, guard⟩) (hw : Region.wanted ⟨dst, op, ty, pos, after, guard⟩ (yielded ops a.tmps) = true)
    (h : ∀ K : Act → World → Prop, (∀ a w, (∃ S' : World → Prop, S' w ∧ wpElB P ops Q S' rest a w) → K a w) → Oper.wp P ⟨dst, op, ty, pos, after, guard⟩ a w K Q) : wpElB P ops Q S ((i, 2) :: rest) a w := by
  show wpOp P ops Q i _ a w
  unfold wpOp
  simp only [ho]
  rw [if_pos hw]
  exact .inl (h _ (fun _ _ h => h))
end
end Go.Proofs.Ytkbeihkjhmillaa
