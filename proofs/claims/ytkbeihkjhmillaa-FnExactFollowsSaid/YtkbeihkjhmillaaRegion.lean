/-
  PLAIN: a region that draws its order, walked once: what only reads (a copy, an address, a load of a cell that nobody writes who may come before) is taken as soon as it may come up; the other operations wait for one another.
-/
import Derived.OrdersHeld
import Derived.WalkKit
namespace Go.Proofs.Ytkbeihkjhmillaa
open Go.RowKit
set_option linter.unusedSimpArgs false
set_option linter.unusedVariables false

section
variable {P : Program} {ops : Array Oper} {Q : Exit → Act → World → Prop} {S : World → Prop}

/-- What operation j waits for. -/
def needsB (ops : Array Oper) (j : Nat) : List Nat := match ops[j]? with | some o => (o.after.toList.filter (fun e => Region.binds .any e)).map (fun e => e.on) | none => []
def reachB (ops : Array Oper) : Nat → Nat → Nat → Bool
  | 0, _, _ => false
  | f + 1, j, i => (needsB ops j).any fun k => k == i || reachB ops f k i
/-- Operation j waits for all others, if not at once then through others. -/
def sinkB (ops : Array Oper) (j : Nat) : Bool :=
  (List.range ops.size).all fun k => k == j || reachB ops ops.size j k
/-- What is listed has all listed that it waits for. -/
def Shut (ops : Array Oper) (listed : Array Bool) : Prop := ∀ (k : Nat) (o : Oper), listed.getD k false = true → ops[k]? = some o → ∀ e ∈ o.after, Region.binds .any e = true → listed.getD e.on false = true
theorem getD_keep {listed : Array Bool} {i k : Nat} (h : listed.getD k false = true) : (listed.setIfInBounds i true).getD k false = true := by
  simp only [Array.getD_eq_getD_getElem?, Array.getElem?_setIfInBounds] at h ⊢
  split
  · split <;> simp_all
  · exact h
theorem shut_set {listed : Array Bool} {i : Nat} (h : Shut ops listed) (hi : i ∈ Region.ready .any ops listed) : Shut ops (listed.setIfInBounds i true) := by
  intro k o hk ho e he hb
  obtain ⟨_, oi, hoi, hall⟩ := mem_ready.1 hi
  by_cases hki : k = i
  · subst hki
    rw [ho] at hoi
    cases hoi
    exact getD_keep (hall e he hb)
  · refine getD_keep (h k o ?_ ho e he hb)
    rw [getD_set_ne false (Ne.symm hki)] at hk
    exact hk
theorem shut_start : Shut ops (Array.replicate ops.size false) := by
  intro k o hk
  simp only [Array.getD_eq_getD_getElem?, Array.getElem?_replicate] at hk
  split at hk <;> simp at hk
theorem reach_listed {listed : Array Bool} (h : Shut ops listed) : ∀ (f j i : Nat), (∀ k, k ∈ needsB ops j → listed.getD k false = true) → reachB ops f j i = true → listed.getD i false = true
  | 0, _, _, _, hr => by simp [reachB] at hr
  | f + 1, j, i, hn, hr => by
    simp only [reachB, List.any_eq_true, Bool.or_eq_true, beq_iff_eq] at hr
    obtain ⟨k, hk, hr⟩ := hr
    rcases hr with rfl | hr
    · exact hn k hk
    · refine reach_listed h f k i (fun q hq => ?_) hr
      unfold needsB at hq
      cases ho : ops[k]? with
      | none => rw [ho] at hq; simp at hq
      | some o =>
        rw [ho] at hq
        simp only [List.mem_map, List.mem_filter, Array.mem_toList_iff] at hq
        obtain ⟨e, ⟨he, hb⟩, rfl⟩ := hq
        exact h k o (hn k hk) ho e he hb

def wpAnyK (P : Program) (ops : Array Oper) (Q : Exit → Act → World → Prop) (S : World → Prop) : Nat → Array Bool → Act → World → Prop
  | 0, listed, a, w => Region.ready .any ops listed = [] ∧ Q .normal a w
  | fuel + 1, listed, a, w =>
    (Region.ready .any ops listed = [] → Q .normal a w) ∧
    ∀ i ∈ Region.ready .any ops listed, wpOp P ops Q i (fun a' w' => (sinkB ops i = false → S w') ∧ wpAnyK P ops Q S fuel (listed.setIfInBounds i true) a' w') a w

theorem wpAny_of_K : ∀ (fuel : Nat) (listed : Array Bool) (a : Act) (w : World), wpAnyK P ops Q S fuel listed a w → wpAny P .any ops Q fuel listed a w
  | 0, _, _, _, h => h
  | fuel + 1, _, _, _, h => ⟨h.1, fun i hi => wpOp_mono (fun a' w' h' => wpAny_of_K fuel _ a' w' h'.2) (h.2 i hi)⟩

theorem sink_no {listed : Array Bool} {i j : Nat} (hcl : Shut ops listed) (hi : i < ops.size) (hir : i ∈ Region.ready .any ops listed) (hjr : j ∈ Region.ready .any ops listed) (hne : j ≠ i) : sinkB ops j = false := by
  cases h : sinkB ops j with
  | false => rfl
  | true =>
    simp only [sinkB, List.all_eq_true, List.mem_range] at h
    have h1 := h i hi
    simp only [Bool.or_eq_true, beq_iff_eq, Ne.symm hne, false_or] at h1
    obtain ⟨_, oj, hoj, hall⟩ := mem_ready.1 hjr
    have h2 := reach_listed hcl _ j i (fun k hk => by
      unfold needsB at hk
      rw [hoj] at hk
      simp only [List.mem_map, List.mem_filter, Array.mem_toList_iff] at hk
      obtain ⟨e, ⟨he, hb⟩, rfl⟩ := hk
      exact hall e he hb) h1
    have h0 := (mem_ready.1 hir).1
    simp only [Array.getD_eq_getD_getElem?] at h0 h2
    cases hl : listed[i]? with
    | none => rw [hl] at h0; simp at h0
    | some b => rw [hl] at h0 h2; simp at h0 h2; rw [h0] at h2; cases h2

theorem wpAnyK_first {i : Nat} {oi : Oper} {v : Value} (hi : ops[i]? = some oi) (hsel : ∀ (j : Nat) (o : Oper) cs b, ops[j]? = some o → o.op ≠ .select cs b)
    (hQ : ∀ c a w, Q (.panic c) (a.put oi.dst v) w → Q (.panic c) a w) :
    ∀ (fuel : Nat) (listed : Array Bool) (a : Act) (w : World), Shut ops listed →
      (∀ j oj, ops[j]? = some oj → j ≠ i → listed.getD j true = false → (∀ e ∈ oj.after, Region.binds .any e = true → e.on ≠ i) → oi.apart ops oj = true) →
      i ∈ Region.ready .any ops listed → YieldsIf P ops S oi v a → S w →
      wpAnyK P ops Q S fuel (listed.setIfInBounds i true) (a.put oi.dst v) w → wpAnyK P ops Q S (fuel + 1) listed a w := by
  intro fuel
  induction fuel with
  | zero =>
    intro listed a w _ _ hr hy hS H
    refine ⟨fun h => (by rw [h] at hr; cases hr), fun j hj => ?_⟩
    by_cases hji : j = i
    · subst hji; exact hy.wpOp hi hS ⟨fun _ => hS, H⟩
    · have := ready_mono hj hji
      rw [H.1] at this
      cases this
  | succ fuel ih =>
    intro listed a w hcl hfree hr hy hS H
    refine ⟨fun h => (by rw [h] at hr; cases hr), fun j hj => ?_⟩
    by_cases hji : j = i
    · subst hji; exact hy.wpOp hi hS ⟨fun _ => hS, H⟩
    · have h1 := H.2 j (ready_mono hj hji)
      obtain ⟨hjun, oj, hoj, hall⟩ := mem_ready.1 hj
      have hnot : ∀ e ∈ oj.after, Region.binds .any e = true → e.on ≠ i := fun e he hb heq => by
        have h1 := hall e he hb
        have h0 := (mem_ready.1 hr).1
        rw [heq] at h1
        rcases Nat.lt_or_ge i listed.size with h' | h'
        · simp [h'] at h0 h1; rw [h0] at h1; cases h1
        · simp [Array.getElem?_eq_none h'] at h1
      have hns := sink_no hcl (Array.getElem?_eq_some_iff.1 hi).1 hr hj hji
      have h2 := wpOp_putIf hoj (hfree j oj hoj hji hjun hnot) (fun cs b => hsel i oi cs b hi) (fun cs b => hsel j oj cs b hoj) hQ hy h1
      have hfree' : ∀ k ok, ops[k]? = some ok → k ≠ i → (listed.setIfInBounds j true).getD k true = false →
          (∀ e ∈ ok.after, Region.binds .any e = true → e.on ≠ i) → oi.apart ops ok = true := fun k ok hk hki hun hno => by
        refine hfree k ok hk hki ?_ hno
        by_cases hjk : j = k
        · subst hjk; exact hjun
        · rw [getD_set_ne true hjk] at hun; exact hun
      refine wpOp_mono (fun a' w' h3 => ⟨fun _ => h3.2.1 hns, ih (listed.setIfInBounds j true) a' w' (shut_set hcl hj) hfree' (ready_mono hr (Ne.symm hji)) h3.1 (h3.2.1 hns) ?_⟩) h2
      rw [Array.setIfInBounds_comm _ _ hji]
      exact h3.2.2

/-- The walk of a plan: 0: taken as soon as it may come up; 1: alone may come up, S behind it; 2: alone may come up, waits for all, last of those that S is for. -/
def wpEl (P : Program) (ops : Array Oper) (Q : Exit → Act → World → Prop) (S : World → Prop) : List (Nat × Nat) → Act → World → Prop
  | [], a, w => Q .normal a w
  | (i, 0) :: rest, a, w => ∃ o v, ops[i]? = some o ∧ YieldsIf P ops S o v a ∧ wpEl P ops Q S rest (a.put o.dst v) w
  | (i, 1) :: rest, a, w => wpOp P ops Q i (fun a' w' => S w' ∧ wpEl P ops Q S rest a' w') a w
  | (i, _) :: rest, a, w => wpOp P ops Q i (wpEl P ops Q S rest) a w

def planB (ops : Array Oper) : Array Bool → List (Nat × Nat) → Bool
  | listed, [] => (Region.ready .any ops listed).isEmpty
  | listed, (i, 0) :: rest => (Region.ready .any ops listed).contains i && Region.free .any ops listed i && planB ops (listed.setIfInBounds i true) rest
  | listed, (i, 1) :: rest => (Region.ready .any ops listed) == [i] && planB ops (listed.setIfInBounds i true) rest
  | listed, (i, _) :: rest => (Region.ready .any ops listed) == [i] && sinkB ops i && rest.all (fun x => x.2 != 0 && x.2 != 1) && planB ops (listed.setIfInBounds i true) rest

theorem wpAnyK_of_el (hsel : Region.noSelect ops = true) (hQ : ∀ c a d v w, Q (.panic c) (a.put d v) w → Q (.panic c) a w) :
    ∀ (π : List (Nat × Nat)) (listed : Array Bool) (a : Act) (w : World), Shut ops listed → planB ops listed π = true → (π.all (fun x => x.2 != 0 && x.2 != 1) = false → S w) →
      wpEl P ops Q S π a w → wpAnyK P ops Q S π.length listed a w := by
  intro π
  induction π with
  | nil => intro listed a w _ hp _ h; exact ⟨by simpa [planB] using hp, h⟩
  | cons x rest ih =>
    obtain ⟨i, k⟩ := x
    intro listed a w hcl hp hS h
    match k with
    | 0 =>
      simp only [planB, Bool.and_eq_true] at hp
      obtain ⟨o, v, ho, hy, hr⟩ := h
      have hSw : S w := hS (by simp)
      refine wpAnyK_first ho (Region.noSelect_spec hsel) (fun c a w h => hQ c a _ _ w h) _ listed a w hcl (Region.free_spec ho hp.1.2) (by simpa using hp.1.1) hy hSw ?_
      exact ih _ _ _ (shut_set hcl (by simpa using hp.1.1)) hp.2 (fun _ => hSw) hr
    | 1 =>
      simp only [planB, Bool.and_eq_true, beq_iff_eq] at hp
      have h : wpOp P ops Q i (fun a' w' => S w' ∧ wpEl P ops Q S rest a' w') a w := h
      refine ⟨fun h0 => (by rw [hp.1] at h0; cases h0), fun j hj => ?_⟩
      have hj0 := hj
      rw [hp.1] at hj
      obtain rfl : j = i := by simpa using hj
      exact wpOp_mono (fun a' w' h' => ⟨fun _ => h'.1, ih _ _ _ (shut_set hcl hj0) hp.2 (fun _ => h'.1) h'.2⟩) h
    | n + 2 =>
      simp only [planB, Bool.and_eq_true, beq_iff_eq] at hp
      have h : wpOp P ops Q i (wpEl P ops Q S rest) a w := h
      refine ⟨fun h0 => (by rw [hp.1.1.1] at h0; cases h0), fun j hj => ?_⟩
      have hj0 := hj
      rw [hp.1.1.1] at hj
      obtain rfl : j = i := by simpa using hj
      exact wpOp_mono (fun a' w' h' => ⟨fun hs => (by rw [hp.1.1.2] at hs; cases hs), ih _ _ _ (shut_set hcl hj0) hp.2 (fun hall => by rw [hp.1.2] at hall; cases hall) h'⟩) h

/-- THE BEGINNING. -/
theorem wp_region_el {id : Nat} {a : Act} {w : World} (S : World → Prop) (π : List (Nat × Nat)) (hm : P.follows .mixedOrders = true) (hsel : Region.noSelect ops = true)
    (hp : planB ops (Array.replicate ops.size false) π = true) (hl : π.length = ops.size) (hS : S w.drew)
    (hQ : ∀ c a d v w, Q (.panic c) (a.put d v) w → Q (.panic c) a w) (h : wpEl P ops Q S π a w.drew) : (Code.region id ops true).wp P Q a w := by
  refine wp_region_any hm (wpAny_of_K _ _ _ _ (?_ : wpAnyK P ops Q S ops.size (Array.replicate ops.size false) a w.drew))
  have := wpAnyK_of_el hsel hQ π _ a w.drew shut_start hp (fun _ => hS) h
  rw [hl] at this
  exact this

theorem el_nil {a : Act} {w : World} (h : Q .normal a w) : wpEl P ops Q S [] a w := h
variable {i : Nat} {dst : Option Tmp} {op : Op} {ty : TypeId} {pos : String} {after : Array Edge} {guard : Option (Nat × Bool)} {rest : List (Nat × Nat)} {a : Act} {w : World}
theorem el_float {v : Value} (ho : ops[i]? = some ⟨dst, op, ty, pos, after, guard⟩) (hw : Region.wanted ⟨dst, op, ty, pos, after, guard⟩ (yielded ops a.tmps) = true)
    (hy : ∀ w', S w' → (execOp a.eval ⟨dst, op, ty, pos, after, guard⟩).run P w' = .ok (.value v) w') (h : wpEl P ops Q S rest (a.put dst v) w) : wpEl P ops Q S ((i, 0) :: rest) a w :=
  ⟨_, v, ho, .inl ⟨hw, hy⟩, h⟩
theorem el_skip (ho : ops[i]? = some ⟨dst, op, ty, pos, after, guard⟩) (hw : Region.wanted ⟨dst, op, ty, pos, after, guard⟩ (yielded ops a.tmps) = false)
    (h : wpEl P ops Q S rest (a.put dst undef) w) : wpEl P ops Q S ((i, 0) :: rest) a w :=
  ⟨_, undef, ho, .inr ⟨hw, rfl⟩, h⟩
/-- A hard operation (its guard, if there is one, says yes). -/
theorem el_hard (ho : ops[i]? = some ⟨dst, op, ty, pos, after, guard⟩) (hw : Region.wanted ⟨dst, op, ty, pos, after, guard⟩ (yielded ops a.tmps) = true)
    (h : ∀ K : Act → World → Prop, (∀ a w, S w ∧ wpEl P ops Q S rest a w → K a w) → Oper.wp P ⟨dst, op, ty, pos, after, guard⟩ a w K Q) : wpEl P ops Q S ((i, 1) :: rest) a w := by
  show wpOp P ops Q i _ a w
  unfold wpOp
  simp only [ho]
  rw [if_pos hw]
  exact .inl (h _ (fun _ _ h => h))
theorem el_last (ho : ops[i]? = some ⟨dst, op, ty, pos, after, guard⟩) (hw : Region.wanted ⟨dst, op, ty, pos, after, guard⟩ (yielded ops a.tmps) = true)
    (h : ∀ K : Act → World → Prop, (∀ a w, wpEl P ops Q S rest a w → K a w) → Oper.wp P ⟨dst, op, ty, pos, after, guard⟩ a w K Q) : wpEl P ops Q S ((i, 2) :: rest) a w := by
  show wpOp P ops Q i _ a w
  unfold wpOp
  simp only [ho]
  rw [if_pos hw]
  exact .inl (h _ (fun _ _ h => h))
theorem el_hard_no (ho : ops[i]? = some ⟨dst, op, ty, pos, after, guard⟩) (hw : Region.wanted ⟨dst, op, ty, pos, after, guard⟩ (yielded ops a.tmps) = false)
    (hS : S w) (h : wpEl P ops Q S rest (a.put dst undef) w) : wpEl P ops Q S ((i, 1) :: rest) a w := by
  show wpOp P ops Q i _ a w
  unfold wpOp
  simp only [ho]
  rw [if_neg (by rw [hw]; simp)]
  exact ⟨hS, h⟩
end
end Go.Proofs.Ytkbeihkjhmillaa
