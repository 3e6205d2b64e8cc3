/-
  PLAIN: a region that draws its order, in which several hard operations may come up at once: the plan is a tree.
-/
import Derived.Test.YtkbeihkjhmillaaRegion
namespace Go.Proofs.Ytkbeihkjhmillaa
open Go.RowKit
set_option linter.unusedSimpArgs false
set_option linter.unusedVariables false

/-- A plan: float: taken as soon as it may come up; hard: alone may come up; fork: these and no others may come up. -/
inductive Plan where
  | nil
  | float (i : Nat) (r : Plan)
  | hard (i : Nat) (r : Plan)
  | last (i : Nat) (r : Plan)
  | fork2 (i : Nat) (ri : Plan) (j : Nat) (rj : Plan)
  | fork3 (i : Nat) (ri : Plan) (j : Nat) (rj : Plan) (k : Nat) (rk : Plan)
def Plan.len : Plan → Nat
  | .nil => 0
  | .float _ r => r.len + 1
  | .hard _ r => r.len + 1
  | .last _ r => r.len + 1
  | .fork2 _ r _ _ => r.len + 1
  | .fork3 _ r _ _ _ _ => r.len + 1
/-- No float, no hard one, no fork any more: S is not asked. -/
def Plan.free : Plan → Bool
  | .nil => true
  | .last _ r => r.free
  | _ => false

section
variable {P : Program} {ops : Array Oper} {Q : Exit → Act → World → Prop} {S : World → Prop}
def wpTree (P : Program) (ops : Array Oper) (Q : Exit → Act → World → Prop) (S : World → Prop) : Plan → Act → World → Prop
  | .nil, a, w => Q .normal a w
  | .float i r, a, w => ∃ o v, ops[i]? = some o ∧ YieldsIf P ops S o v a ∧ wpTree P ops Q S r (a.put o.dst v) w
  | .hard i r, a, w => wpOp P ops Q i (fun a' w' => S w' ∧ wpTree P ops Q S r a' w') a w
  | .last i r, a, w => wpOp P ops Q i (wpTree P ops Q S r) a w
  | .fork2 i ri j rj, a, w => wpOp P ops Q i (fun a' w' => S w' ∧ wpTree P ops Q S ri a' w') a w ∧ wpOp P ops Q j (fun a' w' => S w' ∧ wpTree P ops Q S rj a' w') a w
  | .fork3 i ri j rj k rk, a, w => wpOp P ops Q i (fun a' w' => S w' ∧ wpTree P ops Q S ri a' w') a w ∧ wpOp P ops Q j (fun a' w' => S w' ∧ wpTree P ops Q S rj a' w') a w ∧ wpOp P ops Q k (fun a' w' => S w' ∧ wpTree P ops Q S rk a' w') a w

def treeB (ops : Array Oper) : Array Bool → Plan → Bool
  | listed, .nil => (Region.ready .any ops listed).isEmpty
  | listed, .float i r => (Region.ready .any ops listed).contains i && Region.free .any ops listed i && treeB ops (listed.setIfInBounds i true) r
  | listed, .hard i r => (Region.ready .any ops listed) == [i] && treeB ops (listed.setIfInBounds i true) r
  | listed, .last i r => (Region.ready .any ops listed) == [i] && sinkB ops i && r.free && treeB ops (listed.setIfInBounds i true) r
  | listed, .fork2 i ri j rj => (Region.ready .any ops listed) == [i, j] && ri.len == rj.len && treeB ops (listed.setIfInBounds i true) ri && treeB ops (listed.setIfInBounds j true) rj
  | listed, .fork3 i ri j rj k rk => (Region.ready .any ops listed) == [i, j, k] && ri.len == rj.len && ri.len == rk.len && treeB ops (listed.setIfInBounds i true) ri && treeB ops (listed.setIfInBounds j true) rj && treeB ops (listed.setIfInBounds k true) rk

theorem wpAnyK_of_tree (hsel : Region.noSelect ops = true) (hQ : ∀ c a d v w, Q (.panic c) (a.put d v) w → Q (.panic c) a w) :
    ∀ (π : Plan) (listed : Array Bool) (a : Act) (w : World), Shut ops listed → treeB ops listed π = true → (π.free = false → S w) →
      wpTree P ops Q S π a w → wpAnyK P ops Q S π.len listed a w
  | .nil, listed, a, w, hcl, hp, _, h => ⟨by simpa [treeB] using hp, h⟩
  | .float i r, listed, a, w, hcl, hp, hS, h => by
    simp only [treeB, Bool.and_eq_true] at hp
    obtain ⟨o, v, ho, hy, hr⟩ := h
    have hSw : S w := hS rfl
    refine wpAnyK_first ho (Region.noSelect_spec hsel) (fun c a w h => hQ c a _ _ w h) _ listed a w hcl (Region.free_spec ho hp.1.2) (by simpa using hp.1.1) hy hSw ?_
    exact wpAnyK_of_tree hsel hQ r _ _ _ (shut_set hcl (by simpa using hp.1.1)) hp.2 (fun _ => hSw) hr
  | .hard i r, listed, a, w, hcl, hp, hS, h => by
    simp only [treeB, Bool.and_eq_true, beq_iff_eq] at hp
    refine ⟨fun h0 => (by rw [hp.1] at h0; cases h0), fun j hj => ?_⟩
    have hj0 := hj
    rw [hp.1] at hj
    obtain rfl : j = i := by simpa using hj
    exact wpOp_mono (fun a' w' h' => ⟨fun _ => h'.1, wpAnyK_of_tree hsel hQ r _ _ _ (shut_set hcl hj0) hp.2 (fun _ => h'.1) h'.2⟩) h
  | .last i r, listed, a, w, hcl, hp, hS, h => by
    simp only [treeB, Bool.and_eq_true, beq_iff_eq] at hp
    refine ⟨fun h0 => (by rw [hp.1.1.1] at h0; cases h0), fun j hj => ?_⟩
    have hj0 := hj
    rw [hp.1.1.1] at hj
    obtain rfl : j = i := by simpa using hj
    exact wpOp_mono (fun a' w' h' => ⟨fun hs => (by rw [hp.1.1.2] at hs; cases hs), wpAnyK_of_tree hsel hQ r _ _ _ (shut_set hcl hj0) hp.2 (fun hall => by rw [hp.1.2] at hall; cases hall) h'⟩) h
  | .fork2 i ri j rj, listed, a, w, hcl, hp, hS, h => by
    simp only [treeB, Bool.and_eq_true, beq_iff_eq] at hp
    obtain ⟨⟨⟨h1, h2⟩, h3⟩, h4⟩ := hp
    obtain ⟨k1, k2⟩ := h
    refine ⟨fun h0 => (by rw [h1] at h0; cases h0), fun z hz => ?_⟩
    have hz0 := hz
    rw [h1] at hz
    simp only [List.mem_cons, List.not_mem_nil, or_false] at hz
    rcases hz with rfl | rfl
    · exact wpOp_mono (fun a' w' h' => ⟨fun _ => h'.1, wpAnyK_of_tree hsel hQ ri _ _ _ (shut_set hcl hz0) h3 (fun _ => h'.1) h'.2⟩) k1
    · exact wpOp_mono (fun a' w' h' => ⟨fun _ => h'.1, by show wpAnyK P ops Q S ri.len _ _ _; rw [h2]; exact wpAnyK_of_tree hsel hQ rj _ _ _ (shut_set hcl hz0) h4 (fun _ => h'.1) h'.2⟩) k2
  | .fork3 i ri j rj k rk, listed, a, w, hcl, hp, hS, h => by
    simp only [treeB, Bool.and_eq_true, beq_iff_eq] at hp
    obtain ⟨⟨⟨⟨⟨h1, h2⟩, h2'⟩, h3⟩, h4⟩, h5⟩ := hp
    obtain ⟨k1, k2, k3⟩ := h
    refine ⟨fun h0 => (by rw [h1] at h0; cases h0), fun z hz => ?_⟩
    have hz0 := hz
    rw [h1] at hz
    simp only [List.mem_cons, List.not_mem_nil, or_false] at hz
    rcases hz with rfl | rfl | rfl
    · exact wpOp_mono (fun a' w' h' => ⟨fun _ => h'.1, wpAnyK_of_tree hsel hQ ri _ _ _ (shut_set hcl hz0) h3 (fun _ => h'.1) h'.2⟩) k1
    · exact wpOp_mono (fun a' w' h' => ⟨fun _ => h'.1, by show wpAnyK P ops Q S ri.len _ _ _; rw [h2]; exact wpAnyK_of_tree hsel hQ rj _ _ _ (shut_set hcl hz0) h4 (fun _ => h'.1) h'.2⟩) k2
    · exact wpOp_mono (fun a' w' h' => ⟨fun _ => h'.1, by show wpAnyK P ops Q S ri.len _ _ _; rw [h2']; exact wpAnyK_of_tree hsel hQ rk _ _ _ (shut_set hcl hz0) h5 (fun _ => h'.1) h'.2⟩) k3

/-- THE BEGINNING. -/
theorem wp_region_tree {id : Nat} {a : Act} {w : World} (S : World → Prop) (π : Plan) (hm : P.follows .mixedOrders = true) (hsel : Region.noSelect ops = true)
    (hp : treeB ops (Array.replicate ops.size false) π = true) (hl : π.len = ops.size) (hS : S w.drew)
    (hQ : ∀ c a d v w, Q (.panic c) (a.put d v) w → Q (.panic c) a w) (h : wpTree P ops Q S π a w.drew) : (Code.region id ops true).wp P Q a w := by
  refine wp_region_any hm (wpAny_of_K _ _ _ _ (?_ : wpAnyK P ops Q S ops.size (Array.replicate ops.size false) a w.drew))
  have := wpAnyK_of_tree hsel hQ π _ a w.drew shut_start hp (fun _ => hS) h
  rw [hl] at this
  exact this
theorem tr_nil {a : Act} {w : World} (h : Q .normal a w) : wpTree P ops Q S .nil a w := h
variable {i : Nat} {dst : Option Tmp} {op : Op} {ty : TypeId} {pos : String} {after : Array Edge} {guard : Option (Nat × Bool)} {rest : Plan} {a : Act} {w : World}
theorem tr_float {v : Value} (ho : ops[i]? = some ⟨dst, op, ty, pos, after, guard⟩) (hw : Region.wanted ⟨dst, op, ty, pos, after, guard⟩ (yielded ops a.tmps) = true)
    (hy : ∀ w', S w' → (execOp a.eval ⟨dst, op, ty, pos, after, guard⟩).run P w' = .ok (.value v) w') (h : wpTree P ops Q S rest (a.put dst v) w) : wpTree P ops Q S (.float i rest) a w :=
  ⟨_, v, ho, .inl ⟨hw, hy⟩, h⟩
theorem tr_skip (ho : ops[i]? = some ⟨dst, op, ty, pos, after, guard⟩) (hw : Region.wanted ⟨dst, op, ty, pos, after, guard⟩ (yielded ops a.tmps) = false)
    (h : wpTree P ops Q S rest (a.put dst undef) w) : wpTree P ops Q S (.float i rest) a w :=
  ⟨_, undef, ho, .inr ⟨hw, rfl⟩, h⟩
theorem tr_hard (ho : ops[i]? = some ⟨dst, op, ty, pos, after, guard⟩) (hw : Region.wanted ⟨dst, op, ty, pos, after, guard⟩ (yielded ops a.tmps) = true)
    (h : ∀ K : Act → World → Prop, (∀ a w, S w ∧ wpTree P ops Q S rest a w → K a w) → Oper.wp P ⟨dst, op, ty, pos, after, guard⟩ a w K Q) : wpTree P ops Q S (.hard i rest) a w := by
  show wpOp P ops Q i _ a w
  unfold wpOp
  simp only [ho]
  rw [if_pos hw]
  exact .inl (h _ (fun _ _ h => h))
theorem tr_last (ho : ops[i]? = some ⟨dst, op, ty, pos, after, guard⟩) (hw : Region.wanted ⟨dst, op, ty, pos, after, guard⟩ (yielded ops a.tmps) = true)
    (h : ∀ K : Act → World → Prop, (∀ a w, wpTree P ops Q S rest a w → K a w) → Oper.wp P ⟨dst, op, ty, pos, after, guard⟩ a w K Q) : wpTree P ops Q S (.last i rest) a w := by
  show wpOp P ops Q i _ a w
  unfold wpOp
  simp only [ho]
  rw [if_pos hw]
  exact .inl (h _ (fun _ _ h => h))
theorem tr_fork2 {ri rj : Plan} {j : Nat} (h1 : wpTree P ops Q S (.hard i ri) a w) (h2 : wpTree P ops Q S (.hard j rj) a w) : wpTree P ops Q S (.fork2 i ri j rj) a w := ⟨h1, h2⟩
theorem tr_fork3 {ri rj rk : Plan} {j k : Nat} (h1 : wpTree P ops Q S (.hard i ri) a w) (h2 : wpTree P ops Q S (.hard j rj) a w) (h3 : wpTree P ops Q S (.hard k rk) a w) : wpTree P ops Q S (.fork3 i ri j rj k rk) a w := ⟨h1, h2, h3⟩
end
end Go.Proofs.Ytkbeihkjhmillaa
