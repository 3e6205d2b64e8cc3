/-
  PLAIN: a region that draws its order, whose operations may come in very many orders: each operation is looked at once, wherever it comes; the last one waits for all others.
-/
import Derived.Test.YtllenfkbfeanmaaGreatBaseSa
namespace Go.Proofs.YtllenfkbfeanmaaGreat
open Go.RowKit
set_option linter.unusedSimpArgs false
set_option linter.unusedVariables false

section
variable {P : Program} {ops : Array Oper} {Q : Exit → Act → World → Prop}
def dstO (ops : Array Oper) (i : Nat) : Option Nat := match ops[i]? with | some o => o.dst | none => none
/-- Of what is listed the temporaries hold the values vs; the others are as at the beginning. -/
structure Held (ops : Array Oper) (base : Act) (listed : Array Bool) (vs : Nat → Value) (a : Act) : Prop where
  dfr : a.defers = base.defers
  size : a.tmps.size = base.tmps.size
  old : ∀ t, (∀ i, listed.getD i false = true → dstO ops i ≠ some t) → a.eval (.tmp t) = base.eval (.tmp t)
  new : ∀ i t, listed.getD i false = true → dstO ops i = some t → a.eval (.tmp t) = vs i
def softB (ops : Array Oper) (n : Nat) : Bool :=
  (List.range ops.size).all fun i => (needsB ops i).all (fun k => decide (k < i)) && (match dstO ops i with | none => true | some t => decide (t < n)) && (List.range i).all (fun j => match dstO ops i, dstO ops j with | some t, some u => decide (t ≠ u) | _, _ => true)
theorem soft_spec {n : Nat} (h : softB ops n = true) {i : Nat} (hi : i < ops.size) : (∀ k, k ∈ needsB ops i → k < i) ∧ (∀ t, dstO ops i = some t → t < n) ∧ ∀ j t, j < i → dstO ops i = some t → dstO ops j ≠ some t := by
  unfold softB at h
  rw [List.all_eq_true] at h
  have h1 := h i (List.mem_range.2 hi)
  rw [Bool.and_eq_true, Bool.and_eq_true, List.all_eq_true, List.all_eq_true] at h1
  obtain ⟨⟨h2, h3⟩, h4⟩ := h1
  refine ⟨fun k hk => by simpa using h2 k hk, fun t ht => by rw [ht] at h3; simpa using h3, fun j t hj ht e => ?_⟩
  have := h4 j (List.mem_range.2 hj)
  rw [ht, e] at this
  simp at this
theorem dstO_lt {i t : Nat} (h : dstO ops i = some t) : i < ops.size := by
  unfold dstO at h
  cases ho : ops[i]? with
  | none => rw [ho] at h; cases h
  | some o => exact (Array.getElem?_eq_some_iff.1 ho).1
theorem dst_ne {n : Nat} (h : softB ops n = true) {i j t : Nat} (hij : i ≠ j) (hi : dstO ops i = some t) : dstO ops j ≠ some t := by
  intro hj
  rcases Nat.lt_or_gt_of_ne hij with h1 | h1
  · exact (soft_spec h (dstO_lt hj)).2.2 i t h1 hj hi
  · exact (soft_spec h (dstO_lt hi)).2.2 j t h1 hi hj
theorem getD_set_eq {listed : Array Bool} {i : Nat} (hi : i < listed.size) : (listed.setIfInBounds i true).getD i false = true := by
  simp [Array.getD_eq_getD_getElem?, Array.getElem?_setIfInBounds, hi]
theorem getD_set_or {listed : Array Bool} {i k : Nat} (h : (listed.setIfInBounds i true).getD k false = true) : k = i ∨ listed.getD k false = true := by
  by_cases hk : i = k
  · exact .inl hk.symm
  · rw [getD_set_ne false hk] at h; exact .inr h
theorem eval_put {a : Act} {t u : Nat} {v : Value} (ht : t < a.tmps.size) : (a.put (some t) v).eval (.tmp u) = if t = u then v else a.eval (.tmp u) := by
  show (a.tmps.setIfInBounds t v).getD u undef = _
  simp only [Array.getD_eq_getD_getElem?, Array.getElem?_setIfInBounds]
  split
  · simp [ht]
  · show _ = a.tmps.getD u undef
    rw [Array.getD_eq_getD_getElem?]
theorem Held.put {n : Nat} {base a : Act} {listed : Array Bool} {vs : Nat → Value} (hb : softB ops n = true) (hn : base.tmps.size = n) (hl : listed.size = ops.size) (h : Held ops base listed vs a) {i : Nat} (hi : i < ops.size) (hu : listed.getD i false = false) (v : Value) :
    Held ops base (listed.setIfInBounds i true) (fun k => if k = i then v else vs k) (a.put (dstO ops i) v) := by
  cases hd : dstO ops i with
  | none =>
    refine ⟨h.dfr, h.size, fun t ht => h.old t (fun j hj => ht j (getD_keep hj)), fun j t hj ht => ?_⟩
    rcases getD_set_or hj with rfl | hj2
    · rw [hd] at ht; cases ht
    · have hne : j ≠ i := fun e => by rw [e, hu] at hj2; cases hj2
      simp only [hne, if_false]
      exact h.new j t hj2 ht
  | some t0 =>
    have hlt : t0 < a.tmps.size := by rw [h.size, hn]; exact (soft_spec hb hi).2.1 t0 hd
    refine ⟨h.dfr, by show (a.tmps.setIfInBounds t0 v).size = _; simp [h.size], fun t ht => ?_, fun j t hj ht => ?_⟩
    · rw [eval_put hlt, if_neg (fun e => ht i (getD_set_eq (by omega)) (by rw [hd, e]))]
      exact h.old t (fun j hj => ht j (getD_keep hj))
    · rw [eval_put hlt]
      rcases getD_set_or hj with rfl | hj2
      · rw [hd] at ht
        simp only [Option.some.injEq] at ht
        subst ht
        simp
      · have hne : j ≠ i := fun e => by rw [e, hu] at hj2; cases hj2
        rw [if_neg (fun e => by subst e; exact dst_ne hb hne ht hd)]
        simp only [hne, if_false]
        exact h.new j t hj2 ht
def unl (listed : Array Bool) : Nat → Nat
  | 0 => 0
  | n + 1 => unl listed n + if listed.getD n false = true then 0 else 1
theorem unl_zero {listed : Array Bool} : ∀ {n : Nat}, unl listed n = 0 → ∀ i, i < n → listed.getD i false = true
  | 0, _, i, hi => absurd hi (Nat.not_lt_zero _)
  | n + 1, h, i, hi => by
    rw [unl] at h
    by_cases hin : i = n
    · subst hin
      cases hq : listed.getD i false with
      | true => rfl
      | false => rw [hq] at h; simp at h
    · exact unl_zero (n := n) (by omega) i (by omega)
theorem unl_set {listed : Array Bool} {i : Nat} (hs : i < listed.size) (hu : listed.getD i false = false) : ∀ {n : Nat}, unl (listed.setIfInBounds i true) n + (if i < n then 1 else 0) = unl listed n
  | 0 => by simp [unl]
  | n + 1 => by
    have ih := unl_set hs hu (n := n)
    rw [unl, unl]
    by_cases hin : i = n
    · subst hin
      rw [getD_set_eq hs, hu]
      simp at ih ⊢
      omega
    · rw [getD_set_ne false hin]
      by_cases h1 : i < n
      · rw [show (if i < n then 1 else 0 : Nat) = 1 from if_pos h1] at ih
        rw [show (if i < n + 1 then 1 else 0 : Nat) = 1 from if_pos (by omega)]
        omega
      · rw [show (if i < n then 1 else 0 : Nat) = 0 from if_neg h1] at ih
        rw [show (if i < n + 1 then 1 else 0 : Nat) = 0 from if_neg (by omega)]
        omega
theorem unl_all (ops : Array Oper) : ∀ n, unl (Array.replicate ops.size false) n = n
  | 0 => rfl
  | n + 1 => by
    rw [unl, unl_all ops n]
    have : (Array.replicate ops.size false).getD n false = false := by
      simp only [Array.getD_eq_getD_getElem?, Array.getElem?_replicate]
      split <;> rfl
    rw [this]
    simp
theorem getD_both {listed : Array Bool} {j : Nat} (h : j < listed.size) : listed.getD j true = listed.getD j false := by
  simp [Array.getD_eq_getD_getElem?, h]
theorem ready_unlisted {listed : Array Bool} (hl : listed.size = ops.size) {j : Nat} (h : j ∈ Region.ready .any ops listed) : j < ops.size ∧ listed.getD j false = false ∧ ∀ k, k ∈ needsB ops j → listed.getD k false = true := by
  obtain ⟨h1, o, ho, h2⟩ := mem_ready.1 h
  have hj : j < ops.size := (Array.getElem?_eq_some_iff.1 ho).1
  refine ⟨hj, by rw [← getD_both (by omega)]; exact h1, fun k hk => ?_⟩
  unfold needsB at hk
  rw [ho] at hk
  simp only [List.mem_map, List.mem_filter, Array.mem_toList_iff] at hk
  obtain ⟨e, ⟨he, hb⟩, rfl⟩ := hk
  exact h2 e he hb
theorem ready_of {listed : Array Bool} (hl : listed.size = ops.size) {j : Nat} (hj : j < ops.size) (hu : listed.getD j false = false) (hn : ∀ k, k ∈ needsB ops j → listed.getD k false = true) : j ∈ Region.ready .any ops listed := by
  refine mem_ready.2 ⟨by rw [getD_both (by omega)]; exact hu, ops[j], Array.getElem?_eq_getElem hj, fun e he hb => hn e.on ?_⟩
  unfold needsB
  rw [Array.getElem?_eq_getElem hj]
  simp only [List.mem_map, List.mem_filter, Array.mem_toList_iff]
  exact ⟨e, ⟨he, hb⟩, rfl⟩
/-- While not all are listed, one may come up. -/
theorem some_ready {n : Nat} (hb : softB ops n = true) {listed : Array Bool} (hl : listed.size = ops.size) (hr : Region.ready .any ops listed = []) : ∀ m i, i < m → i < ops.size → listed.getD i false = true
  | 0, i, h, _ => absurd h (Nat.not_lt_zero _)
  | m + 1, i, h, hi => by
    cases hq : listed.getD i false with
    | true => rfl
    | false =>
      have := ready_of hl hi hq (fun k hk => by
        have hki := (soft_spec hb hi).1 k hk
        exact some_ready hb hl hr m k (by omega) (by omega))
      rw [hr] at this
      cases this
theorem sink_all {listed : Array Bool} (hcl : Shut ops listed) {z : Nat} (hz : sinkB ops z = true) (hn : ∀ k, k ∈ needsB ops z → listed.getD k false = true) (k : Nat) (hk : k < ops.size) (hkz : k ≠ z) : listed.getD k false = true := by
  simp only [sinkB, List.all_eq_true, List.mem_range] at hz
  have h1 := hz k hk
  simp only [Bool.or_eq_true, beq_iff_eq, hkz, false_or] at h1
  exact reach_listed hcl _ z k hn h1
/-- THE LAW. I: what is known while the last operation z has not come; F: behind it. -/
theorem wp_region_soft {id : Nat} {a : Act} {w : World} (z n : Nat) (I : Array Bool → (Nat → Value) → World → Prop) (F : (Nat → Value) → World → Prop) (hm : P.follows .mixedOrders = true)
    (hb : softB ops n = true) (hn : a.tmps.size = n) (hz : sinkB ops z = true) (hzs : z < ops.size) (h0 : I (Array.replicate ops.size false) (fun _ => undef) w.drew)
    (hop : ∀ i, i < ops.size → i ≠ z → ∀ listed vs b w', listed.size = ops.size → listed.getD i false = false → (∀ j, (needsB ops i).contains j = true → listed.getD j false = true) → Held ops a listed vs b → I listed vs w' →
      ∀ K : Act → World → Prop, (∀ v w'', I (listed.setIfInBounds i true) (fun k => if k = i then v else vs k) w'' → K (b.put (dstO ops i) v) w'') → wpOp P ops Q i K b w')
    (hla : ∀ listed vs b w', (∀ j, j < ops.size → j ≠ z → listed.getD j false = true) → Held ops a listed vs b → I listed vs w' →
      ∀ K : Act → World → Prop, (∀ v w'', F (fun k => if k = z then v else vs k) w'' → K (b.put (dstO ops z) v) w'') → wpOp P ops Q z K b w')
    (hend : ∀ listed vs b w', (∀ j, j < ops.size → listed.getD j false = true) → Held ops a listed vs b → F vs w' → Q .normal b w') : (Code.region id ops true).wp P Q a w := by
  have key : ∀ fuel listed vs b w', listed.size = ops.size → unl listed ops.size ≤ fuel → Shut ops listed → Held ops a listed vs b → (listed.getD z false = false ∧ I listed vs w' ∨ (∀ j, j < ops.size → listed.getD j false = true) ∧ F vs w') → wpAny P .any ops Q fuel listed b w' := by
    intro fuel
    induction fuel with
    | zero =>
      intro listed vs b w' hl hu hcl hh hj
      have hall := unl_zero (listed := listed) (n := ops.size) (by omega)
      have hr : Region.ready .any ops listed = [] := by
        rw [List.eq_nil_iff_forall_not_mem]
        intro j hj
        obtain ⟨h1, h2, _⟩ := ready_unlisted hl hj
        rw [hall j h1] at h2
        cases h2
      refine ⟨hr, ?_⟩
      rcases hj with ⟨h1, _⟩ | ⟨_, h2⟩
      · rw [hall z hzs] at h1; cases h1
      · exact hend listed vs b w' hall hh h2
    | succ fuel ih =>
      intro listed vs b w' hl hu hcl hh hj
      refine ⟨fun hr => ?_, fun i hi => ?_⟩
      · have hall := fun j h => some_ready hb hl hr ops.size j h h
        rcases hj with ⟨h1, _⟩ | ⟨_, h2⟩
        · rw [hall z hzs] at h1; cases h1
        · exact hend listed vs b w' hall hh h2
      · obtain ⟨his, hiu, hin⟩ := ready_unlisted hl hi
        have hl2 : (listed.setIfInBounds i true).size = ops.size := by simp [hl]
        have hu2 : unl (listed.setIfInBounds i true) ops.size ≤ fuel := by
          have := unl_set (listed := listed) (i := i) (by omega) hiu (n := ops.size)
          rw [if_pos his] at this
          omega
        have hcl2 := shut_set hcl hi
        rcases hj with ⟨h1, h2⟩ | ⟨h1, _⟩
        · by_cases hiz : i = z
          · subst hiz
            refine hla listed vs b w' (fun j hj hjz => sink_all hcl hz hin j hj hjz) hh h2 _ (fun v w'' hF => ?_)
            refine ih _ _ _ _ hl2 hu2 hcl2 (Held.put hb hn hl hh his hiu v) (.inr ⟨fun j hj => ?_, hF⟩)
            by_cases hji : j = i
            · subst hji; exact getD_set_eq (by omega)
            · exact getD_keep (sink_all hcl hz hin j hj hji)
          · refine hop i his hiz listed vs b w' hl hiu (fun j hj => hin j (by simpa using hj)) hh h2 _ (fun v w'' hI => ?_)
            refine ih _ _ _ _ hl2 hu2 hcl2 (Held.put hb hn hl hh his hiu v) (.inl ⟨?_, hI⟩)
            rw [getD_set_ne false hiz]
            exact h1
        · rw [h1 i his] at hiu; cases hiu
  refine wp_region_any hm (key ops.size _ _ _ _ (by simp) (by rw [unl_all]; exact Nat.le_refl _) shut_start ⟨rfl, rfl, fun t _ => rfl, fun i t hi => ?_⟩ (.inl ⟨?_, h0⟩))
  · have : (Array.replicate ops.size false).getD i false = false := by
      simp only [Array.getD_eq_getD_getElem?, Array.getElem?_replicate]
      split <;> rfl
    rw [this] at hi; cases hi
  · simp only [Array.getD_eq_getD_getElem?, Array.getElem?_replicate]
    split <;> rfl
theorem soft_op {i : Nat} {o : Oper} {K : Act → World → Prop} {a : Act} {w : World} (ho : ops[i]? = some o) (hg : Region.wanted o (yielded ops a.tmps) = true) (h : Oper.wp P o a w K Q) : wpOp P ops Q i K a w := by
  unfold wpOp
  simp only [ho]
  rw [if_pos hg]
  exact .inl h
theorem soft_pure {i : Nat} {o : Oper} {v : Value} {K : Act → World → Prop} {a : Act} {w : World} (ho : ops[i]? = some o) (hg : Region.wanted o (yielded ops a.tmps) = true) (hr : (execOp a.eval o).run P w = .ok (.value v) w) (h : K (a.put o.dst v) w) : wpOp P ops Q i K a w :=
  YieldsIf.wpOp (S := fun w' => w' = w) ho (.inl ⟨hg, fun w' e => by rw [e]; exact hr⟩) rfl h
theorem soft_upd {G : Nat → Value → World → Prop} {listed : Array Bool} {vs : Nat → Value} {w w' : World} {i : Nat} {v : Value} (h : ∀ j, listed.getD j false = true → G j (vs j) w) (hm : ∀ j u, G j u w → G j u w') (hv : G i v w') :
    ∀ j, (listed.setIfInBounds i true).getD j false = true → G j (if j = i then v else vs j) w' := fun j hj => by
  by_cases e : j = i
  · rw [if_pos e, e]; exact hv
  · rw [if_neg e]
    rcases getD_set_or hj with h1 | h1
    · exact absurd h1 e
    · exact hm j _ (h j h1)
theorem not_dst {t : Nat} (h : (List.range ops.size).all (fun i => !(dstO ops i == some t)) = true) (i : Nat) : dstO ops i ≠ some t := fun e => by
  rw [List.all_eq_true] at h
  have := h i (List.mem_range.2 (dstO_lt e))
  rw [e] at this
  simp at this
end
end Go.Proofs.YtllenfkbfeanmaaGreat

