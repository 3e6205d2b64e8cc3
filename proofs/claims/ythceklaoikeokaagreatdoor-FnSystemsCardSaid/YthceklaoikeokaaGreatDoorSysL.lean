/-
  PLAIN LAW for FnSystems: answers are as many as are counted; what is reduced stays; the refutation refutes.
-/
import Derived.Test.YthceklaoikeokaaGreatDoorDerP
import Derived.Test.YthceklaoikeokaaGreatDoorEqsP
namespace Go.Proofs.YthceklaoikeokaaGreatDoor
open Go.RowKit
set_option linter.unusedSimpArgs false
set_option linter.unusedVariables false

/-! ### Counting -/
theorem nodup_le {α : Type} [DecidableEq α] : ∀ {l m : List α}, l.Nodup → (∀ x, x ∈ l → x ∈ m) → l.length ≤ m.length
  | [], m, _, _ => Nat.zero_le _
  | a :: l, m, hn, h => by
    have ha : a ∈ m := h a (List.mem_cons_self ..)
    have h2 := nodup_le (l := l) (m := m.erase a) (List.nodup_cons.1 hn).2 (fun x hx => by
      have hne : x ≠ a := fun e => (List.nodup_cons.1 hn).1 (e ▸ hx)
      exact (List.mem_erase_of_ne hne).2 (h x (List.mem_cons_of_mem _ hx)))
    rw [List.length_erase_of_mem ha] at h2
    have : 0 < m.length := List.length_pos_of_mem ha
    simp only [List.length_cons]; omega
theorem extL_nodup (p : Nat) : ∀ (m : Nat) (v : List Int), (extL p m v).Nodup
  | 0, v => by simp [extL]
  | m + 1, v => by
    rw [extL]
    unfold List.Nodup
    rw [List.pairwise_flatMap]
    refine ⟨fun a _ => extL_nodup p m _, ?_⟩
    refine List.Pairwise.imp ?_ List.pairwise_lt_range
    intro a b hab x hx y hy e
    obtain ⟨u, e1, _⟩ := extL_mem p m _ x hx
    obtain ⟨u', e2, _⟩ := extL_mem p m _ y hy
    rw [e1, e2, List.append_assoc, List.append_assoc] at e
    have e3 := List.append_cancel_left e
    simp only [List.cons_append, List.nil_append, List.cons.injEq] at e3
    have := e3.1
    omega
/-- Zero where rows begin. -/
def zeroAt (bs : List Int) (t : List Int) : Bool := bs.all (fun b => t.getD b.toNat 0 == 0)
def freeC (bs : List Int) : Nat → Nat → Nat
  | 0, _ => 0
  | m + 1, n => (if bs.any (fun b => b.toNat == n) then 0 else 1) + freeC bs m (n + 1)
theorem filter_none {α : Type} {q : α → Bool} {l : List α} (h : ∀ x, x ∈ l → q x = false) : l.filter q = [] := by
  rw [List.filter_eq_nil_iff]
  intro x hx h2
  rw [h x hx] at h2
  cases h2
theorem zero_count (p : Nat) (hp : 0 < p) (bs : List Int) : ∀ (m : Nat) (v : List Int), (∀ b, b ∈ bs → b.toNat < v.length → v.getD b.toNat 0 = 0) → (∀ b, b ∈ bs → b.toNat < v.length + m) →
    ((extL p m v).filter (zeroAt bs)).length = p ^ freeC bs m v.length
  | 0, v, h, hb => by
    have hz : zeroAt bs v = true := by
      unfold zeroAt
      rw [List.all_eq_true]
      intro b hm
      rw [h b hm (by have := hb b hm; omega)]
      rfl
    simp [extL, freeC, hz]
  | m + 1, v, h, hb => by
    have hsnoc : ∀ a : Nat, (∀ b, b ∈ bs → b.toNat = v.length → (a : Int) = 0) → ((extL p m (v ++ [(a : Int)])).filter (zeroAt bs)).length = p ^ freeC bs m (v.length + 1) := fun a ha => by
      have := zero_count p hp bs m (v ++ [(a : Int)]) (fun b hm hl => by
        rw [List.length_append, List.length_singleton] at hl
        rcases Nat.lt_or_ge b.toNat v.length with h1 | h1
        · have := h b hm h1
          simpa [List.getD, List.getElem?_append_left h1] using this
        · have e : b.toNat = v.length := by omega
          have := ha b hm e
          simp [List.getD, e, this]) (fun b hm => by rw [List.length_append, List.length_singleton]; have := hb b hm; omega)
      rwa [List.length_append, List.length_singleton] at this
    rw [extL, List.filter_flatMap, List.length_flatMap, freeC]
    cases hq : bs.any (fun b => b.toNat == v.length) with
    | false =>
      have hno : ∀ b, b ∈ bs → b.toNat ≠ v.length := fun b hm e => by
        have : bs.any (fun b => b.toNat == v.length) = true := List.any_eq_true.2 ⟨b, hm, by simp [e]⟩
        rw [hq] at this; cases this
      have e1 : (List.range p).map (fun a => ((extL p m (v ++ [((a : Nat) : Int)])).filter (zeroAt bs)).length) = List.replicate p (p ^ freeC bs m (v.length + 1)) := by
        apply List.ext_getElem
        · simp
        · intro i h1 h2
          simp only [List.getElem_map, List.getElem_range, List.getElem_replicate]
          exact hsnoc i (fun b hm e => absurd e (hno b hm))
      rw [e1, sum_rep]
      simp only [Bool.false_eq_true, if_false]
      rw [Nat.add_comm 1, Nat.pow_succ, Nat.mul_comm]
    | true =>
      obtain ⟨b, hm, hb2⟩ := List.any_eq_true.1 hq
      have e2 : b.toNat = v.length := by simpa using hb2
      have hz : ∀ a : Nat, 0 < a → (extL p m (v ++ [(a : Int)])).filter (zeroAt bs) = [] := fun a ha => filter_none (fun t ht => by
        obtain ⟨u, rfl, _⟩ := extL_mem p m _ t ht
        unfold zeroAt
        rw [List.all_eq_false]
        refine ⟨b, hm, ?_⟩
        rw [e2]
        simp [List.getD]
        omega)
      obtain ⟨q, rfl⟩ : ∃ q, p = q + 1 := ⟨p - 1, by omega⟩
      rw [List.range_succ_eq_map, List.map_cons, List.sum_cons, hsnoc 0 (fun _ _ _ => rfl)]
      have e3 : ((List.map Nat.succ (List.range q)).map (fun a => ((extL (q + 1) m (v ++ [((a : Nat) : Int)])).filter (zeroAt bs)).length)).sum = 0 := by
        rw [List.map_map]
        apply List.sum_eq_zero_iff_forall_eq_nat.2
        intro x hx
        obtain ⟨a, _, rfl⟩ := List.mem_map.1 hx
        show ((extL (q + 1) m (v ++ [((a + 1 : Nat) : Int)])).filter (zeroAt bs)).length = 0
        rw [hz (a + 1) (by omega)]
        rfl
      rw [e3]
      simp
theorem free_len (bs : List Int) : ∀ (m n : Nat), freeC bs m n + ((List.range' n m).filter (fun c => bs.any (fun b => b.toNat == c))).length = m
  | 0, n => by simp [freeC]
  | m + 1, n => by
    have ih := free_len bs m (n + 1)
    rw [List.range'_succ, List.filter_cons, freeC]
    split
    · rename_i h
      simp only [List.length_cons]
      omega
    · rename_i h
      omega
theorem free_all {bs : List Int} {U : Nat} (hd : ∀ i j (hi : i < bs.length) (hj : j < bs.length), i ≠ j → bs[i] ≠ bs[j]) (hb : ∀ b, b ∈ bs → 0 ≤ b ∧ b < U) : freeC bs U 0 = U - bs.length ∧ bs.length ≤ U := by
  have h := free_len bs U 0
  have hn : (bs.map Int.toNat).Nodup := by
    unfold List.Nodup
    rw [List.pairwise_map, List.pairwise_iff_getElem]
    intro i j hi hj hij e
    have h1 := hb _ (List.getElem_mem hi)
    have h2 := hb _ (List.getElem_mem hj)
    exact hd i j hi hj (by omega) (by omega)
  have h1 : (bs.map Int.toNat).length ≤ ((List.range' 0 U).filter (fun c => bs.any (fun b => b.toNat == c))).length := nodup_le hn (fun x hx => by
    obtain ⟨b, hm, rfl⟩ := List.mem_map.1 hx
    rw [List.mem_filter, List.mem_range'_1]
    have := hb b hm
    exact ⟨by omega, List.any_eq_true.2 ⟨b, hm, by simp⟩⟩)
  have hn2 : ((List.range' 0 U).filter (fun c => bs.any (fun b => b.toNat == c))).Nodup := List.Pairwise.filter _ (by
    have := @List.pairwise_lt_range' 0 U 1 (by omega)
    exact List.Pairwise.imp (fun h => by omega) this)
  have h2 : ((List.range' 0 U).filter (fun c => bs.any (fun b => b.toNat == c))).length ≤ (bs.map Int.toNat).length := nodup_le hn2 (fun x hx => by
    rw [List.mem_filter] at hx
    obtain ⟨b, hm, hb2⟩ := List.any_eq_true.1 hx.2
    exact List.mem_map.2 ⟨b, hm, by simpa using hb2⟩)
  rw [List.length_map] at h1 h2
  omega
theorem elim_bs {s : Sys} (hv : validS s = true) : (∀ i j (hi : i < (elimS s).2.length) (hj : j < (elimS s).2.length), i ≠ j → (elimS s).2[i] ≠ (elimS s).2[j]) ∧ ∀ b, b ∈ (elimS s).2 → 0 ≤ b ∧ b < s.2.1.toNat := by
  have K := elim_ok hv
  refine ⟨fun i j hi hj hij => bs_ne K.rref hi hj hij, fun b hb => ?_⟩
  obtain ⟨j, hj⟩ := List.mem_iff_getElem?.1 hb
  exact K.rref.bnd j b hj
theorem getD_zeroAt {bs t : List Int} (h : zeroAt bs t = true) : ∀ j (hj : j < bs.length), t.getD bs[j].toNat 0 = 0 := fun j hj => by
  unfold zeroAt at h
  rw [List.all_eq_true] at h
  simpa using h _ (List.getElem_mem hj)
/-- As many answers as are counted. -/
theorem answers_count {s : Sys} (hv : validS s = true) (hf : ¬ 0 ≤ falseS s) : ((answersS s).length : Int) = (countF s).1 := by
  have K := elim_ok hv
  have hp := K.hp
  have hu := K.hu
  obtain ⟨hd, hb⟩ := elim_bs hv
  obtain ⟨hfr, hle⟩ := free_all hd hb
  have hT := zero_count s.1.toNat (by omega) (elimS s).2 s.2.1.toNat [] (fun b _ h => absurd h (Nat.not_lt_zero _)) (fun b hm => by have := hb b hm; simp only [List.length_nil]; omega)
  simp only [List.length_nil] at hT
  rw [hfr] at hT
  generalize hTT : (extL s.1.toNat s.2.1.toNat []).filter (zeroAt (elimS s).2) = T at hT
  have hTm : ∀ t, t ∈ T → t.length = s.2.1.toNat ∧ Res s.1 t ∧ zeroAt (elimS s).2 t = true := fun t ht => by
    rw [← hTT, List.mem_filter] at ht
    obtain ⟨u, e, h1, h2⟩ := extL_mem _ _ _ _ ht.1
    simp only [List.nil_append] at e
    subst e
    exact ⟨h1, fun a ha => by have := h2 a ha; omega, ht.2⟩
  have hTi : ∀ t, t.length = s.2.1.toNat → Res s.1 t → zeroAt (elimS s).2 t = true → t ∈ T := fun t h1 h2 h3 => by
    rw [← hTT, List.mem_filter]
    have := extL_mem_of s.1.toNat s.2.1.toNat [] t h1 (fun a ha => by have := h2 a ha; omega)
    exact ⟨by simpa using this, h3⟩
  let F := fun t : List Int => fixTo s.1 (elimS s).1 (elimS s).2 t (elimS s).2.length
  have hnT : (T.map F).Nodup := by
    unfold List.Nodup
    rw [List.pairwise_map]
    have h0 : T.Nodup := by rw [← hTT]; exact List.Pairwise.filter _ (extL_nodup _ _ _)
    refine List.Pairwise.imp_of_mem ?_ h0
    intro t t' ht ht' hne e
    obtain ⟨a1, a2, a3⟩ := hTm t ht
    obtain ⟨b1, b2, b3⟩ := hTm t' ht'
    refine hne (List.ext_getElem (by omega) (fun c hc hc' => ?_))
    have g1 : t.getD c 0 = t[c] := by simp [List.getD, hc]
    have g2 : t'.getD c 0 = t'[c] := by simp [List.getD, hc']
    rw [← g1, ← g2]
    by_cases hb2 : ∃ j, ∃ hj : j < (elimS s).2.length, (elimS s).2[j].toNat = c
    · obtain ⟨j, hj, rfl⟩ := hb2
      rw [getD_zeroAt a3 j hj, getD_zeroAt b3 j hj]
    · have hno : ∀ j (hj : j < (elimS s).2.length), (elimS s).2[j].toNat ≠ c := fun j hj e => hb2 ⟨j, hj, e⟩
      have k1 := fixTo_free K.rref a1 hno _ (Nat.le_refl _)
      have k2 := fixTo_free K.rref b1 hno _ (Nat.le_refl _)
      rw [← k1, ← k2]
      exact congrArg (fun l : List Int => l.getD c 0) e
  have hsub1 : ∀ x, x ∈ T.map F → x ∈ answersS s := fun x hx => by
    obtain ⟨t, ht, rfl⟩ := List.mem_map.1 hx
    obtain ⟨a1, a2, a3⟩ := hTm t ht
    exact answer_at hv hf a1 a2 (getD_zeroAt a3)
  have hnA : (answersS s).Nodup := by
    rw [answersS_ext]
    exact List.Pairwise.filter _ (extL_nodup _ _ _)
  have hsub2 : ∀ v, v ∈ answersS s → v ∈ T.map F := fun v hm => by
    obtain ⟨v1, v2, v3⟩ := (answers_mem hv).1 hm
    let t := (List.range s.2.1.toNat).map (fun c => if (elimS s).2.any (fun b => b.toNat == c) then (0 : Int) else v.getD c 0)
    have ht1 : t.length = s.2.1.toNat := by simp [t]
    have htg : ∀ c, c < s.2.1.toNat → t.getD c 0 = if (elimS s).2.any (fun b => b.toNat == c) then (0 : Int) else v.getD c 0 := fun c hc => by simp [t, List.getD, hc]
    have ht2 : Res s.1 t := fun a ha => by
      obtain ⟨c, hc, rfl⟩ := List.mem_map.1 ha
      rw [List.mem_range] at hc
      split
      · omega
      · exact getD_res v2 c (by omega)
    have ht3 : zeroAt (elimS s).2 t = true := by
      unfold zeroAt
      rw [List.all_eq_true]
      intro b hbm
      have := hb b hbm
      rw [htg b.toNat (by omega), if_pos (List.any_eq_true.2 ⟨b, hbm, by simp⟩)]
      rfl
    refine List.mem_map.2 ⟨t, hTi t ht1 ht2 ht3, ?_⟩
    obtain ⟨w1, w2, w3⟩ := (answers_mem hv).1 (answer_at hv hf ht1 ht2 (getD_zeroAt ht3))
    have dv := (allD_sys hv v).2 v3
    have dw := (allD_sys hv _).2 w3
    show fixTo s.1 (elimS s).1 (elimS s).2 t (elimS s).2.length = v
    generalize hx : fixTo s.1 (elimS s).1 (elimS s).2 t (elimS s).2.length = x at w1 w2 w3 dw
    have key : ∀ k c : Nat, s.2.1.toNat - k ≤ c → x.getD c 0 = v.getD c 0 := by
      intro k
      induction k with
      | zero =>
        intro c hc
        simp [List.getD, show ¬ c < x.length by omega, show ¬ c < v.length by omega]
      | succ k ih =>
        intro c hc
        by_cases hcU : c < s.2.1.toNat
        · by_cases hb2 : ∃ j, ∃ hj : j < (elimS s).2.length, (elimS s).2[j].toNat = c
          · obtain ⟨j, hj, hjc⟩ := hb2
            subst hjc
            have := hb _ (List.getElem_mem hj)
            exact red_det (by omega) K.good K.rref hj w1 v1 w2 v2 dw dv (fun d hd => ih d (by omega))
          · have hno : ∀ j (hj : j < (elimS s).2.length), (elimS s).2[j].toNat ≠ c := fun j hj e => hb2 ⟨j, hj, e⟩
            have k1 := fixTo_free K.rref ht1 hno _ (Nat.le_refl _)
            rw [← hx, k1, htg c hcU, if_neg]
            intro h
            obtain ⟨b, hbm, hb3⟩ := List.any_eq_true.1 h
            obtain ⟨j, hj, rfl⟩ := List.getElem_of_mem hbm
            exact hno j hj (by simpa using hb3)
        · exact ih c (by omega)
    refine List.ext_getElem (by omega) (fun c hc hc' => ?_)
    have := key s.2.1.toNat c (by omega)
    simpa [List.getD, hc, hc'] using this
  have h1 := nodup_le hnT hsub1
  have h2 := nodup_le hnA hsub2
  rw [List.length_map, hT] at h1 h2
  have hc : (countF s).1 = s.1 ^ (s.2.1 - (elimS s).2.length).toNat := by unfold countF; rw [if_pos hv, if_neg hf]
  rw [hc, show (answersS s).length = s.1.toNat ^ (s.2.1.toNat - (elimS s).2.length) by omega, Int.natCast_pow, show ((s.1.toNat : Nat) : Int) = s.1 by omega, show (s.2.1 - ((elimS s).2.length : Int)).toNat = s.2.1.toNat - (elimS s).2.length by omega]

/-! ### What is reduced stays -/
theorem zeros_ok {p : Int} {U : Nat} (hp : p = 2 ∨ p = 3) : eqnOk p (U : Int) (List.replicate U 0, 1) = true := by
  simp only [eqnOk, valsOk, Bool.and_eq_true, decide_eq_true_eq, List.all_eq_true]
  refine ⟨⟨by simp, fun a ha => ?_⟩, inB_mk (by omega)⟩
  have := List.eq_of_mem_replicate ha
  exact inB_mk (by omega)
theorem goodS_eqn {p : Int} {U n : Nat} {r : SRow} (h : GoodS p U n r) : eqnOk p (U : Int) (r.1, r.2.1) = true := by
  simp only [eqnOk, valsOk, Bool.and_eq_true, decide_eq_true_eq, List.all_eq_true]
  have h1 := h.right
  exact ⟨⟨by rw [h.len], fun a ha => inB_mk (by have := h.res a ha; omega)⟩, inB_mk (by omega)⟩
theorem reduced_valid {s : Sys} (hv : validS s = true) : validS (reducedF s) = true := by
  have K := elim_ok hv
  have hp := K.hp
  have hu := K.hu
  have h24 : s.2.2.length ≤ 24 := by
    simp only [validS, Bool.and_eq_true, decide_eq_true_eq] at hv
    exact hv.1.2
  have eU : ((s.2.1.toNat : Nat) : Int) = s.2.1 := by omega
  have hmk : ∀ l : List Eqn, l.length ≤ 24 → (∀ e, e ∈ l → eqnOk s.1 ((s.2.1.toNat : Nat) : Int) e = true) → validS (s.1, s.2.1, l) = true := fun l hl he => by
    simp only [validS, Bool.and_eq_true, decide_eq_true_eq, List.all_eq_true]
    refine ⟨⟨⟨?_, inB_mk (by omega)⟩, hl⟩, fun e h => by rw [← eU]; exact he e h⟩
    rcases hp with h | h <;> rw [h] <;> decide
  by_cases hf : 0 ≤ falseS s
  · rw [reducedF_yes hf]
    exact hmk _ (by simp) (fun e he => by simp only [List.mem_singleton] at he; subst he; exact zeros_ok hp)
  · rw [reducedF_no hf]
    have hle := K.le
    refine hmk _ (by rw [redTo_length _ _ K.rref.le]; omega) (fun e he => ?_)
    unfold redTo at he
    obtain ⟨r, hr, rfl⟩ := List.mem_map.1 he
    exact goodS_eqn (K.good r (List.mem_of_mem_take hr))
theorem reduced_dims (s : Sys) : (reducedF s).1 = s.1 ∧ (reducedF s).2.1 = s.2.1 := by unfold reducedF; exact ⟨rfl, rfl⟩
theorem zeros_res (p : Int) (hp : 0 < p) (U : Nat) : Res p (List.replicate U 0) := fun a ha => by have := List.eq_of_mem_replicate ha; omega
/-- Some answer. -/
theorem some_answer {s : Sys} (hv : validS s = true) (hf : ¬ 0 ≤ falseS s) : fixTo s.1 (elimS s).1 (elimS s).2 (List.replicate s.2.1.toNat 0) (elimS s).2.length ∈ answersS s :=
  answer_at hv hf (by simp) (zeros_res _ (by have := (elim_ok hv).hp; omega) _) (fun j hj => getD_repl0 _ _)
theorem falseS_reduced {s : Sys} (hv : validS s = true) (hf : 0 ≤ falseS s) : 0 ≤ falseS (reducedF s) := by
  refine Decidable.byContradiction fun h => ?_
  have hm := some_answer (reduced_valid hv) h
  obtain ⟨v, h1⟩ : ∃ v, (reducedF s).2.2.all (holdsE (reducedF s).1 v) = true := ⟨_, ((answers_mem (reduced_valid hv)).1 hm).2.2⟩
  rw [(reduced_dims s).1, reduced_all hv] at h1
  exact falseS_ans (wideS_of hv) h1 hf
theorem falseS_reduced_no {s : Sys} (hv : validS s = true) (hf : ¬ 0 ≤ falseS s) : ¬ 0 ≤ falseS (reducedF s) := by
  have h1 := ((answers_mem hv).1 (some_answer hv hf)).2.2
  rw [← reduced_all hv] at h1
  exact falseS_ans (wideS_of (reduced_valid hv)) (by rw [(reduced_dims s).1]; exact h1)
theorem reduced_again {s : Sys} (hv : validS s = true) : reducedF (reducedF s) = reducedF s := by
  have hv' := reduced_valid hv
  have hp := (elim_ok hv).hp
  obtain ⟨d1, d2⟩ := reduced_dims s
  by_cases hf : 0 ≤ falseS s
  · rw [reducedF_yes (falseS_reduced hv hf), d1, d2, reducedF_yes hf]
  · have hf' := falseS_reduced_no hv hf
    have h1 := red_of (wideS_of hv') hf'
    have h2 := red_of (wideS_of hv) hf
    rw [d1, d2] at h1
    have h3 := red_same (by omega) h1 h2 (fun v _ _ => by
      have e1 := allD_eqR (p := s.1) (v := v) (by omega) (reducedF (reducedF s)).2.2 (fun e he => by have := h1.good (eqR e) (List.mem_map_of_mem he); exact this.right)
      have e2 := allD_eqR (p := s.1) (v := v) (by omega) (reducedF s).2.2 (fun e he => by have := h2.good (eqR e) (List.mem_map_of_mem he); exact this.right)
      have e3 := reduced_all hv' v
      rw [d1] at e3
      rw [e1, e2, e3])
    obtain ⟨d3, d4⟩ := reduced_dims (reducedF s)
    exact Prod.ext d3 (Prod.ext d4 h3)
theorem rank_reduced {s : Sys} (hv : validS s = true) (hf : ¬ 0 ≤ falseS s) : (elimS s).2.length = (reducedF s).2.2.length := (red_of (wideS_of hv) hf).len
theorem answers_reduced {s : Sys} (hv : validS s = true) : answersS (reducedF s) = answersS s := by
  obtain ⟨d1, d2⟩ := reduced_dims s
  have hp := (elim_ok hv).hp
  rw [answersS_ext, answersS_ext, d1, d2]
  refine List.filter_congr (fun t _ => ?_)
  rw [show ((s.1.toNat : Nat) : Int) = s.1 by omega]
  exact reduced_all hv t
/-! ### The solution -/
theorem solve_fix {p : Int} {U n : Nat} (hp : 0 < p) {rows : List SRow} {bs : List Int} (hg : AllG p U n rows) (hl : bs.length ≤ rows.length) : ∀ j, j ≤ bs.length → solveTo rows bs U j = fixTo p rows bs (List.replicate U 0) j
  | 0, _ => rfl
  | j + 1, hj => by
    have hjr : j < rows.length := by omega
    have e : rows.getD j row0 = rows[j] := by simp [List.getD, hjr]
    have hr := (hg _ (List.getElem_mem hjr)).right
    rw [solveTo, fixTo, solve_fix hp hg hl j (by omega), e, dot_repl0, Int.sub_zero, Int.emod_eq_of_lt hr.1 hr.2]
theorem solve_ans {s : Sys} (hv : validS s = true) (hf : ¬ 0 ≤ falseS s) : solveTo (elimS s).1 (elimS s).2 s.2.1.toNat (elimS s).2.length ∈ answersS s := by
  have K := elim_ok hv
  have hp := K.hp
  rw [solve_fix (by omega) K.good K.rref.le _ (Nat.le_refl _)]
  exact some_answer hv hf
theorem holds_ans {s : Sys} (hv : validS s = true) {v : List Int} (h : v ∈ answersS s) : holdsF s v = (true, 0) := by
  obtain ⟨h1, h2, h3⟩ := (answers_mem hv).1 h
  have hu := (elim_ok hv).hu
  unfold holdsF
  rw [if_pos hv, if_pos, h3]
  simp only [valsOk, Bool.and_eq_true, decide_eq_true_eq, List.all_eq_true]
  exact ⟨by omega, fun a ha => inB_mk (by have := h2 a ha; omega)⟩
/-! ### The refutation -/
theorem isRef_num {p : Int} {U : Nat} {l : List Eqn} {b : List Int} (hp : 2 ≤ p) (he : ∀ e, e ∈ l → eqnOk p U e = true) (hb : b.length = l.length) (f : Option Nat) (hf : ∀ u, f = some u → u < U) :
    ∀ j, j ≤ l.length → numR f (isRefS p l b U j) = dotI (b.take j) ((l.map (numE f)).take j) % p
  | 0, _ => by
    cases f with
    | none => simp [isRefS, numR, dotI]
    | some u =>
      show (List.replicate U (0 : Int)).getD u 0 = _
      rw [getD_repl0]
      simp [dotI]
  | j + 1, hj => by
    have hjl : j < l.length := by omega
    have h := eqn_good (getD_eqn he hjl)
    have ho : GoodS p U 0 ((l.getD j ([], 0)).1, (l.getD j ([], 0)).2, []) := ⟨h.1, rfl, h.2.1, h.2.2, fun a ha => by cases ha⟩
    have e1 : b.getD j 0 = b[j]'(by omega) := by simp [List.getD, hb, hjl]
    have e2 : l.getD j ([], 0) = l[j] := by simp [List.getD, hjl]
    have e3 : numR f ((l.getD j ([], 0)).1, (l.getD j ([], 0)).2, []) = (l.map (numE f))[j]'(by simpa using hjl) := by
      rw [e2, List.getElem_map]
      cases f <;> rfl
    rw [isRefS, numR_less _ (isRef_good b hp he j (by omega)) ho f hf, isRef_num hp he hb f hf j (by omega), e3, dotI_succ (by omega) (by simpa using hjl), e1]
    generalize dotI (b.take j) ((l.map (numE f)).take j) = D
    generalize (l.map (numE f))[j]'(by simpa using hjl) = E
    generalize b[j]'(by omega) = B
    rw [Int.sub_mul, show D % p - (p * E - B * E) = D % p + B * E - p * E by omega, Int.sub_mul_emod_self_left, Int.emod_add_emod]
theorem isRef_at {s : Sys} (hv : validS s = true) {b : List Int} (hb : b.length = s.2.2.length) (hr : Res s.1 b) : isRefF s b = ((isRefS s.1 s.2.2 b s.2.1.toNat s.2.2.length).1.all (fun a => a == 0) && (isRefS s.1 s.2.2 b s.2.1.toNat s.2.2.length).2.1 != 0, 0) := by
  have K := elim_ok hv
  have hp := K.hp
  have hu := K.hu
  have he : ∀ e, e ∈ s.2.2 → eqnOk s.1 ((s.2.1.toNat : Nat) : Int) e = true := fun e h => by rw [show ((s.2.1.toNat : Nat) : Int) = s.2.1 by omega]; exact K.he e h
  unfold isRefF
  rw [if_pos hv, if_pos, ← isRef_flat b (by omega) he _ (Nat.le_refl _), contrQ_flat]
  simp only [valsOk, Bool.and_eq_true, decide_eq_true_eq, List.all_eq_true]
  exact ⟨by omega, fun a ha => inB_mk (by have := hr a ha; omega)⟩
theorem refute_ref {s : Sys} (hv : validS s = true) (hf : 0 ≤ falseS s) : isRefF s (scaleS s.1 (badS s).2.1 (badS s)).2.2 = (true, 0) := by
  have K := elim_ok hv
  have hp := K.hp
  have hu := K.hu
  obtain ⟨hgb, hnz⟩ := K.bad hf
  have hg := goodS_scale (p := s.1) (by omega) (badS s).2.1 hgb
  have he : ∀ e, e ∈ s.2.2 → eqnOk s.1 ((s.2.1.toNat : Nat) : Int) e = true := fun e h => by rw [show ((s.2.1.toNat : Nat) : Int) = s.2.1 by omega]; exact K.he e h
  obtain ⟨f1, f2, f3⟩ := falseF_lt (show 0 ≤ falseF (elimS s).1 (elimS s).2.length from hf)
  have hbad : badS s = (elimS s).1[(falseS s).toNat]'f1 := by
    unfold badS
    have h9 : (falseS s).toNat < (elimS s).1.length := f1
    rw [List.getD_eq_getElem?_getD, List.getElem?_eq_getElem h9]
    rfl
  have hmade := made_sys hv (badS s) (by rw [hbad]; exact List.getElem_mem f1)
  have hm2 := made_scale (badS s).2.1 hgb hmade
  rw [isRef_at hv hg.by_ hg.resBy]
  have key : ∀ f : Option Nat, (∀ u, f = some u → u < s.2.1.toNat) → numR f (isRefS s.1 s.2.2 (scaleS s.1 (badS s).2.1 (badS s)).2.2 s.2.1.toNat s.2.2.length) = numR f (scaleS s.1 (badS s).2.1 (badS s)) % s.1 := fun f hf2 => by
    rw [isRef_num (by omega) he hg.by_ f hf2 _ (Nat.le_refl _), List.take_of_length_le (by rw [hg.by_]; exact Nat.le_refl _), List.take_of_length_le (by simp)]
    obtain ⟨q, hq⟩ := hm2 f hf2
    rw [show dotI (scaleS s.1 (badS s).2.1 (badS s)).2.2 (s.2.2.map (numE f)) = numR f (scaleS s.1 (badS s).2.1 (badS s)) - s.1 * q by omega, Int.sub_mul_emod_self_left]
  have hX := isRef_good (l := s.2.2) (scaleS s.1 (badS s).2.1 (badS s)).2.2 (show 2 ≤ s.1 by omega) he s.2.2.length (Nat.le_refl _)
  have k0 := key none (fun u h => by cases h)
  have k0' : (isRefS s.1 s.2.2 (scaleS s.1 (badS s).2.1 (badS s)).2.2 s.2.1.toNat s.2.2.length).2.1 = (badS s).2.1 * (badS s).2.1 % s.1 % s.1 := k0
  rw [sq_one hp hgb.right.1 hgb.right.2 hnz] at k0'
  have k1 : (1 : Int) % s.1 = 1 := by rcases hp with h | h <;> rw [h] <;> decide
  rw [k1] at k0'
  have hall : (isRefS s.1 s.2.2 (scaleS s.1 (badS s).2.1 (badS s)).2.2 s.2.1.toNat s.2.2.length).1.all (fun a => a == 0) = true := by
    rw [List.all_eq_true]
    intro a ha
    obtain ⟨c, hc, rfl⟩ := List.getElem_of_mem ha
    have hcU : c < s.2.1.toNat := by rw [← hX.len]; exact hc
    have k2 := key (some c) (fun u h => by cases h; exact hcU)
    have k3 : (isRefS s.1 s.2.2 (scaleS s.1 (badS s).2.1 (badS s)).2.2 s.2.1.toNat s.2.2.length).1.getD c 0 = numR (some c) (scaleS s.1 (badS s).2.1 (badS s)) % s.1 := k2
    rw [numR_scale _ hgb (some c) (fun u h => by cases h; exact hcU)] at k3
    have hlow := K.rref.low (falseS s).toNat (badS s) (by rw [hbad]; exact List.getElem?_eq_getElem f1) f3 c hcU
    have e4 : numR (some c) (badS s) = 0 := hlow
    rw [e4, Int.zero_mul, Int.zero_emod, Int.zero_emod] at k3
    simpa [List.getD, hc] using k3
  rw [hall, k0']
  rfl
theorem zero_noref {s : Sys} (hv : validS s = true) : isRefF s (List.replicate s.2.2.length 0) = (false, 0) := by
  have K := elim_ok hv
  have hp := K.hp
  have hu := K.hu
  have he : ∀ e, e ∈ s.2.2 → eqnOk s.1 ((s.2.1.toNat : Nat) : Int) e = true := fun e h => by rw [show ((s.2.1.toNat : Nat) : Int) = s.2.1 by omega]; exact K.he e h
  rw [isRef_at hv (by simp) (zeros_res _ (by omega) _)]
  have k0 := isRef_num (l := s.2.2) (b := List.replicate s.2.2.length 0) (show 2 ≤ s.1 by omega) he (by simp) none (fun u h => by cases h) _ (Nat.le_refl _)
  have hd : dotI ((List.replicate s.2.2.length (0 : Int)).take s.2.2.length) ((s.2.2.map (numE none)).take s.2.2.length) = 0 := by
    refine dot_zero _ _ (fun c hc => ?_)
    rw [List.take_of_length_le (by simp)]
    exact getD_repl0 _ _
  rw [hd] at k0
  have k1 : (isRefS s.1 s.2.2 (List.replicate s.2.2.length 0) s.2.1.toNat s.2.2.length).2.1 = 0 := by
    rw [Int.zero_emod] at k0
    exact k0
  rw [k1]
  simp
/-! ### What the law asks -/
theorem sys_none {s : Sys} (hv : validS s = true) (hf : 0 ≤ falseS s) : ∃ by_ : List Int, solveF s = ([], 6) ∧ refuteF s = (by_, 0) ∧ isRefF s by_ = (true, 0) ∧ rankF s = (0, 4) ∧ countF s = (0, 0) ∧ answersF s = ([], 0) := by
  have hc : countF s = (0, 0) := by unfold countF; rw [if_pos hv, if_pos hf]
  refine ⟨_, ?_, ?_, refute_ref hv hf, ?_, hc, ?_⟩
  · unfold solveF; rw [if_pos hv, if_pos hf]
  · unfold refuteF; rw [if_pos hv, if_pos hf]
  · unfold rankF; rw [if_pos hv, if_pos hf]
  · unfold answersF
    rw [if_pos hv, hc, if_neg (by decide)]
    have : answersS s = [] := List.eq_nil_iff_forall_not_mem.2 (fun v hm => falseS_ans (wideS_of hv) ((answers_mem hv).1 hm).2.2 hf)
    rw [this]
theorem sys_some {s : Sys} (hv : validS s = true) (hf : ¬ 0 ≤ falseS s) : ∃ (x : List Int) (r n : Int), solveF s = (x, 0) ∧ refuteF s = ([], 6) ∧ holdsF s x = (true, 0) ∧ rankF s = (r, 0) ∧ r ≤ s.2.1 ∧ r = (reducedF s).2.2.length ∧ countF s = (n, 0) ∧ 1 ≤ n ∧
    answersF s = (if 500 < n then ([], 3) else (answersS s, 0)) ∧ ((answersS s).length : Int) = n ∧ answersF (reducedF s) = answersF s ∧ (∀ v, v ∈ answersS s → holdsF s v = (true, 0)) ∧ isRefF s (List.replicate s.2.2.length 0) = (false, 0) := by
  have K := elim_ok hv
  have hp := K.hp
  have hu := K.hu
  have hleU := K.leU
  have hc : countF s = (s.1 ^ (s.2.1 - (elimS s).2.length).toNat, 0) := by unfold countF; rw [if_pos hv, if_neg hf]
  have hcnt := answers_count hv hf
  rw [hc] at hcnt
  have hv' := reduced_valid hv
  have hf' := falseS_reduced_no hv hf
  obtain ⟨d1, d2⟩ := reduced_dims s
  have hcr : countF (reducedF s) = countF s := by
    have h1 : (elimS (reducedF s)).2.length = (elimS s).2.length := by rw [rank_reduced hv' hf', reduced_again hv, ← rank_reduced hv hf]
    rw [hc]
    unfold countF
    rw [if_pos hv', if_neg hf', h1, d1, d2]
  have ha : answersF s = (if 500 < s.1 ^ (s.2.1 - (elimS s).2.length).toNat then ([], 3) else (answersS s, 0)) := by unfold answersF; rw [if_pos hv, hc]
  refine ⟨_, ((elimS s).2.length : Int), s.1 ^ (s.2.1 - (elimS s).2.length).toNat, ?_, ?_, holds_ans hv (solve_ans hv hf), ?_, by omega, by rw [rank_reduced hv hf], hc, ?_, ha, hcnt, ?_, fun v hm => holds_ans hv hm, zero_noref hv⟩
  · unfold solveF; rw [if_pos hv, if_neg hf]
  · unfold refuteF; rw [if_pos hv, if_neg hf]
  · unfold rankF; rw [if_pos hv, if_neg hf]
  · have : 0 < s.1 ^ (s.2.1 - (elimS s).2.length).toNat := Int.pow_pos (by omega)
    omega
  · rw [ha]
    unfold answersF
    rw [if_pos hv', hcr, hc, answers_reduced hv]

end Go.Proofs.YthceklaoikeokaaGreatDoor
