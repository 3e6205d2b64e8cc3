/-
  PLAIN: formulas: when they are valid; their simpler form.
-/
import Derived.Test.YtnefmhhemaenkaaGreatTmplB
import Derived.Test.YtnefmhhemaenkaaGreatRowsB
namespace Go.Proofs.YtnefmhhemaenkaaGreat
open Go.RowKit
set_option linter.unusedSimpArgs false
set_option linter.unusedVariables false

def arityA (t : Tmpl) (r : Int) : Int := if r = -1 then 2 else if inB r 0 (t.2.length - 1) then (t.2.getD r.toNat (0, [])).1 else 0
def atomOk (t : Tmpl) (vars : Int) (a : OpT) : Bool := !decide (arityA t a.1 = 0) && valsOk vars a.2 (arityA t a.1)
def frameOk (f : Fml) : Bool := inB f.1 1 4 && inB f.2.1 f.1 8 && decide (f.2.2.length ≤ 16)
def fmlOk (t : Tmpl) (f : Fml) : Bool := tmplOk t && frameOk f && f.2.2.all (atomOk t f.2.1)

/-- An atom that says that two variables are equal, one of them bound at least. -/
def isMrg (free : Int) (a : OpT) : Bool := decide (a.1 = -1) && (decide (a.2.getD 0 0 ≠ a.2.getD 1 0) && decide (free ≤ max (a.2.getD 0 0) (a.2.getD 1 0)))
def movL (g : Int → Int) (l : List OpT) : List OpT := l.map (fun a => (a.1, a.2.map g))
def lowA (a : OpT) : Int := min (a.2.getD 0 0) (a.2.getD 1 0)
def highA (a : OpT) : Int := max (a.2.getD 0 0) (a.2.getD 1 0)
def mergeV (a : OpT) (v : Int) : Int := if v = highA a then lowA a else v
def stepM (l : List OpT) (i : Nat) : List OpT := movL (mergeV (l.getD i (0, []))) l
def mrgF (free : Int) : Nat → List OpT → List OpT
  | 0, l => l
  | n + 1, l => match l.findIdx? (isMrg free) with | none => l | some i => mrgF free n (stepM l i)
/-- Atoms whose variables are there, and equalities have two. -/
def AtomsV (vars : Nat) (l : List OpT) : Prop := ∀ a, a ∈ l → (∀ v, v ∈ a.2 → 0 ≤ v ∧ v < (vars : Int)) ∧ (a.1 = -1 → a.2.length = 2)
def usedB (l : List OpT) (v : Int) : Bool := l.any (fun a => a.2.contains v)
def usedN (vars : Nat) (l : List OpT) : Nat := (List.range vars).countP (fun v : Nat => usedB l (v : Int))

theorem usedB_iff {l : List OpT} {v : Int} : usedB l v = true ↔ ∃ a, a ∈ l ∧ v ∈ a.2 := by
  unfold usedB
  rw [List.any_eq_true]
  constructor
  · rintro ⟨a, ha, hv⟩; exact ⟨a, ha, by simpa using hv⟩
  · rintro ⟨a, ha, hv⟩; exact ⟨a, ha, by simpa using hv⟩
theorem countP_lt {q r : Nat → Bool} (l : List Nat) (h : ∀ v, v ∈ l → q v = true → r v = true) {u : Nat} (hu : u ∈ l) (h0 : q u = false) (h1 : r u = true) : l.countP q < l.countP r := by
  induction l with
  | nil => simp at hu
  | cons x l ih =>
    have hle : l.countP q ≤ l.countP r := List.countP_mono_left (fun v hv => h v (List.mem_cons_of_mem _ hv))
    rw [List.countP_cons, List.countP_cons]
    rcases List.mem_cons.1 hu with rfl | hu
    · simp only [h0, h1, if_true]
      simp only [Bool.false_eq_true, if_false]
      omega
    · have := ih (fun v hv => h v (List.mem_cons_of_mem _ hv)) hu
      have h2 := h x List.mem_cons_self
      cases hq : q x with
      | false => simp only [Bool.false_eq_true, if_false]; omega
      | true => simp only [h2 hq, if_true]; omega
theorem len2_get {l : List Int} (h : l.length = 2) : l = [l.getD 0 0, l.getD 1 0] := by
  match l, h with
  | [a, b], _ => rfl
theorem mergeV_mem {a : OpT} (h : a.2.length = 2) : highA a ∈ a.2 ∧ lowA a ∈ a.2 := by
  have e := len2_get h
  unfold highA lowA
  generalize a.2.getD 0 0 = x at e ⊢
  generalize a.2.getD 1 0 = y at e ⊢
  rw [e]
  rcases Int.le_total x y with hxy | hxy
  · rw [Int.max_eq_right hxy, Int.min_eq_left hxy]; simp
  · rw [Int.max_eq_left hxy, Int.min_eq_right hxy]; simp
theorem mergeV_ne {free : Int} {a : OpT} (h : isMrg free a = true) : lowA a < highA a ∧ free ≤ highA a ∧ a.1 = -1 := by
  unfold isMrg at h
  simp only [Bool.and_eq_true, decide_eq_true_eq] at h
  obtain ⟨h1, h2, h3⟩ := h
  unfold lowA highA
  exact ⟨by omega, h3, h1⟩
/-- A merge leaves atoms that are right, with less variables. -/
theorem stepM_ok {vars : Nat} {free : Int} {l : List OpT} {i : Nat} (hv : AtomsV vars l) (hi : i < l.length) (hm : isMrg free l[i] = true) :
    AtomsV vars (stepM l i) ∧ usedN vars (stepM l i) < usedN vars l := by
  obtain ⟨hlt, _, he⟩ := mergeV_ne hm
  have hmem : l[i] ∈ l := List.getElem_mem hi
  obtain ⟨hiv, hi2⟩ := hv _ hmem
  obtain ⟨hH, hL⟩ := mergeV_mem (hi2 he)
  have hg : l.getD i (0, []) = l[i] := by simp [List.getD, hi]
  generalize l[i] = b at *
  have hvr : ∀ v : Int, 0 ≤ v ∧ v < (vars : Int) → 0 ≤ mergeV b v ∧ mergeV b v < (vars : Int) := by
    intro v h
    unfold mergeV
    split
    · exact hiv _ hL
    · exact h
  have hback : ∀ v : Int, usedB (stepM l i) v = true → usedB l v = true := by
    intro v h
    rw [usedB_iff] at h ⊢
    obtain ⟨a, ha, hva⟩ := h
    unfold stepM movL at ha
    rw [hg] at ha
    obtain ⟨a', ha', rfl⟩ := List.mem_map.1 ha
    obtain ⟨v', hv', rfl⟩ := List.mem_map.1 hva
    unfold mergeV
    split
    · exact ⟨b, hmem, hL⟩
    · exact ⟨a', ha', hv'⟩
  refine ⟨fun a ha => ?_, ?_⟩
  · unfold stepM movL at ha
    rw [hg] at ha
    obtain ⟨a', ha', rfl⟩ := List.mem_map.1 ha
    obtain ⟨h1, h2⟩ := hv a' ha'
    refine ⟨fun v hva => ?_, fun h => by simpa using h2 h⟩
    obtain ⟨v', hv', rfl⟩ := List.mem_map.1 hva
    exact hvr _ (h1 v' hv')
  · obtain ⟨g0, g1⟩ := hiv _ hH
    have hcast : ((highA b).toNat : Int) = highA b := by omega
    refine countP_lt (u := (highA b).toNat) _ (fun v _ h => hback v h) (by rw [List.mem_range]; omega) ?_ ?_
    · rw [hcast, Bool.eq_false_iff]
      intro h
      rw [usedB_iff] at h
      obtain ⟨a, ha, hva⟩ := h
      unfold stepM movL at ha
      rw [hg] at ha
      obtain ⟨a', ha', rfl⟩ := List.mem_map.1 ha
      obtain ⟨v', hv', hvv⟩ := List.mem_map.1 hva
      unfold mergeV at hvv
      split at hvv <;> omega
    · rw [hcast, usedB_iff]
      exact ⟨b, hmem, hH⟩
theorem usedN_le (vars : Nat) (l : List OpT) : usedN vars l ≤ vars := by
  have := List.countP_le_length (p := fun v : Nat => usedB l (v : Int)) (l := List.range vars)
  rwa [List.length_range] at this
theorem find_of_firstI {α : Type} {q : α → Bool} {l : List α} {i : Nat} (h : firstI q l = i) : l.findIdx? q = some i ∧ ∃ h : i < l.length, q l[i] = true := by
  unfold firstI at h
  cases hf : l.findIdx? q with
  | none => rw [hf] at h; simp only at h; omega
  | some k =>
    rw [hf] at h
    simp only at h
    obtain rfl : k = i := by omega
    obtain ⟨h1, h2, _⟩ := List.findIdx?_eq_some_iff_getElem.1 hf
    exact ⟨rfl, h1, h2⟩
theorem find_of_neg {α : Type} {q : α → Bool} {l : List α} (h : firstI q l < 0) : l.findIdx? q = none := by
  unfold firstI at h
  cases hf : l.findIdx? q with
  | none => rfl
  | some k => rw [hf] at h; simp only at h; omega
/-- What the loop of merges keeps. -/
def MrgR (free : Int) (vars : Nat) (l0 l : List OpT) : Prop := AtomsV vars l ∧ ∃ n, usedN vars l ≤ n ∧ mrgF free n l = mrgF free vars l0
theorem mrgR_start (free : Int) {vars : Nat} {l : List OpT} (h : AtomsV vars l) : MrgR free vars l l := ⟨h, vars, usedN_le _ _, rfl⟩
theorem mrgR_step {free : Int} {vars : Nat} {l0 l : List OpT} {i : Nat} (h : MrgR free vars l0 l) (hf : firstI (isMrg free) l = i) : MrgR free vars l0 (stepM l i) ∧ usedN vars (stepM l i) < usedN vars l := by
  obtain ⟨hv, n, hn, he⟩ := h
  obtain ⟨hfi, hi, hq⟩ := find_of_firstI hf
  obtain ⟨h1, h2⟩ := stepM_ok hv hi hq
  refine ⟨⟨h1, n - 1, by omega, ?_⟩, h2⟩
  rw [← he]
  obtain ⟨m, rfl⟩ : ∃ m, n = m + 1 := ⟨n - 1, by omega⟩
  rw [mrgF, hfi]
  rfl
theorem mrgR_end {free : Int} {vars : Nat} {l0 l : List OpT} (h : MrgR free vars l0 l) (hf : firstI (isMrg free) l < 0) : l = mrgF free vars l0 := by
  obtain ⟨hv, n, hn, he⟩ := h
  rw [← he]
  cases n with
  | zero => rfl
  | succ n => rw [mrgF, find_of_neg hf]
theorem fmlOk_atoms {t : Tmpl} {f : Fml} (h : fmlOk t f = true) : AtomsV f.2.1.toNat f.2.2 ∧ 1 ≤ f.1 ∧ f.1 ≤ 4 ∧ f.1 ≤ f.2.1 ∧ f.2.1 ≤ 8 ∧ f.2.2.length ≤ 16 := by
  unfold fmlOk frameOk at h
  simp only [Bool.and_eq_true, inB, decide_eq_true_eq, List.all_eq_true] at h
  obtain ⟨⟨_, ⟨h1, h2⟩, h3⟩, h4⟩ := h
  refine ⟨fun a ha => ?_, by omega, by omega, by omega, by omega, h3⟩
  have hk := h4 a ha
  unfold atomOk valsOk at hk
  simp only [Bool.and_eq_true, inB, decide_eq_true_eq, List.all_eq_true, Bool.not_eq_true', decide_eq_false_iff_not] at hk
  obtain ⟨_, hl, hr⟩ := hk
  refine ⟨fun v hv => by have := hr v hv; omega, fun he => ?_⟩
  unfold arityA at hl
  rw [if_pos he] at hl
  omega

/-- Atoms that say something, each one once. -/
def trivA (a : OpT) : Bool := decide (a.1 = -1) && decide (a.2.getD 0 0 = a.2.getD 1 0)
def dropA (out : List OpT) (a : OpT) : Bool := trivA a || out.any (fun b => decide (b = a))
def lessT (l : List OpT) : Nat → List OpT
  | 0 => []
  | j + 1 => if dropA (lessT l j) (l.getD j (0, [])) then lessT l j else lessT l j ++ [l.getD j (0, [])]
def lessF (l : List OpT) : List OpT := lessT l l.length
theorem lessT_mem (l : List OpT) : ∀ j, j ≤ l.length → ∀ a, a ∈ lessT l j → a ∈ l
  | 0, _, a, h => by simp [lessT] at h
  | j + 1, hj, a, h => by
    have ih := lessT_mem l j (by omega)
    rw [lessT] at h
    split at h
    · exact ih a h
    · rcases List.mem_append.1 h with h | h
      · exact ih a h
      · rw [List.mem_singleton] at h
        rw [h]
        have hg : l.getD j (0, []) = l[j] := by simp [List.getD, show j < l.length by omega]
        rw [hg]
        exact List.getElem_mem _
theorem lessT_len (l : List OpT) : ∀ j, (lessT l j).length ≤ j
  | 0 => Nat.le_refl _
  | j + 1 => by
    have := lessT_len l j
    rw [lessT]
    split
    · omega
    · rw [List.length_append, List.length_singleton]; omega

/-- The variables that are left. -/
def varsT (free : Nat) (left : List OpT) : Nat → List Int
  | 0 => (List.range free).map (fun i : Nat => (i : Int))
  | k + 1 => if usedB left ((free + k : Nat) : Int) then varsT free left k ++ [((free + k : Nat) : Int)] else varsT free left k
/-- What l03Simple makes of them. -/
def toT (free : Nat) (left : List OpT) : Nat → List Int × Nat
  | 0 => ((List.range free).map (fun i : Nat => (i : Int)), free)
  | k + 1 => ((toT free left k).1 ++ [((toT free left k).2 : Int)], if usedB left ((free + k : Nat) : Int) then (toT free left k).2 + 1 else (toT free left k).2)
def idxV (vs : List Int) (v : Int) : Int := firstI (fun x => v == x) vs
theorem varsT_len (free : Nat) (left : List OpT) : ∀ k, (varsT free left k).length ≤ free + k
  | 0 => by simp [varsT]
  | k + 1 => by
    have := varsT_len free left k
    rw [varsT]
    split
    · rw [List.length_append, List.length_singleton]; omega
    · omega
theorem varsT_lt (free : Nat) (left : List OpT) : ∀ k x, x ∈ varsT free left k → 0 ≤ x ∧ x < ((free + k : Nat) : Int)
  | 0, x, h => by
    obtain ⟨i, hi, rfl⟩ := List.mem_map.1 h
    rw [List.mem_range] at hi
    omega
  | k + 1, x, h => by
    have ih := varsT_lt free left k x
    rw [varsT] at h
    split at h
    · rcases List.mem_append.1 h with h | h
      · have := ih h; omega
      · rw [List.mem_singleton] at h; omega
    · have := ih h; omega
theorem idxV_old {vs : List Int} {v : Int} {r : List Int} (h : v ∈ vs) : idxV (vs ++ r) v = idxV vs v := by
  unfold idxV firstI
  rw [List.findIdx?_append]
  cases hf : vs.findIdx? (fun x => v == x) with
  | some i => rfl
  | none =>
    rw [List.findIdx?_eq_none_iff] at hf
    have := hf v h
    simp at this
theorem idxV_new {vs : List Int} {v : Int} (h : v ∉ vs) : idxV (vs ++ [v]) v = vs.length := by
  refine firstI_at (k := vs.length) (by simp) (fun j hj hlt => ?_) (by simp)
  rw [List.getElem_append_left hlt]
  rw [beq_eq_false_iff_ne]
  intro he
  exact h (he ▸ List.getElem_mem hlt)
theorem range_idx {free : Nat} : ∀ {v : Nat}, v < free → idxV ((List.range free).map (fun i : Nat => (i : Int))) (v : Int) = v := by
  intro v hv
  refine firstI_at (k := v) (by simpa using hv) (fun j hj hlt => ?_) (by simp)
  rw [beq_eq_false_iff_ne, List.getElem_map, List.getElem_range]
  omega
theorem toT_ok (free : Nat) (left : List OpT) : ∀ k, (toT free left k).2 = (varsT free left k).length ∧ (toT free left k).1.length = free + k ∧
    (∀ v : Nat, v < free + k → (v < free ∨ usedB left (v : Int) = true) → (v : Int) ∈ varsT free left k ∧ (toT free left k).1.getD v 0 = idxV (varsT free left k) (v : Int))
  | 0 => by
    refine ⟨by simp [toT, varsT], by simp [toT], fun v hv _ => ⟨?_, ?_⟩⟩
    · exact List.mem_map.2 ⟨v, by rw [List.mem_range]; omega, rfl⟩
    · show ((List.range free).map (fun i : Nat => (i : Int))).getD v 0 = _
      rw [varsT, range_idx (by omega)]
      simp [List.getD, show v < free by omega]
  | k + 1 => by
    obtain ⟨h1, h2, h3⟩ := toT_ok free left k
    have hnot : ((free + k : Nat) : Int) ∉ varsT free left k := fun h => by have := varsT_lt free left k _ h; omega
    refine ⟨?_, by rw [toT]; simp only [List.length_append, List.length_singleton, h2]; omega, fun v hv hu => ?_⟩
    · rw [toT, varsT]
      cases usedB left ((free + k : Nat) : Int) with
      | true => simp only [if_true, List.length_append, List.length_singleton, h1]
      | false => simp only [Bool.false_eq_true, if_false, h1]
    · rw [toT]
      simp only
      rcases Nat.lt_or_ge v (free + k) with hlt | hge
      · obtain ⟨g1, g2⟩ := h3 v hlt hu
        have e1 : ((toT free left k).1 ++ [((toT free left k).2 : Int)]).getD v 0 = (toT free left k).1.getD v 0 := by
          simp only [List.getD_eq_getElem?_getD, List.getElem?_append_left (show v < (toT free left k).1.length by omega)]
        rw [e1, g2, varsT]
        split
        · exact ⟨List.mem_append_left _ g1, (idxV_old g1).symm⟩
        · exact ⟨g1, rfl⟩
      · obtain rfl : v = free + k := by omega
        have hub : usedB left ((free + k : Nat) : Int) = true := by
          rcases hu with hu | hu
          · obtain rfl : k = 0 := by omega
            omega
          · exact hu
        have e1 : ((toT free left k).1 ++ [((toT free left k).2 : Int)]).getD (free + k) 0 = (toT free left k).2 := by
          simp only [List.getD_eq_getElem?_getD, List.getElem?_append_right (show (toT free left k).1.length ≤ free + k by omega), h2, Nat.sub_self, List.getElem?_cons_zero, Option.getD_some]
        rw [e1, varsT, if_pos hub, idxV_new hnot, h1]
        exact ⟨List.mem_append_right _ (List.mem_singleton.2 rfl), rfl⟩
/-- The simpler form. -/
def leftF (f : Fml) : List OpT := lessF (mrgF f.1 f.2.1.toNat f.2.2)
def varsF (f : Fml) : List Int := varsT f.1.toNat (leftF f) (f.2.1 - f.1).toNat
def simpF (f : Fml) : Fml := (f.1, ((varsF f).length : Int), movL (idxV (varsF f)) (leftF f))
theorem movL_congr {g h : Int → Int} {l : List OpT} (e : ∀ a, a ∈ l → ∀ v, v ∈ a.2 → g v = h v) : movL g l = movL h l := by
  unfold movL
  refine List.map_congr_left (fun a ha => ?_)
  rw [List.map_congr_left (fun v hv => e a ha v hv)]
theorem mrgF_ok {vars : Nat} (free : Int) : ∀ n {l : List OpT}, AtomsV vars l → AtomsV vars (mrgF free n l)
  | 0, l, h => h
  | n + 1, l, h => by
    rw [mrgF]
    split
    · exact h
    · next i hf =>
      obtain ⟨h1, h2, _⟩ := List.findIdx?_eq_some_iff_getElem.1 hf
      exact mrgF_ok free n (stepM_ok h h1 h2).1
/-- l03Simple's own table says the same. -/
theorem simp_to {t : Tmpl} {f : Fml} (h : fmlOk t f = true) : movL (fun v => (toT f.1.toNat (leftF f) (f.2.1 - f.1).toNat).1.getD v.toNat 0) (leftF f) = (simpF f).2.2 ∧ ((toT f.1.toNat (leftF f) (f.2.1 - f.1).toNat).2 : Int) = (simpF f).2.1 := by
  obtain ⟨hv, h1, h2, h3, h4, _⟩ := fmlOk_atoms h
  obtain ⟨k1, k2, k3⟩ := toT_ok f.1.toNat (leftF f) (f.2.1 - f.1).toNat
  refine ⟨movL_congr fun a ha v hva => ?_, by rw [k1]; rfl⟩
  have hm := lessT_mem _ _ (Nat.le_refl _) a ha
  have hr := (mrgF_ok f.1 _ hv a hm).1 v hva
  have := (k3 v.toNat (by omega) (.inr (by rw [show ((v.toNat : Nat) : Int) = v by omega, usedB_iff]; exact ⟨a, ha, hva⟩))).2
  rw [show ((v.toNat : Nat) : Int) = v by omega] at this
  exact this
/-- InstanceOfFormula. -/
def instF (t : Tmpl) (f : Fml) : Inst × Int :=
  if fmlOk t f then (if (simpF f).2.2.any (fun a => decide (a.1 = -1)) then ((0, []), 4) else (((simpF f).2.1, (simpF f).2.2), 0)) else ((0, []), 1)

end Go.Proofs.YtnefmhhemaenkaaGreat
