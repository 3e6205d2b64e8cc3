/-
  PLAIN LAW: elimination keeps the answers: values make all equations of a system true just if they make all of its reduced form true.
-/
import Derived.Test.YtoblfnoaepbhfaaSysF
namespace Go.Proofs.Ytoblfnoaepbhfaa
open Go.RowKit
set_option linter.unusedSimpArgs false
set_option linter.unusedVariables false

/-- Values make a row true. -/
def rowD (p : Int) (v : List Int) (r : SRow) : Prop := p ∣ dotI r.1 v - r.2.1
def allD (p : Int) (v : List Int) (rows : List SRow) : Prop := ∀ r, r ∈ rows → rowD p v r
theorem dotI_cons (a b : Int) (l v : List Int) : dotI (a :: l) (b :: v) = a * b + dotI l v := by simp [dotI]
theorem dot_less (p k : Int) : ∀ (l m v : List Int), l.length = m.length → ∃ q, dotI (lessL p k l m) v = dotI l v - k * dotI m v + p * q
  | [], [], v, _ => ⟨0, by simp [dotI, lessL]⟩
  | a :: l, b :: m, [], _ => ⟨0, by simp [dotI]⟩
  | a :: l, b :: m, c :: v, h => by
    obtain ⟨q, hq⟩ := dot_less p k l m v (by simpa using h)
    have e : lessL p k (a :: l) (b :: m) = ((a - k * b) % p) :: lessL p k l m := rfl
    refine ⟨q - (a - k * b) / p * c, ?_⟩
    rw [e, dotI_cons, dotI_cons, dotI_cons, hq, Int.emod_def]
    simp only [Int.sub_mul, Int.mul_sub, Int.mul_add, Int.mul_assoc]
    omega
theorem dot_scale (p k : Int) : ∀ (l v : List Int), ∃ q, dotI (scaleL p k l) v = k * dotI l v + p * q
  | [], v => ⟨0, by simp [dotI, scaleL]⟩
  | a :: l, [] => ⟨0, by simp [dotI]⟩
  | a :: l, c :: v => by
    obtain ⟨q, hq⟩ := dot_scale p k l v
    have e : scaleL p k (a :: l) = (a * k % p) :: scaleL p k l := rfl
    refine ⟨q - (a * k) / p * c, ?_⟩
    rw [e, dotI_cons, dotI_cons, hq, Int.emod_def]
    have : a * k * c = k * (a * c) := by rw [Int.mul_comm a k, Int.mul_assoc]
    simp only [Int.sub_mul, Int.mul_sub, Int.mul_add, Int.mul_assoc] at this ⊢
    omega
theorem rowD_less {p : Int} {U n : Nat} {v : List Int} {r o : SRow} (k : Int) (hr : GoodS p U n r) (ho : GoodS p U n o) (h : rowD p v o) : rowD p v (lessS p k r o) ↔ rowD p v r := by
  obtain ⟨q, hq⟩ := dot_less p k r.1 o.1 v (by rw [hr.len, ho.len])
  unfold rowD lessS at *
  simp only
  have e : dotI (lessL p k r.1 o.1) v - (r.2.1 - k * o.2.1) % p = (dotI r.1 v - r.2.1) - k * (dotI o.1 v - o.2.1) + p * (q + (r.2.1 - k * o.2.1) / p) := by
    rw [hq, Int.emod_def]
    simp only [Int.mul_sub, Int.mul_add]
    omega
  rw [e]
  have h1 : p ∣ k * (dotI o.1 v - o.2.1) := Int.dvd_trans h (Int.dvd_mul_left _ _)
  have h2 : p ∣ p * (q + (r.2.1 - k * o.2.1) / p) := Int.dvd_mul_right _ _
  constructor
  · intro h3
    have h4 := Int.dvd_add (Int.dvd_sub h3 h2) h1
    have e2 : (dotI r.1 v - r.2.1) - k * (dotI o.1 v - o.2.1) + p * (q + (r.2.1 - k * o.2.1) / p) - p * (q + (r.2.1 - k * o.2.1) / p) + k * (dotI o.1 v - o.2.1) = dotI r.1 v - r.2.1 := by omega
    rw [e2] at h4; exact h4
  · intro h3
    exact Int.dvd_add (Int.dvd_sub h3 h1) h2
theorem rowD_scale {p : Int} {v : List Int} {r : SRow} (k : Int) (hk : k * k % p = 1) : rowD p v (scaleS p k r) ↔ rowD p v r := by
  obtain ⟨q, hq⟩ := dot_scale p k r.1 v
  unfold rowD scaleS
  simp only
  have e : dotI (scaleL p k r.1) v - r.2.1 * k % p = k * (dotI r.1 v - r.2.1) + p * (q + r.2.1 * k / p) := by
    rw [hq, Int.emod_def, Int.mul_comm r.2.1 k]
    simp only [Int.mul_sub, Int.mul_add]
    omega
  rw [e]
  have h2 : p ∣ p * (q + r.2.1 * k / p) := Int.dvd_mul_right _ _
  constructor
  · intro h3
    have h4 := Int.dvd_sub h3 h2
    have e2 : k * (dotI r.1 v - r.2.1) + p * (q + r.2.1 * k / p) - p * (q + r.2.1 * k / p) = k * (dotI r.1 v - r.2.1) := by omega
    rw [e2] at h4
    have h5 : p ∣ k * (k * (dotI r.1 v - r.2.1)) := Int.dvd_trans h4 (Int.dvd_mul_left _ _)
    have h6 := Int.emod_def (k * k) p
    rw [hk] at h6
    have e3 : k * (k * (dotI r.1 v - r.2.1)) = (dotI r.1 v - r.2.1) + p * (k * k / p * (dotI r.1 v - r.2.1)) := by
      rw [← Int.mul_assoc, ← Int.mul_assoc]
      have : k * k = 1 + p * (k * k / p) := by omega
      conv => lhs; rw [this]
      rw [Int.add_mul, Int.one_mul]
    rw [e3] at h5
    have h7 := Int.dvd_sub h5 (Int.dvd_mul_right p (k * k / p * (dotI r.1 v - r.2.1)))
    rw [Int.add_sub_cancel] at h7
    exact h7
  · intro h3
    exact Int.dvd_add (Int.dvd_trans h3 (Int.dvd_mul_left _ _)) h2

theorem swapL_get {α : Type} (d : α) (l : List α) (i j : Nat) (hi : i < l.length) (hj : j < l.length) (k : Nat) : (swapL d l i j)[k]? = if k = j then l[i]? else if k = i then l[j]? else l[k]? := by
  unfold swapL
  have e1 : l.getD j d = l[j] := by simp [List.getD, hj]
  have e2 : l.getD i d = l[i] := by simp [List.getD, hi]
  rw [e1, e2]
  simp only [List.getElem?_set, List.length_set]
  by_cases h1 : k = j
  · subst h1; simp [hj]
  · by_cases h2 : k = i
    · subst h2; simp [h1, Ne.symm h1, hi, hj]
    · simp [h1, h2, Ne.symm h1, Ne.symm h2]
theorem allD_swap {p : Int} {v : List Int} (d : SRow) (rows : List SRow) (i j : Nat) (hi : i < rows.length) (hj : j < rows.length) : allD p v (swapL d rows i j) ↔ allD p v rows := by
  constructor
  · intro h r hr
    obtain ⟨k, hk⟩ := List.mem_iff_getElem?.1 hr
    by_cases h1 : k = i
    · subst h1
      exact h r (List.mem_iff_getElem?.2 ⟨j, by rw [swapL_get d rows k j hi hj, if_pos rfl]; exact hk⟩)
    · by_cases h2 : k = j
      · subst h2
        refine h r (List.mem_iff_getElem?.2 ⟨i, ?_⟩)
        rw [swapL_get d rows i k hi hj, if_neg (Ne.symm h1), if_pos rfl]; exact hk
      · refine h r (List.mem_iff_getElem?.2 ⟨k, ?_⟩)
        rw [swapL_get d rows i j hi hj, if_neg h2, if_neg h1]; exact hk
  · intro h r hr
    obtain ⟨k, hk⟩ := List.mem_iff_getElem?.1 hr
    rw [swapL_get d rows i j hi hj] at hk
    split at hk
    · exact h r (List.mem_iff_getElem?.2 ⟨_, hk⟩)
    · split at hk <;> exact h r (List.mem_iff_getElem?.2 ⟨_, hk⟩)
theorem allD_step {p : Int} {U n : Nat} (hp : p = 2 ∨ p = 3) {v : List Int} {u : Nat} (hu : u < U) {rows : List SRow} {bs : List Int} (hg : AllG p U n rows) :
    allD p v (stepE (opsS p) u (rows, bs)).1 ↔ allD p v rows := by
  have hp0 : 0 < p := by omega
  unfold stepE
  simp only
  split
  · exact Iff.rfl
  · rename_i k hk
    rw [List.findIdx?_eq_some_iff_getElem] at hk
    obtain ⟨hk1, hk2, _⟩ := hk
    simp only [List.length_drop] at hk1
    simp only [List.getElem_drop, bne_iff_ne, ne_eq] at hk2
    have hd : bs.length < rows.length := by omega
    have hdk : bs.length + k < rows.length := by omega
    simp only
    unfold pivotE
    simp only
    rw [swap_at _ _ _ _ hd hdk]
    have e0 : rows.getD (bs.length + k) (opsS p).dflt = rows[bs.length + k] := by simp [List.getD, hdk]
    have hg1 := allG_swap hg (opsS p).dflt bs.length (bs.length + k) hd hdk
    have hsw := allD_swap (p := p) (v := v) (opsS p).dflt rows bs.length (bs.length + k) hd hdk
    have hat : (swapL (opsS p).dflt rows bs.length (bs.length + k))[bs.length]? = some rows[bs.length + k] := by
      rw [swapL_get _ _ _ _ hd hdk]
      by_cases h : bs.length = bs.length + k
      · rw [if_pos h]; simp only [← h]; rw [List.getElem?_eq_getElem hd]
      · rw [if_neg h, if_pos rfl, List.getElem?_eq_getElem hdk]
    rw [e0, ← hsw]
    have hg0 : GoodS p U n rows[bs.length + k] := hg _ (List.getElem_mem hdk)
    generalize rows[bs.length + k] = x0 at *
    generalize swapL (opsS p).dflt rows bs.length (bs.length + k) = r1 at *
    have hx0u := getD_res hg0.res u (by rw [hg0.len]; exact hu)
    have hn : (opsS p).get x0 u = x0.1.getD u 0 := rfl
    rw [hn] at hk2 ⊢
    have hsq := sq_one hp hx0u.1 hx0u.2 hk2
    have hxs : (opsS p).scale x0 (x0.1.getD u 0) = scaleS p (x0.1.getD u 0) x0 := rfl
    rw [hxs]
    have hgx : GoodS p U n (scaleS p (x0.1.getD u 0) x0) := goodS_scale hp0 _ hg0
    have hdx : rowD p v (scaleS p (x0.1.getD u 0) x0) ↔ rowD p v x0 := rowD_scale _ hsq
    generalize scaleS p (x0.1.getD u 0) x0 = x at *
    have hb1 := (List.getElem?_eq_some_iff.1 hat).1
    have hrow : ∀ i r, r1[i]? = some r → i ≠ bs.length → rowD p v x → (rowD p v (elimRow (opsS p) u bs.length x i r) ↔ rowD p v r) := fun i r hr hi hx => by
      have hgr := hg1 r (List.mem_iff_getElem?.2 ⟨i, hr⟩)
      unfold elimRow
      rw [if_neg hi]
      show rowD p v (if _ then _ else _) ↔ _
      split
      · exact Iff.rfl
      · exact rowD_less _ hgr hgx hx
    have hget : ∀ i, ((r1.set bs.length x).mapIdx (elimRow (opsS p) u bs.length x))[i]? = if i = bs.length then some x else (r1[i]?).map (elimRow (opsS p) u bs.length x i) := fun i => by
      rw [List.getElem?_mapIdx]
      by_cases h : i = bs.length
      · subst h
        rw [List.getElem?_set_self hb1, if_pos rfl]
        simp [elimRow]
      · rw [List.getElem?_set_ne (Ne.symm h), if_neg h]
    constructor
    · intro h r hr
      obtain ⟨i, hi⟩ := List.mem_iff_getElem?.1 hr
      have hx : rowD p v x := h x (List.mem_iff_getElem?.2 ⟨bs.length, by rw [hget, if_pos rfl]⟩)
      by_cases hib : i = bs.length
      · subst hib
        rw [hat] at hi
        simp only [Option.some.injEq] at hi
        subst hi
        exact hdx.1 hx
      · exact (hrow i r hi hib hx).1 (h _ (List.mem_iff_getElem?.2 ⟨i, by rw [hget, if_neg hib, hi]; rfl⟩))
    · intro h r hr
      obtain ⟨i, hi⟩ := List.mem_iff_getElem?.1 hr
      have hx : rowD p v x := hdx.2 (h x0 (List.mem_iff_getElem?.2 ⟨_, hat⟩))
      rw [hget] at hi
      split at hi
      · simp only [Option.some.injEq] at hi; subst hi; exact hx
      · rename_i hib
        rw [Option.map_eq_some_iff] at hi
        obtain ⟨q, hq, rfl⟩ := hi
        exact (hrow i q hq hib hx).2 (h q (List.mem_iff_getElem?.2 ⟨i, hq⟩))
theorem allD_elim {p : Int} {U n : Nat} (hp : p = 2 ∨ p = 3) {v : List Int} {rows : List SRow} (hg : AllG p U n rows) : ∀ u, u ≤ U → (allD p v (elimE (opsS p) rows u).1 ↔ allD p v rows)
  | 0, _ => Iff.rfl
  | u + 1, h => by
    have h1 := elim_good (by omega : (0 : Int) < p) hg u
    have h2 := allD_elim hp (v := v) hg u (by omega)
    show allD p v (stepE (opsS p) u (elimE (opsS p) rows u)).1 ↔ _
    rw [← h2]
    exact allD_step hp (by omega) h1
theorem holds_rowD {p : Int} {v : List Int} {a : List Int} {b : Int} {y : List Int} (hp : 0 < p) (h0 : 0 ≤ b) (h1 : b < p) : holdsE p v (a, b) = true ↔ rowD p v (a, b, y) := by
  unfold holdsE rowD
  simp only [decide_eq_true_eq]
  constructor
  · intro h
    exact ⟨dotI a v / p, by have := Int.emod_def (dotI a v) p; omega⟩
  · rintro ⟨q, hq⟩
    have e : dotI a v = b + p * q := by omega
    rw [e, Int.add_mul_emod_self_left, Int.emod_eq_of_lt h0 h1]
theorem allD_rows {p : Int} {v : List Int} (n : Nat) : ∀ (l : List Eqn) (i : Nat), (∀ e, e ∈ l → 0 < p ∧ 0 ≤ e.2 ∧ e.2 < p) → (allD p v (rowsS n i l) ↔ l.all (holdsE p v) = true)
  | [], i, _ => by simp [rowsS, allD]
  | e :: l, i, h => by
    have ih := allD_rows (p := p) (v := v) n l (i + 1) (fun x hx => h x (List.mem_cons_of_mem _ hx))
    have he := h e (List.mem_cons_self ..)
    rw [List.all_cons, Bool.and_eq_true, ← ih]
    show allD p v ((_, _, _) :: _) ↔ _
    rw [holds_rowD (y := (List.replicate n 0).set i 1) he.1 he.2.1 he.2.2]
    constructor
    · intro hh; exact ⟨hh _ (List.mem_cons_self ..), fun r hr => hh r (List.mem_cons_of_mem _ hr)⟩
    · rintro ⟨h1, h2⟩ r hr
      rcases List.mem_cons.1 hr with rfl | hr
      · exact h1
      · exact h2 r hr
theorem dot_zero : ∀ (l v : List Int), (∀ c, c < l.length → l.getD c 0 = 0) → dotI l v = 0
  | [], v, _ => by simp [dotI]
  | a :: l, [], _ => by simp [dotI]
  | a :: l, c :: v, h => by
    have h0 := h 0 (by simp)
    have ih := dot_zero l v (fun c hc => by have := h (c + 1) (by simpa using hc); simpa using this)
    simp only [List.getD_cons_zero] at h0
    rw [dotI_cons, ih, h0]; simp
theorem falseF_none {rows : List SRow} {d : Nat} (h : ¬ 0 ≤ falseF rows d) (i : Nat) (hi : i < rows.length) (hd : d ≤ i) : rows[i].2.1 = 0 := by
  unfold falseF at h
  cases hf : (rows.drop d).findIdx? (fun r => r.2.1 != 0) with
  | some k => rw [hf] at h; exact absurd (show (0 : Int) ≤ ((d + k : Nat) : Int) by omega) h
  | none =>
    rw [List.findIdx?_eq_none_iff] at hf
    have := hf rows[i] (List.mem_iff_getElem?.2 ⟨i - d, by rw [List.getElem?_drop, show d + (i - d) = i by omega, List.getElem?_eq_getElem hi]⟩)
    simpa using this
/-- The reduced form has the same answers. -/
theorem reducedW_all {s : Sys} (hv : wideS s = true) (v : List Int) : (reducedF s).2.2.all (holdsE s.1 v) = s.2.2.all (holdsE s.1 v) := by
  have K := elimW_ok hv
  obtain ⟨p, u, l⟩ := s
  have hp := K.hp
  have hu := K.hu
  simp only at hp hu
  obtain ⟨U, rfl⟩ : ∃ U : Nat, u = U := ⟨u.toNat, by omega⟩
  have hg := sys_good (l := l) (U := U) (by omega) K.he
  have h1 := allD_elim hp (v := v) hg U (Nat.le_refl _)
  have h2 := allD_rows (p := p) (v := v) l.length l 0 (fun e he => by have := eqn_good (K.he e he); exact ⟨by omega, this.2.2.1, this.2.2.2⟩)
  have h3 : allD p v (elimS (p, (U : Int), l)).1 ↔ l.all (holdsE p v) = true := by rw [← h2, ← h1]; simp [elimS]
  rw [Bool.eq_iff_iff]
  simp only
  rw [← h3]
  by_cases hf : 0 ≤ falseS (p, (U : Int), l)
  · have hb := K.bad hf
    have hlt := falseF_lt hf
    have hbm : badS (p, (U : Int), l) ∈ (elimS (p, (U : Int), l)).1 := by
      unfold badS
      have h4 := hlt.1
      show List.getD _ (falseF _ _).toNat row0 ∈ _
      simp only [List.getD, List.getElem?_eq_getElem h4, Option.getD_some]
      exact List.getElem_mem h4
    have hz : dotI (badS (p, (U : Int), l)).1 v = 0 := by
      refine dot_zero _ _ (fun c hc => ?_)
      rw [hb.1.len] at hc
      refine K.rref.low (falseF (elimS (p, (U : Int), l)).1 (elimS (p, (U : Int), l)).2.length).toNat _ ?_ hlt.2.2 c hc
      show _ = some (List.getD _ (falseF _ _).toNat row0)
      simp only [List.getD, List.getElem?_eq_getElem hlt.1, Option.getD_some]
    have hr := hb.1.right
    have hr0 := hb.2
    simp only at hr
    constructor
    · intro h
      have : (reducedF (p, (U : Int), l)).2.2 = [(List.replicate U 0, 1)] := by unfold reducedF; rw [if_pos hf]; rfl
      rw [this] at h
      simp only [List.all_cons, List.all_nil, Bool.and_true] at h
      have h5 : dotI (List.replicate U 0) v = 0 := dot_zero _ _ (fun c hc => by simp [List.getD, List.getElem?_replicate]; split <;> rfl)
      simp only [holdsE, h5, decide_eq_true_eq] at h
      simp at h
    · intro h
      obtain ⟨q, hq⟩ := h _ hbm
      rw [hz] at hq
      exfalso
      have hq1 : (badS (p, (U : Int), l)).2.1 = p * -q := by rw [Int.mul_neg]; omega
      have h6 : (badS (p, (U : Int), l)).2.1 % p = 0 := by rw [hq1]; exact Int.mul_emod_right _ _
      rw [Int.emod_eq_of_lt hr.1 hr.2] at h6
      exact hr0 h6
  · have hred : (reducedF (p, (U : Int), l)).2.2 = ((elimS (p, (U : Int), l)).1.take (elimS (p, (U : Int), l)).2.length).map (fun r => (r.1, r.2.1)) := by unfold reducedF; rw [if_neg hf]
    rw [hred, List.all_map, List.all_eq_true]
    constructor
    · intro h r hr
      obtain ⟨i, hi, rfl⟩ := List.getElem_of_mem hr
      have hgr := K.good _ (List.getElem_mem hi)
      by_cases hd : i < (elimS (p, (U : Int), l)).2.length
      · have := h _ (List.mem_iff_getElem?.2 ⟨i, by rw [List.getElem?_take_of_lt hd, List.getElem?_eq_getElem hi]⟩)
        exact (holds_rowD (by omega) hgr.right.1 hgr.right.2).1 this
      · have h7 := falseF_none hf i hi (by omega)
        have h8 : dotI (elimS (p, (U : Int), l)).1[i].1 v = 0 := dot_zero _ _ (fun c hc => by
          rw [hgr.len] at hc
          exact K.rref.low i _ (List.getElem?_eq_getElem hi) (by omega) c hc)
        unfold rowD
        rw [h7, h8]
        simp
    · intro h r hr
      have hm := List.mem_of_mem_take hr
      have hgr := K.good _ hm
      exact (holds_rowD (y := r.2.2) (by omega) hgr.right.1 hgr.right.2).2 (h r hm)
theorem reduced_all {s : Sys} (hv : validS s = true) (v : List Int) : (reducedF s).2.2.all (holdsE s.1 v) = s.2.2.all (holdsE s.1 v) := reducedW_all (wideS_of hv) v

end Go.Proofs.Ytoblfnoaepbhfaa
