/-
  PLAIN LAW: what follows from a system: just what is made of its equations; otherwise there is an answer for which it does not hold.
-/
import Derived.Test.YthceklaoikeokaaGreatDoorSysB
import Derived.Test.YthceklaoikeokaaGreatDoorBy
import Derived.Test.YthceklaoikeokaaGreatDoorAns
import Derived.Test.YthceklaoikeokaaGreatDoorTaken
namespace Go.Proofs.YthceklaoikeokaaGreatDoor
open Go.RowKit
set_option linter.unusedSimpArgs false
set_option linter.unusedVariables false

/-- What is left of an equation has zeros where rows begin. -/
theorem taken_zero {s : Sys} (K : ElimOk s) {x : SRow} (hx : GoodS s.1 s.2.1.toNat s.2.2.length x) : ∀ j, j ≤ (elimS s).2.length → ∀ i (hi : i < (elimS s).2.length), i < j → (takenTo s.1 (elimS s).1 (elimS s).2 x j).1.getD (elimS s).2[i].toNat 0 = 0
  | 0, _ => fun i _ h => absurd h (Nat.not_lt_zero _)
  | j + 1, hj => fun i hi hij => by
    have hp := K.hp
    have hle := K.le
    have hlen := K.len
    have hjl : j < (elimS s).1.length := by omega
    have hg := taken_good K hx j (by omega)
    have hr : (elimS s).1.getD j row0 = (elimS s).1[j] := by simp [List.getD, hjl]
    have hgr : GoodS s.1 s.2.1.toNat s.2.2.length (elimS s).1[j] := K.good _ (List.getElem_mem hjl)
    have hj2 : j < (elimS s).2.length := by omega
    have eb : (elimS s).2.getD j 0 = (elimS s).2[j] := by simp [List.getD, List.getElem?_eq_getElem hj2]
    obtain ⟨b, hb, hbU⟩ := K.bs i hi
    have hc := K.rref.col j _ i _ (List.getElem?_eq_getElem hjl) (List.getElem?_eq_getElem hi)
    rw [takenTo, hr, eb]
    show (lessL s.1 _ _ (elimS s).1[j].1).getD _ 0 = 0
    rw [show lessL s.1 = fun k l m => List.zipWith (fun a b => (a - k * b) % s.1) l m from rfl]
    simp only
    rw [getD_zip _ _ _ _ (by rw [hg.len, hb]; simpa using hbU) (by rw [hgr.len, hb]; simpa using hbU), hc]
    by_cases hij2 : j = i
    · subst hij2
      rw [if_pos rfl, Int.mul_one, Int.sub_self]; rfl
    · rw [if_neg hij2, Int.mul_zero, Int.sub_zero, taken_zero K hx j (by omega) i hi (by omega)]; rfl
theorem taken_rowD {s : Sys} (K : ElimOk s) {v : List Int} (hv : allD s.1 v (elimS s).1) {x : SRow} (hx : GoodS s.1 s.2.1.toNat s.2.2.length x) : ∀ j, j ≤ (elimS s).2.length → (rowD s.1 v (takenTo s.1 (elimS s).1 (elimS s).2 x j) ↔ rowD s.1 v x)
  | 0, _ => Iff.rfl
  | j + 1, hj => by
    have hle := K.le
    have hlen := K.len
    have hjl : j < (elimS s).1.length := by omega
    have hr : (elimS s).1.getD j row0 = (elimS s).1[j] := by simp [List.getD, hjl]
    rw [takenTo, hr, rowD_less _ (taken_good K hx j (by omega)) (K.good _ (List.getElem_mem hjl)) (hv _ (List.getElem_mem hjl))]
    exact taken_rowD K hv hx j (by omega)
theorem allD_sys {s : Sys} (hv : validS s = true) (v : List Int) : allD s.1 v (elimS s).1 ↔ s.2.2.all (holdsE s.1 v) = true := by
  have K := elim_ok hv
  obtain ⟨p, u, l⟩ := s
  have hp := K.hp
  have hu := K.hu
  simp only at hp hu
  obtain ⟨U, rfl⟩ : ∃ U : Nat, u = U := ⟨u.toNat, by omega⟩
  have hg := sys_good (l := l) (U := U) (by omega) K.he
  have h1 := allD_elim hp (v := v) hg U (Nat.le_refl _)
  have h2 := allD_rows (p := p) (v := v) l.length l 0 (fun e he => by have := eqn_good (K.he e he); exact ⟨by omega, this.2.2.1, this.2.2.2⟩)
  simp only
  rw [← h2, ← h1]
  simp [elimS]
theorem extL_mem_of (p : Nat) : ∀ (m : Nat) (v u : List Int), u.length = m → (∀ a, a ∈ u → 0 ≤ a ∧ a < p) → v ++ u ∈ extL p m v
  | 0, v, u, h, _ => by
    obtain rfl : u = [] := List.eq_nil_of_length_eq_zero h
    simp [extL]
  | m + 1, v, [], h, _ => by simp at h
  | m + 1, v, a :: u, h, hr => by
    have ha := hr a (List.mem_cons_self ..)
    have ih := extL_mem_of p m (v ++ [a]) u (by simpa using h) (fun b hb => hr b (List.mem_cons_of_mem _ hb))
    simp only [List.append_assoc, List.cons_append, List.nil_append] at ih
    simp only [extL, List.mem_flatMap, List.mem_range]
    exact ⟨a.toNat, by omega, by rw [show ((a.toNat : Nat) : Int) = a by omega]; exact ih⟩
theorem answers_mem {s : Sys} (hv : validS s = true) {v : List Int} : v ∈ answersS s ↔ v.length = s.2.1.toNat ∧ Res s.1 v ∧ s.2.2.all (holdsE s.1 v) = true := by
  have hp := (elim_ok hv).hp
  have e1 : ((s.1.toNat : Nat) : Int) = s.1 := by omega
  rw [answersS_ext, List.mem_filter, e1]
  constructor
  · rintro ⟨h1, h2⟩
    obtain ⟨u, rfl, hu, hr⟩ := extL_mem _ _ _ _ h1
    exact ⟨by simpa using hu, fun a ha => by have := hr a (by simpa using ha); omega, h2⟩
  · rintro ⟨h1, h2, h3⟩
    refine ⟨?_, h3⟩
    have := extL_mem_of s.1.toNat s.2.1.toNat [] v h1 (fun a ha => by have := h2 a ha; omega)
    simpa using this
/-- An answer with the free unknowns as told. -/
theorem answer_at {s : Sys} (hv : validS s = true) (hf : ¬ 0 ≤ falseS s) {t : List Int} (ht : t.length = s.2.1.toNat) (hr : Res s.1 t) (hz : ∀ j (hj : j < (elimS s).2.length), t.getD (elimS s).2[j].toNat 0 = 0) : fixTo s.1 (elimS s).1 (elimS s).2 t (elimS s).2.length ∈ answersS s := by
  have K := elim_ok hv
  have hp := K.hp
  rw [answers_mem hv]
  exact ⟨by rw [fixTo_len]; exact ht, fixTo_res (by omega) _ _ _ hr _, (allD_sys hv _).1 (fix_all (by omega) K.good K.rref hf ht hz)⟩
/-- Follows just if it holds for all answers. -/
theorem der_all {s : Sys} (hv : validS s = true) (hf : ¬ 0 ≤ falseS s) {e : Eqn} (he : eqnOk s.1 s.2.1 e = true) : ((takenS s e).1.all (fun a => a == 0) && (takenS s e).2.1 == 0) = (answersS s).all (fun v => holdsE s.1 v e) := by
  have K := elim_ok hv
  have hp := K.hp
  have hu := K.hu
  have hge := goodS_of_eqn (n := s.2.2.length) (p := s.1) (U := s.2.1.toNat) (e := e) (by omega) (by rw [show ((s.2.1.toNat : Nat) : Int) = s.2.1 by omega]; exact he)
  have hx : GoodS s.1 s.2.1.toNat s.2.2.length (takenS s e) := taken_good K hge _ (Nat.le_refl _)
  have hiff : ∀ v, v ∈ answersS s → (holdsE s.1 v e = true ↔ rowD s.1 v (takenS s e)) := by
    intro v hm
    have h1 := (allD_sys hv v).2 ((answers_mem hv).1 hm).2.2
    have := taken_rowD K h1 hge _ (Nat.le_refl _)
    unfold takenS
    rw [this, ← holds_rowD (a := e.1) (b := e.2) (y := List.replicate s.2.2.length 0) (by omega) hge.right.1 hge.right.2]
  have hz := taken_zero K hge _ (Nat.le_refl _)
  have hzx : ∀ j (hj : j < (elimS s).2.length), (takenS s e).1.getD (elimS s).2[j].toNat 0 = 0 := fun j hj => hz j hj hj
  rw [Bool.eq_iff_iff, List.all_eq_true]
  constructor
  · intro h v hm
    rw [hiff v hm]
    simp only [Bool.and_eq_true, List.all_eq_true, beq_iff_eq] at h
    unfold rowD
    rw [dot_zero _ v (fun c hc => by simp only [List.getD, List.getElem?_eq_getElem hc, Option.getD_some]; exact h.1 _ (List.getElem_mem hc)), h.2]
    exact ⟨0, by simp⟩
  · intro h
    have key : ∀ t : List Int, t.length = s.2.1.toNat → Res s.1 t → (∀ j (hj : j < (elimS s).2.length), t.getD (elimS s).2[j].toNat 0 = 0) → s.1 ∣ dotI (takenS s e).1 t - (takenS s e).2.1 := by
      intro t ht hr h0
      have hm := answer_at hv hf ht hr h0
      have h1 := (hiff _ hm).1 (h _ hm)
      unfold rowD at h1
      rw [fix_same K.rref ht h0 _ hzx] at h1
      exact h1
    have g0 : ∀ c, (List.replicate s.2.1.toNat (0 : Int)).getD c 0 = 0 := fun c => by simp [List.getD, List.getElem?_replicate]; split <;> rfl
    have k0 := key (List.replicate s.2.1.toNat 0) (by simp) (fun a ha => by have := List.eq_of_mem_replicate ha; omega) (fun j _ => g0 _)
    have dz : ∀ l : List Int, dotI l (List.replicate s.2.1.toNat 0) = 0 := by
      intro l
      unfold dotI
      generalize s.2.1.toNat = n
      induction l generalizing n with
      | nil => simp
      | cons a l ih =>
        cases n with
        | zero => simp
        | succ n => simp [List.replicate_succ, ih n]
    rw [dz] at k0
    have hr2 : (takenS s e).2.1 = 0 := by
      obtain ⟨q, hq⟩ := k0
      have h6 : (takenS s e).2.1 % s.1 = 0 := by rw [show (takenS s e).2.1 = s.1 * -q by rw [Int.mul_neg]; omega]; exact Int.mul_emod_right _ _
      rwa [Int.emod_eq_of_lt hx.right.1 hx.right.2] at h6
    simp only [Bool.and_eq_true, List.all_eq_true, beq_iff_eq]
    refine ⟨fun a ha => ?_, hr2⟩
    obtain ⟨c, hc, rfl⟩ := List.getElem_of_mem ha
    have ec : (takenS s e).1.getD c 0 = (takenS s e).1[c] := by simp [List.getD, hc]
    by_cases hb : ∃ j, ∃ hj : j < (elimS s).2.length, (elimS s).2[j].toNat = c
    · obtain ⟨j, hj, e1⟩ := hb
      rw [← ec, ← e1]; exact hzx j hj
    · have hcU : c < s.2.1.toNat := by rw [← hx.len]; exact hc
      have k1 := key ((List.replicate s.2.1.toNat 0).set c 1) (by simp) (fun a ha => by
        rcases List.mem_or_eq_of_mem_set ha with h1 | h1
        · have := List.eq_of_mem_replicate h1; omega
        · omega) (fun j hj => by
          have hne : c ≠ (elimS s).2[j].toNat := fun e1 => hb ⟨j, hj, e1.symm⟩
          simp only [List.getD, List.getElem?_set_ne hne]
          exact g0 _)
      rw [dot_set _ _ _ _ (by simpa using hcU), dz, g0, hr2, ec] at k1
      obtain ⟨q, hq⟩ := k1
      have hres := hx.res.get c hc
      have h6 : (takenS s e).1[c] % s.1 = 0 := by rw [show (takenS s e).1[c] = s.1 * q by omega]; exact Int.mul_emod_right _ _
      rwa [Int.emod_eq_of_lt hres.1 hres.2] at h6
/-- The equation is made as told. -/
def MadeE (p : Int) (U : Nat) (eqs : List Eqn) (e : Eqn) (r : SRow) : Prop := ∀ f : Option Nat, (∀ u, f = some u → u < U) → p ∣ numR f r - numE f e - dotI r.2.2 (eqs.map (numE f))
theorem madeE_less {p : Int} {U n : Nat} {eqs : List Eqn} {e : Eqn} {r o : SRow} (k : Int) (hr : GoodS p U n r) (ho : GoodS p U n o) (h1 : MadeE p U eqs e r) (h2 : MadeOf p U eqs o) : MadeE p U eqs e (lessS p k r o) := by
  intro f hf
  obtain ⟨q, hq⟩ := dot_less p k r.2.2 o.2.2 (eqs.map (numE f)) (by rw [hr.by_, ho.by_])
  rw [numR_less k hr ho f hf]
  show p ∣ _ - _ - dotI (lessL p k r.2.2 o.2.2) _
  obtain ⟨a, ha⟩ := h1 f hf
  obtain ⟨b, hb⟩ := h2 f hf
  refine ⟨a - k * b - (numR f r - k * numR f o) / p - q, ?_⟩
  rw [hq, Int.emod_def]
  have e1 : numR f r = numE f e + dotI r.2.2 (eqs.map (numE f)) + p * a := by omega
  have e2 : numR f o = dotI o.2.2 (eqs.map (numE f)) + p * b := by omega
  have e3 : k * numR f o = k * dotI o.2.2 (eqs.map (numE f)) + p * (k * b) := by rw [e2, Int.mul_add, Int.mul_left_comm]
  simp only [Int.mul_sub]
  omega
theorem taken_made {s : Sys} (hv : validS s = true) {e : Eqn} {x : SRow} (hx : GoodS s.1 s.2.1.toNat s.2.2.length x) (h0 : MadeE s.1 s.2.1.toNat s.2.2 e x) : ∀ j, j ≤ (elimS s).2.length → MadeE s.1 s.2.1.toNat s.2.2 e (takenTo s.1 (elimS s).1 (elimS s).2 x j)
  | 0, _ => h0
  | j + 1, hj => by
    have K := elim_ok hv
    have hle := K.le
    have hlen := K.len
    have hjl : j < (elimS s).1.length := by omega
    have hr : (elimS s).1.getD j row0 = (elimS s).1[j] := by simp [List.getD, hjl]
    rw [takenTo, hr]
    exact madeE_less _ (taken_good K hx j (by omega)) (K.good _ (List.getElem_mem hjl)) (taken_made hv hx h0 j (by omega)) (made_sys hv _ (List.getElem_mem hjl))
/-- The numbers that DerivationOf tells make the equation. -/
theorem der_made {s : Sys} (hv : validS s = true) {e : Eqn} (he : eqnOk s.1 s.2.1 e = true) (hz : ((takenS s e).1.all (fun a => a == 0) && (takenS s e).2.1 == 0) = true) (f : Option Nat) (hf : ∀ u, f = some u → u < s.2.1.toNat) :
    dotI (scaleS s.1 (s.1 - 1) (takenS s e)).2.2 (s.2.2.map (numE f)) % s.1 = numE f e := by
  have K := elim_ok hv
  have hp := K.hp
  have hu := K.hu
  have hge := goodS_of_eqn (n := s.2.2.length) (p := s.1) (U := s.2.1.toNat) (e := e) (by omega) (by rw [show ((s.2.1.toNat : Nat) : Int) = s.2.1 by omega]; exact he)
  have hx : GoodS s.1 s.2.1.toNat s.2.2.length (takenS s e) := taken_good K hge _ (Nat.le_refl _)
  have h1 : MadeE s.1 s.2.1.toNat s.2.2 e (takenS s e) := taken_made hv hge (by
    intro g _
    rw [dot_zero _ _ (fun c hc => by simp [List.getD, List.getElem?_replicate]; split <;> rfl)]
    cases g <;> exact ⟨0, by simp [numR, numE]⟩) _ (Nat.le_refl _)
  simp only [Bool.and_eq_true, List.all_eq_true, beq_iff_eq] at hz
  have hn : numR f (takenS s e) = 0 := by
    cases f with
    | none => exact hz.2
    | some u =>
      have hul : u < (takenS s e).1.length := by rw [hx.len]; exact hf u rfl
      show (takenS s e).1.getD u 0 = 0
      simp only [List.getD, List.getElem?_eq_getElem hul, Option.getD_some]
      exact hz.1 _ (List.getElem_mem hul)
  obtain ⟨a, ha⟩ := h1 f hf
  obtain ⟨q, hq⟩ := dot_scale s.1 (s.1 - 1) (takenS s e).2.2 (s.2.2.map (numE f))
  show dotI (scaleL s.1 (s.1 - 1) (takenS s e).2.2) _ % _ = _
  rw [hn] at ha
  have hne : 0 ≤ numE f e ∧ numE f e < s.1 := by
    cases f with
    | none => exact hge.right
    | some u =>
      have hul : u < e.1.length := by have := hge.len; simp only at this; rw [this]; exact hf u rfl
      have := hge.res.get u hul
      simpa [numE, List.getD, hul] using this
  have e2 : dotI (scaleL s.1 (s.1 - 1) (takenS s e).2.2) (s.2.2.map (numE f)) = numE f e + s.1 * (dotI (takenS s e).2.2 (s.2.2.map (numE f)) + a + q) := by
    rw [hq, Int.sub_mul]
    simp only [Int.mul_add, Int.one_mul]
    omega
  rw [e2, Int.add_mul_emod_self_left, Int.emod_eq_of_lt hne.1 hne.2]

end Go.Proofs.YthceklaoikeokaaGreatDoor
