/-
  PLAIN LAW: each row is made of the equations as it says: its numbers are the sums of the equations' numbers, so many times each.
-/
import Derived.Test.YthceklaoikeokaaGreatDoorSysB
namespace Go.Proofs.YthceklaoikeokaaGreatDoor
open Go.RowKit
set_option linter.unusedSimpArgs false
set_option linter.unusedVariables false

/-- A number of an equation, of a row: on the left at a place, or the right one. -/
def numE : Option Nat → Eqn → Int
  | some u, e => e.1.getD u 0
  | none, e => e.2
def numR : Option Nat → SRow → Int
  | some u, r => r.1.getD u 0
  | none, r => r.2.1
def MadeOf (p : Int) (U : Nat) (eqs : List Eqn) (r : SRow) : Prop := ∀ f : Option Nat, (∀ u, f = some u → u < U) → p ∣ numR f r - dotI r.2.2 (eqs.map (numE f))
theorem numR_less {p : Int} {U n : Nat} {r o : SRow} (k : Int) (hr : GoodS p U n r) (ho : GoodS p U n o) (f : Option Nat) (hf : ∀ u, f = some u → u < U) : numR f (lessS p k r o) = (numR f r - k * numR f o) % p := by
  cases f with
  | none => rfl
  | some u =>
    have hu := hf u rfl
    show (lessL p k r.1 o.1).getD u 0 = _
    exact getD_zip _ _ _ u (by rw [hr.len]; exact hu) (by rw [ho.len]; exact hu)
theorem numR_scale {p : Int} {U n : Nat} {r : SRow} (k : Int) (hr : GoodS p U n r) (f : Option Nat) (hf : ∀ u, f = some u → u < U) : numR f (scaleS p k r) = numR f r * k % p := by
  cases f with
  | none => rfl
  | some u =>
    have hu := hf u rfl
    show (scaleL p k r.1).getD u 0 = _
    exact getD_zip _ _ _ u (by rw [hr.len]; exact hu) (by rw [hr.len]; exact hu)
theorem made_less {p : Int} {U n : Nat} {eqs : List Eqn} {r o : SRow} (k : Int) (hr : GoodS p U n r) (ho : GoodS p U n o) (h1 : MadeOf p U eqs r) (h2 : MadeOf p U eqs o) : MadeOf p U eqs (lessS p k r o) := by
  intro f hf
  obtain ⟨q, hq⟩ := dot_less p k r.2.2 o.2.2 (eqs.map (numE f)) (by rw [hr.by_, ho.by_])
  rw [numR_less k hr ho f hf]
  show p ∣ _ - dotI (lessL p k r.2.2 o.2.2) _
  obtain ⟨a, ha⟩ := h1 f hf
  obtain ⟨b, hb⟩ := h2 f hf
  refine ⟨a - k * b - (numR f r - k * numR f o) / p - q, ?_⟩
  rw [hq, Int.emod_def]
  have e1 : numR f r = dotI r.2.2 (eqs.map (numE f)) + p * a := by omega
  have e2 : numR f o = dotI o.2.2 (eqs.map (numE f)) + p * b := by omega
  have e3 : k * numR f o = k * dotI o.2.2 (eqs.map (numE f)) + p * (k * b) := by rw [e2, Int.mul_add, Int.mul_left_comm]
  simp only [Int.mul_sub]
  omega
theorem made_scale {p : Int} {U n : Nat} {eqs : List Eqn} {r : SRow} (k : Int) (hr : GoodS p U n r) (h1 : MadeOf p U eqs r) : MadeOf p U eqs (scaleS p k r) := by
  intro f hf
  obtain ⟨q, hq⟩ := dot_scale p k r.2.2 (eqs.map (numE f))
  rw [numR_scale k hr f hf]
  show p ∣ _ - dotI (scaleL p k r.2.2) _
  obtain ⟨a, ha⟩ := h1 f hf
  refine ⟨k * a - numR f r * k / p - q, ?_⟩
  rw [hq, Int.emod_def]
  have e1 : numR f r = dotI r.2.2 (eqs.map (numE f)) + p * a := by omega
  have e2 : numR f r * k = k * dotI r.2.2 (eqs.map (numE f)) + p * (k * a) := by rw [e1, Int.add_mul, Int.mul_comm (dotI _ _) k, Int.mul_assoc, Int.mul_comm a k]
  simp only [Int.mul_sub]
  omega
def AllMade (p : Int) (U : Nat) (eqs : List Eqn) (rows : List SRow) : Prop := ∀ r, r ∈ rows → MadeOf p U eqs r
theorem made_swap {p : Int} {U : Nat} {eqs : List Eqn} (d : SRow) {rows : List SRow} (i j : Nat) (hi : i < rows.length) (hj : j < rows.length) (h : AllMade p U eqs rows) : AllMade p U eqs (swapL d rows i j) := by
  intro r hr
  obtain ⟨k, hk⟩ := List.mem_iff_getElem?.1 hr
  rw [swapL_get d rows i j hi hj] at hk
  split at hk
  · exact h r (List.mem_iff_getElem?.2 ⟨_, hk⟩)
  · split at hk <;> exact h r (List.mem_iff_getElem?.2 ⟨_, hk⟩)
theorem made_step {p : Int} {U n : Nat} {eqs : List Eqn} (hp : 0 < p) {u : Nat} {rows : List SRow} {bs : List Int} (hg : AllG p U n rows) (h : AllMade p U eqs rows) : AllMade p U eqs (stepE (opsS p) u (rows, bs)).1 := by
  unfold stepE
  simp only
  split
  · exact h
  · rename_i k hk
    have hk1 := find_lt hk
    simp only [List.length_drop] at hk1
    have hd : bs.length < rows.length := by omega
    have hdk : bs.length + k < rows.length := by omega
    have hg1 := allG_swap hg (opsS p).dflt bs.length (bs.length + k) hd hdk
    have hm1 := made_swap (opsS p).dflt bs.length (bs.length + k) hd hdk h
    have hl1 : bs.length < (swapL (opsS p).dflt rows bs.length (bs.length + k)).length := by simpa using hd
    unfold pivotE
    simp only
    generalize swapL (opsS p).dflt rows bs.length (bs.length + k) = r1 at *
    have hx0 : GoodS p U n (r1.getD bs.length (opsS p).dflt) := goodS_of_get hg1 bs.length hl1 _
    have hm0 : MadeOf p U eqs (r1.getD bs.length (opsS p).dflt) := by
      simp only [List.getD, List.getElem?_eq_getElem hl1, Option.getD_some]; exact hm1 _ (List.getElem_mem hl1)
    have hgx : GoodS p U n ((opsS p).scale (r1.getD bs.length (opsS p).dflt) ((opsS p).get (r1.getD bs.length (opsS p).dflt) u)) := goodS_scale hp _ hx0
    have hmx : MadeOf p U eqs ((opsS p).scale (r1.getD bs.length (opsS p).dflt) ((opsS p).get (r1.getD bs.length (opsS p).dflt) u)) := made_scale _ hx0 hm0
    generalize (opsS p).scale (r1.getD bs.length (opsS p).dflt) ((opsS p).get (r1.getD bs.length (opsS p).dflt) u) = x at *
    intro r hr
    simp only [List.mem_mapIdx] at hr
    obtain ⟨i, hi, rfl⟩ := hr
    have hgi := allG_set hg1 bs.length hgx _ (List.getElem_mem hi)
    have hmi : MadeOf p U eqs (r1.set bs.length x)[i] := by
      rcases List.mem_or_eq_of_mem_set (List.getElem_mem hi) with h1 | h1
      · exact hm1 _ h1
      · rw [h1]; exact hmx
    unfold elimRow
    split
    · exact hmi
    · show MadeOf p U eqs (if _ then _ else _)
      split
      · exact hmi
      · exact made_less _ hgi hgx hmi hmx
theorem made_elim {p : Int} {U n : Nat} {eqs : List Eqn} (hp : 0 < p) {rows : List SRow} (hg : AllG p U n rows) (h : AllMade p U eqs rows) : ∀ u, AllMade p U eqs (elimE (opsS p) rows u).1
  | 0 => h
  | u + 1 => made_step hp (elim_good hp hg u) (made_elim hp hg h u)
theorem dot_unit : ∀ (n i : Nat) (v : List Int), i < n → n = v.length → dotI ((List.replicate n 0).set i 1) v = v.getD i 0
  | 0, i, v, h, _ => absurd h (Nat.not_lt_zero _)
  | n + 1, i, [], _, h => by simp at h
  | n + 1, 0, b :: v, _, h => by
    rw [List.replicate_succ, List.set_cons_zero, dotI_cons, dot_zero _ _ (fun c hc => by simp [List.getD, List.getElem?_replicate]; split <;> rfl)]
    simp
  | n + 1, i + 1, b :: v, h1, h => by
    rw [List.replicate_succ, List.set_cons_succ, dotI_cons, dot_unit n i v (by omega) (by simpa using h)]
    simp
theorem made_rows {p : Int} {U : Nat} (all : List Eqn) : ∀ (l : List Eqn) (i : Nat), (∀ j e, l[j]? = some e → all[i + j]? = some e) → AllMade p U all (rowsS all.length i l)
  | [], i, _ => fun r hr => by simp [rowsS] at hr
  | e :: l, i, h => by
    have ih := made_rows (p := p) (U := U) all l (i + 1) (fun j x hj => by have := h (j + 1) x (by simpa using hj); rw [show i + 1 + j = i + (j + 1) by omega]; exact this)
    have h0 := h 0 e rfl
    rw [Nat.add_zero] at h0
    have hi := (List.getElem?_eq_some_iff.1 h0).1
    intro r hr
    have hr2 : r = (e.1, e.2, (List.replicate all.length 0).set i 1) ∨ r ∈ rowsS all.length (i + 1) l := by
      simpa [rowsS] using hr
    rcases hr2 with rfl | hr2
    · intro f hf
      have hd := dot_unit all.length i (all.map (numE f)) hi (by simp)
      simp only
      rw [hd]
      have : (all.map (numE f)).getD i 0 = numE f e := by simp [List.getD, h0]
      rw [this]
      cases f <;> simp [numR, numE]
    · exact ih r hr2
theorem made_sys {s : Sys} (h : validS s = true) : AllMade s.1 s.2.1.toNat s.2.2 (elimS s).1 := by
  have K := elim_ok h
  obtain ⟨p, u, l⟩ := s
  have hp := K.hp
  have hu := K.hu
  simp only at hp hu
  obtain ⟨U, rfl⟩ : ∃ U : Nat, u = U := ⟨u.toNat, by omega⟩
  have hg := sys_good (l := l) (U := U) (by omega) K.he
  unfold elimS
  simp only [Int.toNat_natCast]
  exact made_elim (by omega) hg (made_rows l l 0 (fun j e hj => by simpa using hj)) U

end Go.Proofs.YthceklaoikeokaaGreatDoor
