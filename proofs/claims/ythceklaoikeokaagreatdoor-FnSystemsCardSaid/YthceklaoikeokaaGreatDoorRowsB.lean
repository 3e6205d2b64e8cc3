/-
  SEVERAL TEXTS IN ONE.
-/
import Derived.Test.YthceklaoikeokaaGreatDoorBase
import Derived.Test.YthceklaoikeokaaGreatDoorKinds
import Derived.Shelf.Abstract
import Derived.Lib.BufferMore
import Derived.Deep.RegionHeld3
import Derived.Deep.DeepCutAuto
import Derived.IntWalk
import Derived.Laws.StructEq

/-
  PLAIN LAW: elimination, once for rows as the program keeps them, once as the reference does; both do the same.
-/
namespace Go.Proofs.YthceklaoikeokaaGreatDoor
open Go.RowKit
set_option linter.unusedSimpArgs false
set_option linter.unusedVariables false

abbrev RowT := List Int × List Int
abbrev SRow := List Int × Int × List Int
/-- Only numbers 0 on its left. -/
def noneR (l : List Int) : Bool := (l.take (l.length - 1)).all (fun a => a == 0)
/-- The right number. -/
def rightR (l : List Int) : Int := l.getD (l.length - 1) 0
/-- A row of the reference, as the program keeps it. -/
def flat (r : SRow) : RowT := (r.1 ++ [r.2.1], r.2.2)
def addL (p k : Int) (l m : List Int) : List Int := List.zipWith (fun a b => (a + k * b) % p) l m ++ l.drop m.length
def addR (p k : Int) (r s : RowT) : RowT := (addL p k r.1 s.1, addL p k r.2 s.2)
def timesR (p n : Int) (r : RowT) : RowT := addR p (n - 1 + p) r r
def lessL (p k : Int) (l m : List Int) : List Int := List.zipWith (fun a b => (a - k * b) % p) l m
def lessS (p k : Int) (r o : SRow) : SRow := (lessL p k r.1 o.1, (r.2.1 - k * o.2.1) % p, lessL p k r.2.2 o.2.2)
def scaleL (p k : Int) (l : List Int) : List Int := List.zipWith (fun a _ => a * k % p) l l
def scaleS (p k : Int) (r : SRow) : SRow := (scaleL p k r.1, r.2.1 * k % p, scaleL p k r.2.2)

/-- What elimination asks of rows. -/
structure ROps (α : Type) where
  get : α → Nat → Int
  scale : α → Int → α
  less : α → α → Int → α
  dflt : α
def opsI (p : Int) : ROps RowT := ⟨fun r u => r.1.getD u 0, fun r n => timesR p n r, fun r x n => addR p (p - n) r x, ([], [])⟩
def opsS (p : Int) : ROps SRow := ⟨fun r u => r.1.getD u 0, fun r n => scaleS p n r, fun r x n => if n = 0 then r else lessS p n r x, ([], 0, [])⟩

def swapL {α : Type} (d : α) (l : List α) (i j : Nat) : List α := (l.set i (l.getD j d)).set j (l.getD i d)
@[simp] theorem swapL_length {α : Type} (d : α) (l : List α) (i j : Nat) : (swapL d l i j).length = l.length := by simp [swapL]
def elimRow {α : Type} (O : ROps α) (u done : Nat) (x : α) (i : Nat) (r : α) : α := if i = done then r else O.less r x (O.get r u)
def pivotE {α : Type} (O : ROps α) (u : Nat) (rows : List α) (done k : Nat) : List α :=
  let r1 := swapL O.dflt rows done (done + k)
  let x := O.scale (r1.getD done O.dflt) (O.get (r1.getD done O.dflt) u)
  (r1.set done x).mapIdx (elimRow O u done x)
def stepE {α : Type} (O : ROps α) (u : Nat) (st : List α × List Int) : List α × List Int :=
  match (st.1.drop st.2.length).findIdx? (fun r => O.get r u != 0) with
  | none => st
  | some k => (pivotE O u st.1 st.2.length k, st.2 ++ [(u : Int)])
def elimE {α : Type} (O : ROps α) (rows : List α) : Nat → List α × List Int
  | 0 => (rows, [])
  | u + 1 => stepE O u (elimE O rows u)

/-! ### The same numbers -/
theorem add_less (p n a b : Int) : (a + (p - n) * b) % p = (a - n * b) % p := by
  rw [show a + (p - n) * b = a - n * b + p * b by rw [Int.sub_mul]; omega, Int.add_mul_emod_self_left]
theorem times_scale (p n a : Int) : (a + (n - 1 + p) * a) % p = a * n % p := by
  rw [show a + (n - 1 + p) * a = a * n + p * a by rw [Int.add_mul, Int.sub_mul, Int.one_mul, Int.mul_comm n a]; omega, Int.add_mul_emod_self_left]
theorem addL_same {p k : Int} {l m : List Int} (h : l.length = m.length) : addL p k l m = List.zipWith (fun a b => (a + k * b) % p) l m := by
  unfold addL; rw [← h, List.drop_length, List.append_nil]
theorem addL_append {p k : Int} {l m : List Int} {a b : Int} (h : l.length = m.length) : addL p k (l ++ [a]) (m ++ [b]) = addL p k l m ++ [(a + k * b) % p] := by
  rw [addL_same (by simp [h]), addL_same h, List.zipWith_append h]; rfl

/-- A row as it should be: U unknowns, made of n equations. -/
structure GoodS (p : Int) (U n : Nat) (r : SRow) : Prop where
  len : r.1.length = U
  by_ : r.2.2.length = n
  res : Res p r.1
  right : 0 ≤ r.2.1 ∧ r.2.1 < p
  resBy : Res p r.2.2
theorem res_zip {p : Int} (hp : 0 < p) (f : Int → Int → Int) (l m : List Int) : Res p (List.zipWith (fun a b => f a b % p) l m) := by
  intro a ha
  obtain ⟨i, hi, rfl⟩ := List.getElem_of_mem ha
  simp only [List.getElem_zipWith]
  exact ⟨Int.emod_nonneg _ (by omega), Int.emod_lt_of_pos _ hp⟩
theorem goodS_less {p : Int} {U n : Nat} {r o : SRow} (hp : 0 < p) (k : Int) (hr : GoodS p U n r) (ho : GoodS p U n o) : GoodS p U n (lessS p k r o) :=
  ⟨by simp [lessS, lessL, hr.len, ho.len], by simp [lessS, lessL, hr.by_, ho.by_], res_zip hp (fun a b => a - k * b) _ _, ⟨Int.emod_nonneg _ (by omega), Int.emod_lt_of_pos _ hp⟩, res_zip hp (fun a b => a - k * b) _ _⟩
theorem goodS_scale {p : Int} {U n : Nat} {r : SRow} (hp : 0 < p) (k : Int) (hr : GoodS p U n r) : GoodS p U n (scaleS p k r) :=
  ⟨by simp [scaleS, scaleL, hr.len], by simp [scaleS, scaleL, hr.by_], res_zip hp (fun a _ => a * k) _ _, ⟨Int.emod_nonneg _ (by omega), Int.emod_lt_of_pos _ hp⟩, res_zip hp (fun a _ => a * k) _ _⟩
theorem addL_less {p n : Int} {l m : List Int} (h : l.length = m.length) : addL p (p - n) l m = lessL p n l m := by
  rw [addL_same h]; unfold lessL; simp only [add_less]
theorem lessL_zero {p : Int} {l m : List Int} (h : l.length = m.length) (hr : Res p l) : lessL p 0 l m = l := by
  unfold lessL
  apply List.ext_getElem
  · simp [h]
  · intro i h1 h2
    simp only [List.getElem_zipWith, Int.zero_mul, Int.sub_zero]
    exact Int.emod_eq_of_lt (hr.get i h2).1 (hr.get i h2).2
theorem flat_less {p : Int} {U n : Nat} {r o : SRow} (k : Int) (hr : GoodS p U n r) (ho : GoodS p U n o) : flat (lessS p k r o) = addR p (p - k) (flat r) (flat o) := by
  unfold flat addR lessS
  simp only
  rw [addL_append (by rw [hr.len, ho.len]), addL_less (by rw [hr.len, ho.len]), addL_less (by rw [hr.by_, ho.by_]), add_less]
theorem lessS_zero {p : Int} {U n : Nat} {r o : SRow} (hr : GoodS p U n r) (ho : GoodS p U n o) : lessS p 0 r o = r := by
  unfold lessS
  rw [lessL_zero (by rw [hr.len, ho.len]) hr.res, lessL_zero (by rw [hr.by_, ho.by_]) hr.resBy, Int.zero_mul, Int.sub_zero, Int.emod_eq_of_lt hr.right.1 hr.right.2]
theorem addL_scale {p n : Int} {l : List Int} : addL p (n - 1 + p) l l = scaleL p n l := by
  rw [addL_same rfl]; unfold scaleL
  apply List.ext_getElem
  · simp
  · intro i h1 h2
    simp only [List.getElem_zipWith]
    exact times_scale p n _
theorem flat_scale {p : Int} (k : Int) (r : SRow) : flat (scaleS p k r) = timesR p k (flat r) := by
  unfold flat timesR addR scaleS
  simp only
  rw [addL_append rfl, addL_scale, addL_scale, times_scale]
theorem flat_get {r : SRow} {u : Nat} (h : u < r.1.length) : (flat r).1.getD u 0 = r.1.getD u 0 := by
  simp [flat, List.getD, List.getElem?_append_left h]

/-! ### The same elimination -/
def AllG (p : Int) (U n : Nat) (rows : List SRow) : Prop := ∀ r, r ∈ rows → GoodS p U n r
theorem goodS_of_get {p : Int} {U n : Nat} {rows : List SRow} (h : AllG p U n rows) (i : Nat) (hi : i < rows.length) (d : SRow) : GoodS p U n (rows.getD i d) := by
  simp only [List.getD, List.getElem?_eq_getElem hi, Option.getD_some]; exact h _ (List.getElem_mem hi)
theorem allG_set {p : Int} {U n : Nat} {rows : List SRow} (h : AllG p U n rows) (i : Nat) {x : SRow} (hx : GoodS p U n x) : AllG p U n (rows.set i x) := by
  intro r hr
  rcases List.mem_or_eq_of_mem_set hr with h1 | h1
  · exact h r h1
  · subst h1; exact hx
theorem allG_swap {p : Int} {U n : Nat} {rows : List SRow} (h : AllG p U n rows) (d : SRow) (i j : Nat) (hi : i < rows.length) (hj : j < rows.length) : AllG p U n (swapL d rows i j) :=
  allG_set (allG_set h i (goodS_of_get h j hj d)) j (goodS_of_get h i hi d)
theorem getD_map {α β : Type} (f : α → β) (l : List α) (i : Nat) (d : α) (e : β) (h : i < l.length) : (l.map f).getD i e = f (l.getD i d) := by simp [List.getD, h]
theorem swapL_map {α β : Type} (f : α → β) (l : List α) (i j : Nat) (d : α) (e : β) (hi : i < l.length) (hj : j < l.length) : swapL e (l.map f) i j = (swapL d l i j).map f := by
  unfold swapL
  rw [getD_map f l i d e hi, getD_map f l j d e hj, List.map_set, List.map_set]
theorem find_lt {α : Type} {q : α → Bool} {l : List α} {k : Nat} (h : l.findIdx? q = some k) : k < l.length := by
  rw [List.findIdx?_eq_some_iff_getElem] at h; exact h.1
theorem swap_at {α : Type} (d : α) (l : List α) (i j : Nat) (hi : i < l.length) (hj : j < l.length) : (swapL d l i j).getD i d = l.getD j d := by
  unfold swapL
  simp only [List.getD, List.getElem?_set, List.length_set, hi, hj, if_true]
  by_cases h : j = i
  · subst h; simp
  · simp [h, hi]
theorem step_good {p : Int} {U n : Nat} (hp : 0 < p) {u : Nat} {rows : List SRow} {bs : List Int} (h : AllG p U n rows) : AllG p U n (stepE (opsS p) u (rows, bs)).1 := by
  unfold stepE
  simp only
  split
  · exact h
  · rename_i k hk
    have hk1 := find_lt hk
    simp only [List.length_drop] at hk1
    have hd : bs.length < rows.length := by omega
    have h1 := allG_swap h (opsS p).dflt bs.length (bs.length + k) hd (by omega)
    have hx := goodS_of_get h1 bs.length (by simpa using hd) (opsS p).dflt
    have hx' : GoodS p U n ((opsS p).scale ((swapL (opsS p).dflt rows bs.length (bs.length + k)).getD bs.length (opsS p).dflt) ((opsS p).get ((swapL (opsS p).dflt rows bs.length (bs.length + k)).getD bs.length (opsS p).dflt) u)) := goodS_scale hp _ hx
    intro r hr
    unfold pivotE at hr
    simp only [List.mem_mapIdx] at hr
    obtain ⟨i, hi, rfl⟩ := hr
    have h2 := allG_set h1 bs.length hx' _ (List.getElem_mem hi)
    unfold elimRow
    split
    · exact h2
    · show GoodS p U n (if _ then _ else _)
      split
      · exact h2
      · exact goodS_less hp _ h2 hx'
theorem step_map {p : Int} {U n : Nat} (hp : 0 < p) {u : Nat} (hu : u < U) {rows : List SRow} {bs : List Int} (h : AllG p U n rows) :
    stepE (opsI p) u (rows.map flat, bs) = ((stepE (opsS p) u (rows, bs)).1.map flat, (stepE (opsS p) u (rows, bs)).2) := by
  have hfind : ((rows.map flat).drop bs.length).findIdx? (fun r => (opsI p).get r u != 0) = (rows.drop bs.length).findIdx? (fun r => (opsS p).get r u != 0) := by
    rw [← List.map_drop, List.findIdx?_map]
    have : ∀ l : List SRow, AllG p U n l → l.findIdx? ((fun r => (opsI p).get r u != 0) ∘ flat) = l.findIdx? (fun r => (opsS p).get r u != 0) := by
      intro l hl
      induction l with
      | nil => rfl
      | cons r rs ih =>
        have hr := hl r (List.mem_cons_self ..)
        have e : (opsI p).get (flat r) u = (opsS p).get r u := flat_get (by rw [hr.len]; exact hu)
        simp only [List.findIdx?_cons, Function.comp, e]
        rw [← ih (fun x hx => hl x (List.mem_cons_of_mem _ hx))]
    exact this _ (fun r hr => h r (List.mem_of_mem_drop hr))
  unfold stepE
  simp only
  rw [hfind]
  split
  · rfl
  · rename_i k hk
    have hk1 := find_lt hk
    simp only [List.length_drop] at hk1
    have hd : bs.length < rows.length := by omega
    have h1 := allG_swap h (opsS p).dflt bs.length (bs.length + k) hd (by omega)
    have hx := goodS_of_get h1 bs.length (by simpa using hd) (opsS p).dflt
    simp only [Prod.mk.injEq, and_true]
    unfold pivotE
    rw [swapL_map flat rows _ _ (opsS p).dflt (opsI p).dflt hd (by omega)]
    simp only
    generalize hr1 : swapL (opsS p).dflt rows bs.length (bs.length + k) = r1 at *
    have hl1 : bs.length < r1.length := by rw [← hr1]; simpa using hd
    rw [getD_map flat r1 _ (opsS p).dflt (opsI p).dflt hl1]
    generalize r1.getD bs.length (opsS p).dflt = x0 at *
    have e0 : (opsI p).get (flat x0) u = (opsS p).get x0 u := flat_get (by rw [hx.len]; exact hu)
    have e1 : (opsI p).scale (flat x0) ((opsS p).get x0 u) = flat ((opsS p).scale x0 ((opsS p).get x0 u)) := (flat_scale _ _).symm
    rw [e0, e1]
    have hx' : GoodS p U n ((opsS p).scale x0 ((opsS p).get x0 u)) := goodS_scale hp _ hx
    generalize (opsS p).scale x0 ((opsS p).get x0 u) = x at *
    have h2 := allG_set h1 bs.length hx'
    rw [← List.map_set]
    apply List.ext_getElem
    · simp
    · intro i q1 q2
      simp only [List.getElem_mapIdx, List.getElem_map]
      have hg : GoodS p U n ((r1.set bs.length x)[i]'(by simpa using q1)) := h2 _ (List.getElem_mem _)
      generalize (r1.set bs.length x)[i]'(by simpa using q1) = r at *
      unfold elimRow
      have e2 : (opsI p).get (flat r) u = (opsS p).get r u := flat_get (by rw [hg.len]; exact hu)
      rw [e2]
      split
      · rfl
      · show addR p (p - _) (flat r) (flat x) = flat (if _ then _ else _)
        rw [← flat_less _ hg hx']
        split
        · rename_i hz; rw [hz, lessS_zero hg hx']
        · rfl
theorem elim_good {p : Int} {U n : Nat} (hp : 0 < p) {rows : List SRow} (h : AllG p U n rows) : ∀ u, AllG p U n (elimE (opsS p) rows u).1
  | 0 => h
  | u + 1 => by
    have := elim_good hp h u
    exact step_good (bs := (elimE (opsS p) rows u).2) hp this
theorem elim_map {p : Int} {U n : Nat} (hp : 0 < p) {rows : List SRow} (h : AllG p U n rows) : ∀ u, u ≤ U → elimE (opsI p) (rows.map flat) u = ((elimE (opsS p) rows u).1.map flat, (elimE (opsS p) rows u).2)
  | 0, _ => rfl
  | u + 1, hu => by
    show stepE (opsI p) u (elimE (opsI p) (rows.map flat) u) = _
    rw [elim_map hp h u (by omega)]
    exact step_map (bs := (elimE (opsS p) rows u).2) hp (by omega) (elim_good hp h u)

end Go.Proofs.YthceklaoikeokaaGreatDoor

/-
  PLAIN: two elements of an owned slice change places.
-/
namespace Go.Proofs.YthceklaoikeokaaGreatDoor
open Go.RowKit
open Rep (Rd Own sz)
set_option linter.unusedSimpArgs false
set_option linter.unusedVariables false

def sigma (i j k : Nat) : Nat := if k = j then i else if k = i then j else k
theorem sigma_inj {i j a b : Nat} (h : sigma i j a = sigma i j b) : a = b := by unfold sigma at h; split at h <;> split at h <;> (try split at h) <;> (try split at h) <;> omega
theorem sigma_lt {i j k n : Nat} (hi : i < n) (hj : j < n) (hk : k < n) : sigma i j k < n := by unfold sigma; split <;> (try split) <;> omega
theorem set2_get {α : Type} (l : List α) (i j k : Nat) (hi : i < l.length) (hj : j < l.length) : ((l.set i l[j]).set j l[i])[k]? = l[sigma i j k]? := by
  unfold sigma
  by_cases hkj : k = j
  · subst hkj
    rw [List.getElem?_set_self (by simpa using hj), if_pos rfl, List.getElem?_eq_getElem hi]
  · rw [List.getElem?_set_ne (Ne.symm hkj), if_neg hkj]
    by_cases hki : k = i
    · subst hki
      rw [List.getElem?_set_self hi, if_pos rfl, List.getElem?_eq_getElem hj]
    · rw [List.getElem?_set_ne (Ne.symm hki), if_neg hki]
theorem swapL_eq {α : Type} (d : α) (l : List α) (i j : Nat) (hi : i < l.length) (hj : j < l.length) : swapL d l i j = (l.set i l[j]).set j l[i] := by
  simp [swapL, List.getD, hi, hj]
theorem nodup_of_disj {L : List (List Nat)} (h1 : ∀ (i : Nat) (p : List Nat), L[i]? = some p → p.Nodup) (h2 : ∀ (i j : Nat) (p q : List Nat), i ≠ j → L[i]? = some p → L[j]? = some q → ∀ x, x ∈ p → x ∉ q) : (List.flatten L).Nodup := by
  unfold List.Nodup
  rw [List.pairwise_flatten]
  refine ⟨fun p hp => ?_, ?_⟩
  · obtain ⟨i, hi⟩ := List.mem_iff_getElem?.1 hp
    exact h1 i p hi
  · rw [List.pairwise_iff_getElem]
    intro a b ha hb hab x hx y hy e
    subst e
    exact h2 a b _ _ (by omega) (List.getElem?_eq_getElem ha) (List.getElem?_eq_getElem hb) x hx hy
theorem disj_of_nodup {L : List (List Nat)} (h : (List.flatten L).Nodup) : (∀ (i : Nat) (p : List Nat), L[i]? = some p → p.Nodup) ∧ ∀ (i j : Nat) (p q : List Nat), i ≠ j → L[i]? = some p → L[j]? = some q → ∀ x, x ∈ p → x ∉ q := by
  unfold List.Nodup at h
  rw [List.pairwise_flatten, List.pairwise_iff_getElem] at h
  refine ⟨fun i p hp => h.1 p (List.mem_of_getElem? hp), fun i j p q hij hp hq x hx hxq => ?_⟩
  obtain ⟨hi, rfl⟩ := List.getElem?_eq_some_iff.1 hp
  obtain ⟨hj, rfl⟩ := List.getElem?_eq_some_iff.1 hq
  rcases Nat.lt_or_gt_of_ne hij with hlt | hlt
  · exact h.2 i j hi hj hlt x hx x hxq rfl
  · exact h.2 j i hj hi hlt x hxq x hx rfl

end Go.Proofs.YthceklaoikeokaaGreatDoor

/-
  PLAIN: owned, in blocks of which something is known: an element is written anew, two change places; numbers are appended.
-/
namespace Go.Proofs.YthceklaoikeokaaGreatDoor
open Go.RowKit
open Rep (Rd Own sz)
set_option linter.unusedSimpArgs false
set_option linter.unusedVariables false

/-- Owned, no block twice, all blocks as A says. -/
def Ip {α : Type} [Rep α] (A : Nat → Prop) (w : World) (vs : List Value) (x : α) : Prop := ∃ ps, Own ps w vs x ∧ ps.Nodup ∧ ∀ k, k ∈ ps → A k
theorem Ip.of_iv {α : Type} [Rep α] {lo hi : Nat} {w : World} {vs : List Value} {x : α} (h : Iv lo hi w vs x) : Ip (fun k => lo ≤ k ∧ k < hi) w vs x := h
theorem Ip.iv {α : Type} [Rep α] {A : Nat → Prop} {lo hi : Nat} {w : World} {vs : List Value} {x : α} (h : Ip A w vs x) (hA : ∀ k, A k → lo ≤ k ∧ k < hi) : Iv lo hi w vs x := by
  obtain ⟨ps, h1, h2, h3⟩ := h; exact ⟨ps, h1, h2, fun k hk => hA k (h3 k hk)⟩
theorem Ip.wk {α : Type} [Rep α] {A B : Nat → Prop} {w : World} {vs : List Value} {x : α} (h : Ip A w vs x) (hA : ∀ k, A k → B k) : Ip B w vs x := by
  obtain ⟨ps, h1, h2, h3⟩ := h; exact ⟨ps, h1, h2, fun k hk => hA k (h3 k hk)⟩
theorem Ip.rd {α : Type} [Rep α] {A : Nat → Prop} {w : World} {vs : List Value} {x : α} (h : Ip A w vs x) : Rd w vs x := by
  obtain ⟨ps, h1, _⟩ := h; exact Rep.own_rd h1
theorem Ip.mono {α : Type} [Rep α] {A : Nat → Prop} {w w' : World} {vs : List Value} {x : α} (h : Ip A w vs x) (hb : Below w.heap.size w w') : Ip A w' vs x := by
  obtain ⟨ps, h1, h2, h3⟩ := h; exact ⟨ps, Own.mono h1 hb, h2, h3⟩
theorem Ip.frame {α : Type} [Rep α] {A : Nat → Prop} {w w' : World} {vs : List Value} {x : α} (h : Ip A w vs x) (hb : ∀ k, A k → k < w.heap.size → w'.heap[k]? = w.heap[k]?) : Ip A w' vs x := by
  obtain ⟨ps, h1, h2, h3⟩ := h; exact ⟨ps, Rep.own_frame (fun k hk => hb k (h3 k hk) (Rep.own_lt h1 k hk)) h1, h2, h3⟩
theorem ip_cons {α β : Type} [Rep α] [Rep β] {A B C : Nat → Prop} {w : World} {v : Value} {vs : List Value} {x : α} {y : β} (h1 : Ip A w [v] x) (h2 : Ip B w vs y) (hd : ∀ k, A k → ¬ B k) (hA : ∀ k, A k → C k) (hB : ∀ k, B k → C k) : Ip C w (v :: vs) (x, y) := by
  obtain ⟨p, o1, n1, b1⟩ := h1
  obtain ⟨q, o2, n2, b2⟩ := h2
  refine ⟨p ++ q, ⟨p, q, [v], vs, rfl, rfl, o1, o2⟩, ?_, fun k hk => ?_⟩
  · rw [List.nodup_append]
    refine ⟨n1, n2, fun a ha b hb e => ?_⟩
    subst e
    exact hd a (b1 a ha) (b2 a hb)
  · rcases List.mem_append.1 hk with hk | hk
    · exact hA k (b1 k hk)
    · exact hB k (b2 k hk)
/-- Where a slice that is owned and not empty lies. -/
theorem ip_form {α : Type} [Rep α] {A : Nat → Prop} {w : World} {v : Value} {l : List α} (h : Ip A w [v] l) (hl : 0 < l.length) :
    ∃ g o c cur e, v = .slice (some ⟨g, o, none⟩) l.length c ∧ l.length ≤ c ∧ c ≤ maxLen ∧ w.heap[g]? = some (.cells cur e (0, 0)) ∧ A g ∧
      ∀ i (h : i < l.length), ∃ vs, Rd w vs l[i] ∧ ∀ k, k < sz α → w.cell? ⟨g, o + i * sz α + k, none⟩ = vs[k]? := by
  obtain ⟨ps, ⟨v', ev, ho⟩, hn, hb⟩ := h
  obtain rfl : v = v' := by simpa using ev
  rcases ho with ⟨rfl, _⟩ | ⟨g, o, c, cur, e, pss, rfl, h1, h2, h3, rfl, h5, h6⟩
  · exact absurd hl (by simp)
  · refine ⟨g, o, c, cur, e, rfl, h1, h2, h3, hb g (by simp), fun i hi => ?_⟩
    obtain ⟨p, vs, hp, hO, hc⟩ := h6 i hi
    have := Rep.rd_len (Rep.own_rd hO)
    exact ⟨vs, Rep.own_rd hO, fun k hk => by rw [cell_at_block h3]; exact hc k (by omega)⟩
/-- Element j written anew. -/
theorem ip_put {α : Type} [Rep α] {A B : Nat → Prop} {w : World} {g o n c : Nat} {l : List α} (h : Ip A w [.slice (some ⟨g, o, none⟩) n c] l) (j : Nat) (hj : j < l.length) {vs : List Value} {y : α} (hy : Ip B w vs y) (hAB : ∀ k, A k → ¬ B k) :
    Ip (fun k => A k ∨ B k) (putCells w g (o + j * sz α) vs) [.slice (some ⟨g, o, none⟩) n c] (l.set j y) := by
  obtain ⟨ps, ⟨v', e', ho⟩, hn, hb⟩ := h
  obtain ⟨p', hO', hn', hb'⟩ := hy
  obtain rfl : Value.slice (some ⟨g, o, none⟩) n c = v' := by simpa using e'
  rcases ho with ⟨rfl, _⟩ | ⟨g', o', c', cur, e, pss, hv, h1, h2, h3, rfl, h5, h6⟩
  · exact absurd hj (Nat.not_lt_zero _)
  simp only [Value.slice.injEq, Option.some.injEq, Addr.mk.injEq, and_true] at hv
  obtain ⟨⟨rfl, rfl⟩, rfl, rfl⟩ := hv
  have hg := hb g (by simp)
  have hvl := Rep.rd_len (Rep.own_rd hO')
  have hjp : j < pss.length := by omega
  have hsplit : pss.set j p' = pss.take j ++ p' :: pss.drop (j + 1) := List.set_eq_take_append_cons_drop .. |>.trans (by rw [if_pos hjp])
  have hwhole : pss = pss.take j ++ pss[j] :: pss.drop (j + 1) := by
    conv => lhs; rw [← List.take_append_drop j pss, List.drop_eq_getElem_cons hjp]
  have hmem : ∀ k, k ∈ List.flatten (pss.take j) ∨ k ∈ List.flatten (pss.drop (j + 1)) → A k := fun k hk => by
    refine hb k (List.mem_cons_of_mem _ ?_)
    rw [hwhole, List.flatten_append, List.flatten_cons]
    rcases hk with hk | hk <;> simp [hk]
  have hnd : (g :: List.flatten (pss.set j p')).Nodup := by
    rw [hwhole, List.flatten_append, List.flatten_cons] at hn
    rw [hsplit, List.flatten_append, List.flatten_cons]
    simp only [List.nodup_cons, List.nodup_append, List.mem_append, not_or] at hn ⊢
    obtain ⟨⟨n1, _, n3⟩, n4, ⟨n5, n6, n7⟩, n8⟩ := hn
    refine ⟨⟨n1, fun hk => ?_, n3⟩, n4, ⟨hn', n6, fun a ha b hbb => ?_⟩, fun a ha b hbb => ?_⟩
    · exact hAB g hg (hb' g hk)
    · have h1 := hb' a ha
      have h2 := hmem b (.inr hbb)
      rintro rfl
      exact hAB a h2 h1
    · rcases hbb with hbb | hbb
      · have h1 := hb' b hbb
        have h2 := hmem a (.inl ha)
        rintro rfl
        exact hAB a h2 h1
      · exact n8 a ha b (.inr hbb)
  have hkeep : ∀ {β : Type} [Rep β] (p : List Nat) (us : List Value) (z : β), Own p w us z → g ∉ p → Own p (putCells w g (o + j * sz α) vs) us z := by
    intro β _ p us z hO hgp
    exact Own.only hO (putCells_only g vs _ w) (fun k hk hkg => by obtain rfl : k = g := (by simpa using hkg); exact hgp hk)
  refine ⟨g :: List.flatten (pss.set j p'), ⟨_, rfl, .inr ⟨g, o, c, _, e, pss.set j p', by simp, by simpa using h1, h2, putCells_heap g e (0, 0) vs _ w cur h3, rfl, by simpa using h5, fun i hi => ?_⟩⟩, hnd, fun k hk => ?_⟩
  · simp only [List.length_set] at hi
    obtain ⟨p, us, hp, hO, hc⟩ := h6 i hi
    have hul := Rep.rd_len (Rep.own_rd hO)
    by_cases hij : j = i
    · subst hij
      refine ⟨p', vs, by simp [hjp], ?_, fun k hk => ?_⟩
      · simp only [List.getElem_set_self]
        exact hkeep p' vs y hO' (fun hk => hAB g hg (hb' g hk))
      · refine putArr_in vs _ k cur hk ?_
        have := hc k (by omega)
        rw [List.getElem?_eq_getElem (by omega)] at this
        exact (Array.getElem?_eq_some_iff.1 this).1
    · refine ⟨p, us, by rw [List.getElem?_set_ne hij]; exact hp, ?_, fun k hk => ?_⟩
      · simp only [List.getElem_set_ne hij]
        refine hkeep p us _ hO (fun hk => ?_)
        exact (List.nodup_cons.1 hn).1 (List.mem_flatten.2 ⟨p, List.mem_of_getElem? hp, hk⟩)
      · rw [putArr_out]
        · exact hc k hk
        · have hks : k < sz α := by omega
          rcases Nat.lt_or_gt_of_ne hij with hlt | hlt
          · right
            have : (j + 1) * sz α ≤ i * sz α := Nat.mul_le_mul_right _ hlt
            rw [Nat.add_mul] at this
            omega
          · left
            have := idx_lt (s := sz α) hlt hks
            omega
  · rcases List.mem_cons.1 hk with rfl | hk
    · exact .inl hg
    · rw [hsplit, List.flatten_append, List.flatten_cons] at hk
      rcases List.mem_append.1 hk with hk | hk
      · exact .inl (hmem k (.inl hk))
      · rcases List.mem_append.1 hk with hk | hk
        · exact .inr (hb' k hk)
        · exact .inl (hmem k (.inr hk))
theorem ip_swap {α : Type} [Rep α] {A : Nat → Prop} {w : World} {g o n c : Nat} {l : List α} (h : Ip A w [.slice (some ⟨g, o, none⟩) n c] l) (d : α) (i j : Nat) (hil : i < l.length) (hjl : j < l.length) {vi vj : List Value}
    (li : vi.length = sz α) (lj : vj.length = sz α) (ci : ∀ k, k < sz α → w.cell? ⟨g, o + i * sz α + k, none⟩ = vi[k]?) (cj : ∀ k, k < sz α → w.cell? ⟨g, o + j * sz α + k, none⟩ = vj[k]?) :
    Ip A (putCells (putCells w g (o + i * sz α) vj) g (o + j * sz α) vi) [.slice (some ⟨g, o, none⟩) n c] (swapL d l i j) := by
  obtain ⟨ps, ⟨v', e', ho⟩, hn, hb⟩ := h
  obtain rfl : Value.slice (some ⟨g, o, none⟩) n c = v' := by simpa using e'
  rcases ho with ⟨rfl, _⟩ | ⟨g', o', c', cur, e, pss, hv, h1, h2, h3, rfl, h5, h6⟩
  · exact absurd hil (Nat.not_lt_zero _)
  simp only [Value.slice.injEq, Option.some.injEq, Addr.mk.injEq, and_true] at hv
  obtain ⟨⟨rfl, rfl⟩, rfl, rfl⟩ := hv
  have hip : i < pss.length := by omega
  have hjp : j < pss.length := by omega
  obtain ⟨hnd, hdis⟩ := disj_of_nodup (List.nodup_cons.1 hn).2
  have hgn := (List.nodup_cons.1 hn).1
  have hpm : ∀ k p, pss[k]? = some p → g ∉ p := fun k p hp hg => hgn (List.mem_flatten.2 ⟨p, List.mem_of_getElem? hp, hg⟩)
  have hps' : ∀ k, ((pss.set i pss[j]).set j pss[i])[k]? = pss[sigma i j k]? := fun k => set2_get pss i j k hip hjp
  have hmem : ∀ k p, ((pss.set i pss[j]).set j pss[i])[k]? = some p → ∃ k', pss[k']? = some p := fun k p hp => ⟨_, by rw [← hps']; exact hp⟩
  have honly := (putCells_only g vj (o + i * sz α) w).trans (putCells_only g vi (o + j * sz α) _)
  have hheap : (putCells (putCells w g (o + i * sz α) vj) g (o + j * sz α) vi).heap[g]? = some (.cells (putArr (putArr cur (o + i * sz α) vj) (o + j * sz α) vi) e (0, 0)) :=
    putCells_heap g e (0, 0) vi _ _ _ (putCells_heap g e (0, 0) vj _ _ _ h3)
  have hown : ∀ k (hk : k < l.length), ∃ p us, pss[k]? = some p ∧ Own p (putCells (putCells w g (o + i * sz α) vj) g (o + j * sz α) vi) us l[k] ∧ us.length = sz α ∧ ∀ z, z < sz α → cur[o + k * sz α + z]? = us[z]? := fun k hk => by
    obtain ⟨p, us, hp, hO, hc⟩ := h6 k hk
    have hl := Rep.rd_len (Rep.own_rd hO)
    exact ⟨p, us, hp, Own.only hO honly (fun z hz hzg => by obtain rfl : z = g := (by simpa using hzg); exact hpm k p hp hz), hl, fun z hz => hc z (by omega)⟩
  have hi0 : ∀ z, z < sz α → cur[o + i * sz α + z]? = vi[z]? := fun z hz => by rw [← ci z hz, cell_at_block h3]
  have hj0 : ∀ z, z < sz α → cur[o + j * sz α + z]? = vj[z]? := fun z hz => by rw [← cj z hz, cell_at_block h3]
  have hlt : ∀ k, (∀ z, z < sz α → ∃ u, cur[o + k * sz α + z]? = some u) → ∀ z, z < sz α → o + k * sz α + z < cur.size := fun k h z hz => by
    obtain ⟨u, hu⟩ := h z hz; exact (Array.getElem?_eq_some_iff.1 hu).1
  have hsi := hlt i (fun z hz => ⟨vi[z]'(by omega), by rw [hi0 z hz, List.getElem?_eq_getElem]⟩)
  have hsj := hlt j (fun z hz => ⟨vj[z]'(by omega), by rw [hj0 z hz, List.getElem?_eq_getElem]⟩)
  have hsame : ∀ {us vs : List Value}, us.length = sz α → vs.length = sz α → (∀ z, z < sz α → us[z]? = vs[z]?) → us = vs := fun {us vs} h1 h2 h => by
    apply List.ext_getElem?
    intro z
    by_cases hz : z < sz α
    · exact h z hz
    · rw [List.getElem?_eq_none (by omega), List.getElem?_eq_none (by omega)]
  have hapart : ∀ {a b : Nat}, a ≠ b → ∀ z, z < sz α → o + a * sz α + z < o + b * sz α ∨ o + b * sz α + sz α ≤ o + a * sz α + z := fun {a b} hab z hz => by
    rcases Nat.lt_or_gt_of_ne hab with h | h
    · left
      have := idx_lt (s := sz α) h hz
      omega
    · right
      have : (b + 1) * sz α ≤ a * sz α := Nat.mul_le_mul_right _ h
      rw [Nat.add_mul] at this
      omega
  refine ⟨g :: List.flatten ((pss.set i pss[j]).set j pss[i]), ⟨_, rfl, .inr ⟨g, o, c, _, e, _, by simp, by simpa using h1, h2, hheap, rfl, by simpa using h5, fun k hk => ?_⟩⟩, ?_, ?_⟩
  · simp only [swapL_length] at hk
    have hks := sigma_lt hil hjl hk
    obtain ⟨p, us, hp, hO, hul, hc⟩ := hown (sigma i j k) hks
    have hlk : (swapL d l i j)[k]'(by simpa using hk) = l[sigma i j k] := by
      have := set2_get l i j k hil hjl
      rw [← swapL_eq d l i j hil hjl, List.getElem?_eq_getElem (by simpa using hk), List.getElem?_eq_getElem hks] at this
      simpa using this
    refine ⟨p, us, by rw [hps' k]; exact hp, by rw [hlk]; exact hO, fun z hz => ?_⟩
    rw [hul] at hz
    by_cases hkj : k = j
    · subst hkj
      have e1 : sigma i k k = i := by simp [sigma]
      rw [e1] at hc
      have : us = vi := hsame hul li (fun z hz => by rw [← hc z hz, hi0 z hz])
      subst this
      exact putArr_in us _ z _ (by omega) (by rw [putArr_size]; exact hsj z hz)
    · by_cases hki : k = i
      · subst hki
        have e1 : sigma k j k = j := by simp [sigma, hkj]
        rw [e1] at hc
        have : us = vj := hsame hul lj (fun z hz => by rw [← hc z hz, hj0 z hz])
        subst this
        rw [putArr_out vi _ _ _ (by rw [li]; exact hapart hkj z hz)]
        exact putArr_in us _ z _ (by omega) (hsi z hz)
      · have e1 : sigma i j k = k := by simp [sigma, hkj, hki]
        rw [e1] at hc
        rw [putArr_out vi _ _ _ (by rw [li]; exact hapart hkj z hz), putArr_out vj _ _ _ (by rw [lj]; exact hapart hki z hz)]
        exact hc z hz
  · rw [List.nodup_cons]
    refine ⟨fun hg => ?_, nodup_of_disj (fun k p hp => ?_) (fun a b p q hab hp hq => ?_)⟩
    · obtain ⟨p, hp, hgp⟩ := List.mem_flatten.1 hg
      obtain ⟨k, hk⟩ := List.mem_iff_getElem?.1 hp
      obtain ⟨k', hk'⟩ := hmem k p hk
      exact hpm k' p hk' hgp
    · rw [hps' k] at hp; exact hnd _ _ hp
    · rw [hps' a] at hp; rw [hps' b] at hq
      exact hdis _ _ _ _ (fun e => hab (sigma_inj e)) hp hq
  · intro x hx
    rcases List.mem_cons.1 hx with rfl | hx
    · exact hb _ (by simp)
    · obtain ⟨p, hp, hxp⟩ := List.mem_flatten.1 hx
      obtain ⟨k, hk⟩ := List.mem_iff_getElem?.1 hp
      obtain ⟨k', hk'⟩ := hmem k p hk
      exact hb x (List.mem_cons_of_mem _ (List.mem_flatten.2 ⟨p, List.mem_of_getElem? hk', hxp⟩))


theorem acc_made {α : Type} [Rep α] (w : World) (e : TypeId) : Acc w.heap.size (w.heap.size + 1) e (w.alloc (.cells #[] e)) (.slice (some ⟨w.heap.size, 0, none⟩) 0 0) ([] : List α) := by
  have h := World.ownsRow_made (e := e) (size := sz α) w #[] 0 (Nat.le_refl _) (Nat.zero_le _) (by simp)
  exact ⟨[], [], h, rfl, by simp [Value.ownBlock], by simp [Value.ownBlock], fun i h => absurd h (Nat.not_lt_zero _)⟩
/-- A number more, to a slice whose block is known. -/
theorem wp_append_int1 {P : Program} (w : World) {o : Oper} {a : Act} {K : Act → World → Prop} {Q : Exit → Act → World → Prop} (s x : Operand) (t : TypeId)
    (ho : o.op = .call { callee := .builtin .append, args := #[s, x], argTypes := #[t, t] }) {e : TypeId} {z : Value} {bytes : Nat} (E : ElemT P t e Int z bytes) {g n0 c0 : Nat} {l : List Int} {y : Int}
    (hs : a.eval s = .slice (some ⟨g, 0, none⟩) n0 c0) (hacc : Acc g (g + 1) e w (.slice (some ⟨g, 0, none⟩) n0 c0) l) (hg : g + 1 ≤ w.heap.size) (hy : I64 y)
    (ad : Addr) (c : Nat) (hx : a.eval x = .slice (some ad) 1 c) (hnew : w.cell? (ad.add 0) = some (.int .i64 y)) (hlen : l.length + 1 ≤ 1073741824)
    (h : ∀ g' c' w', (g' = g ∨ g' = w.heap.size) → Acc g' (g' + 1) e w' (.slice (some ⟨g', 0, none⟩) (l.length + 1) c') (l ++ [y]) → But [g] w w' → g' < w'.heap.size → K (a.put o.dst (.slice (some ⟨g', 0, none⟩) (l.length + 1) c')) w') : o.wp P a w K Q := by
  obtain ⟨i, hi, hz, hsz, hb⟩ := E.info
  obtain ⟨h1, h4, hIl⟩ := acc_ints_get hacc
  have hbytes : (l.length + 1) * bytes ≤ 140737488355328 := by
    have h1 := E.small
    calc (l.length + 1) * bytes ≤ 1073741824 * 1000 := Nat.mul_le_mul hlen h1
      _ ≤ _ := by decide
  have hm : l.length + 1 ≤ maxLen := by unfold maxLen; omega
  obtain ⟨v', w', hr, hown, hgr, hnil, hat⟩ := run_append_own_at (P := P) w g t o.type e i z (sz Int) bytes E.und hi hz hsz hb E.zs E.pos _ l.length (ivals l) h1 ad 1 c [.int .i64 y] (by simp) (by intro j u hu; cases j with
    | zero => simp at hu; subst hu; exact hnew
    | succ j => simp at hu) (by intro u hu; simp at hu; subst hu; rfl) hm hbytes (by omega)
  have hown' : w'.ownsRow g e 1 v' (l.length + 1) (ivals (l ++ [y])) := by simpa [ivals] using hown
  have hI' : ∀ a, a ∈ l ++ [y] → I64 a := fun a ha => by
    rcases List.mem_append.1 ha with ha | ha
    · exact hIl a ha
    · obtain rfl : a = y := by simpa using ha
      exact hy
  have hob : (Value.slice (some ⟨g, 0, none⟩) n0 c0).ownBlock = some g := rfl
  rcases hown'.2 with ⟨rfl, h0⟩ | ⟨g', cap, cur, rfl, hg', hh', hc', hm', hs', ht'⟩
  · omega
  have hgg : g' = g ∨ g' = w.heap.size := by
    rcases hat with h | h
    · rw [hob] at h
      exact .inl (by simpa [Value.ownBlock] using h)
    · exact .inr (by simpa [Value.ownBlock] using h)
  have hlt : g' < w'.heap.size := (Array.getElem?_eq_some_iff.1 hh').1
  have hA : Acc g' (g' + 1) e w' (.slice (some ⟨g', 0, none⟩) (l.length + 1) cap) (l ++ [y]) := by
    refine acc_ints_mk ?_ (fun k hk => by simp [Value.ownBlock] at hk; omega) hI'
    simp only [List.length_append, List.length_cons, List.length_nil, Nat.zero_add]
    exact ⟨hown'.1, .inr ⟨g', cap, cur, rfl, Nat.le_refl _, hh', hc', hm', hs', ht'⟩⟩
  have hbut : But [g] w w' := ⟨hgr.os, hgr.tape, hgr.output, hgr.size, fun k hk hp => hgr.block k hk (fun e => by rw [hob] at e; simp at e; exact hp (by simp [e]))⟩
  unfold Oper.wp execOp
  simp only [ho, resolve, invoke, builtin, Sem.run_bind, Sem.run_pure, Result.andThen_ok, List.map_toArray, List.map_cons, List.map_nil, hs, hx, hr]
  exact h g' cap w' hgg hA hbut hlt
theorem St.low {w : World} {B B' : Nat} {wr : World} {bx bx' : List (Nat × Array Value × TypeId)} (h : St w B wr bx) (h1 : w.heap.size ≤ B') (h2 : B' ≤ B) (hs : ∀ x, x ∈ bx' → x ∈ bx ∧ x.1 < B') : St w B' wr bx' :=
  ⟨h.bel, h1, Nat.le_trans h2 h.hi, fun x hx => ⟨(h.box x (hs x hx).1).1, (hs x hx).2, (h.box x (hs x hx).1).2.2⟩⟩

end Go.Proofs.YthceklaoikeokaaGreatDoor

/-
  PLAIN LAW: what elimination leaves: each row that is done begins with a 1 where it begins, and there all other rows have a 0.
-/
namespace Go.Proofs.YthceklaoikeokaaGreatDoor
open Go.RowKit
set_option linter.unusedSimpArgs false
set_option linter.unusedVariables false

structure Rref (p : Int) (u : Nat) (rows : List SRow) (bs : List Int) : Prop where
  le : bs.length ≤ rows.length
  bnd : ∀ (j : Nat) (b : Int), bs[j]? = some b → 0 ≤ b ∧ b < u
  col : ∀ (i : Nat) (r : SRow) (j : Nat) (b : Int), rows[i]? = some r → bs[j]? = some b → r.1.getD b.toNat 0 = if i = j then 1 else 0
  low : ∀ (i : Nat) (r : SRow), rows[i]? = some r → bs.length ≤ i → ∀ c, c < u → r.1.getD c 0 = 0
  lead : ∀ (i : Nat) (r : SRow) (b : Int), rows[i]? = some r → bs[i]? = some b → ∀ c : Nat, (c : Int) < b → r.1.getD c 0 = 0

theorem getD_zip (f : Int → Int → Int) (l m : List Int) (c : Nat) (h1 : c < l.length) (h2 : c < m.length) : (List.zipWith f l m).getD c 0 = f (l.getD c 0) (m.getD c 0) := by
  simp [List.getD, List.getElem?_zipWith, h1, h2]
theorem getD_res {p : Int} {l : List Int} (h : Res p l) (c : Nat) (hc : c < l.length) : 0 ≤ l.getD c 0 ∧ l.getD c 0 < p := by
  have := h.get c hc
  simpa [List.getD, hc] using this
theorem less_get {p : Int} {U n : Nat} {r x : SRow} (hr : GoodS p U n r) (hx : GoodS p U n x) (k : Int) (c : Nat) (hc : c < U) : ((opsS p).less r x k).1.getD c 0 = (r.1.getD c 0 - k * x.1.getD c 0) % p := by
  show (if _ then _ else _ : SRow).1.getD c 0 = _
  split
  · rename_i h
    subst h
    have := getD_res hr.res c (by rw [hr.len]; exact hc)
    rw [Int.zero_mul, Int.sub_zero, Int.emod_eq_of_lt this.1 this.2]
  · exact getD_zip _ _ _ c (by rw [hr.len]; exact hc) (by rw [hx.len]; exact hc)
theorem scale_get {p : Int} {U n : Nat} {r : SRow} (hr : GoodS p U n r) (k : Int) (c : Nat) (hc : c < U) : ((opsS p).scale r k).1.getD c 0 = r.1.getD c 0 * k % p :=
  getD_zip _ _ _ c (by rw [hr.len]; exact hc) (by rw [hr.len]; exact hc)
theorem sq_one {p n : Int} (hp : p = 2 ∨ p = 3) (h0 : 0 ≤ n) (h1 : n < p) (hn : n ≠ 0) : n * n % p = 1 := by
  rcases hp with rfl | rfl
  · obtain rfl : n = 1 := by omega
    rfl
  · have : n = 1 ∨ n = 2 := by omega
    rcases this with rfl | rfl <;> rfl

theorem rref_step {p : Int} {U n : Nat} (hp : p = 2 ∨ p = 3) {u : Nat} (hu : u < U) {rows : List SRow} {bs : List Int} (hg : AllG p U n rows) (h : Rref p u rows bs) :
    Rref p (u + 1) (stepE (opsS p) u (rows, bs)).1 (stepE (opsS p) u (rows, bs)).2 := by
  have hp0 : 0 < p := by omega
  unfold stepE
  simp only
  split
  · rename_i hk
    rw [List.findIdx?_eq_none_iff] at hk
    refine ⟨h.le, fun j b hb => ?_, h.col, fun i r hr hi c hc => ?_, h.lead⟩
    · have := h.bnd j b hb; omega
    · have hi0 : bs.length ≤ i := hi
      by_cases hcu : c = u
      · subst hcu
        have hm : r ∈ rows.drop bs.length := by
          refine List.mem_iff_getElem?.2 ⟨i - bs.length, ?_⟩
          rw [List.getElem?_drop, show bs.length + (i - bs.length) = i by omega]; exact hr
        have := hk r hm
        simp only [bne_eq_false_iff_eq] at this
        exact this
      · exact h.low i r hr (show bs.length ≤ i from hi) c (by omega)
  · rename_i k hk
    rw [List.findIdx?_eq_some_iff_getElem] at hk
    obtain ⟨hk1, hk2, _⟩ := hk
    simp only [List.length_drop] at hk1
    simp only [List.getElem_drop, bne_iff_ne, ne_eq] at hk2
    have hd : bs.length < rows.length := by omega
    have hdk : bs.length + k < rows.length := by omega
    simp only
    unfold pivotE
    simp only
    rw [swap_at _ _ _ _ hd hdk]
    have e0 : rows.getD (bs.length + k) (opsS p).dflt = rows[bs.length + k] := by simp [List.getD, hdk]
    rw [e0]
    have hg0 : GoodS p U n rows[bs.length + k] := hg _ (List.getElem_mem hdk)
    have hlow0 := h.low (bs.length + k) rows[bs.length + k] (List.getElem?_eq_getElem hdk) (by omega)
    generalize rows[bs.length + k] = x0 at *
    have hx0u := getD_res hg0.res u (by rw [hg0.len]; exact hu)
    have hn : (opsS p).get x0 u = x0.1.getD u 0 := rfl
    rw [hn] at hk2 ⊢
    have hgx : GoodS p U n ((opsS p).scale x0 (x0.1.getD u 0)) := goodS_scale hp0 _ hg0
    have hxu : ((opsS p).scale x0 (x0.1.getD u 0)).1.getD u 0 = 1 := by
      rw [scale_get hg0 _ _ hu]; exact sq_one hp hx0u.1 hx0u.2 hk2
    have hxc : ∀ c, c < u → ((opsS p).scale x0 (x0.1.getD u 0)).1.getD c 0 = 0 := fun c hc => by
      rw [scale_get hg0 _ _ (by omega), hlow0 c hc]; simp
    generalize (opsS p).scale x0 (x0.1.getD u 0) = x at *
    -- each row that is left
    have key : ∀ i r, ((swapL (opsS p).dflt rows bs.length (bs.length + k)).set bs.length x |>.mapIdx (elimRow (opsS p) u bs.length x))[i]? = some r →
        (i = bs.length ∧ r = x) ∨ (i ≠ bs.length ∧ ∃ q, (rows[i]? = some q ∨ (bs.length < i ∧ rows[bs.length]? = some q)) ∧ (∀ c, c < u → r.1.getD c 0 = q.1.getD c 0) ∧ r.1.getD u 0 = 0) := by
      intro i r hr
      rw [List.getElem?_mapIdx, Option.map_eq_some_iff] at hr
      obtain ⟨q, hq, rfl⟩ := hr
      by_cases hi : i = bs.length
      · left
        subst hi
        rw [List.getElem?_set_self (by simpa using hd)] at hq
        simp only [Option.some.injEq] at hq
        exact ⟨rfl, by unfold elimRow; rw [if_pos rfl]; exact hq.symm⟩
      · right
        refine ⟨hi, q, ?_, ?_⟩
        · rw [List.getElem?_set_ne (Ne.symm hi)] at hq
          unfold swapL at hq
          by_cases hik : bs.length + k = i
          · subst hik
            rw [List.getElem?_set_self (by simpa using hdk)] at hq
            right
            refine ⟨by omega, ?_⟩
            rw [List.getElem?_eq_getElem hd]
            simpa [List.getD, hd] using hq
          · rw [List.getElem?_set_ne hik, List.getElem?_set_ne (Ne.symm hi)] at hq
            exact .inl hq
        · have hgq : GoodS p U n q := allG_set (allG_swap hg (opsS p).dflt bs.length (bs.length + k) hd hdk) bs.length hgx q (List.mem_of_getElem? hq)
          unfold elimRow
          rw [if_neg hi]
          refine ⟨fun c hc => ?_, ?_⟩
          · rw [less_get hgq hgx _ _ (by omega), hxc c hc, Int.mul_zero, Int.sub_zero]
            have := getD_res hgq.res c (by rw [hgq.len]; omega)
            exact Int.emod_eq_of_lt this.1 this.2
          · rw [less_get hgq hgx _ _ hu, hxu, Int.mul_one]
            show (q.1.getD u 0 - q.1.getD u 0) % p = 0
            rw [Int.sub_self]; exact Int.zero_emod _
    have hsnoc : ∀ j b, (bs ++ [(u : Int)])[j]? = some b → (j < bs.length ∧ bs[j]? = some b) ∨ (j = bs.length ∧ b = u) := by
      intro j b hb
      by_cases hj : j < bs.length
      · rw [List.getElem?_append_left hj] at hb; exact .inl ⟨hj, hb⟩
      · rw [List.getElem?_append_right (by omega)] at hb
        have hj0 : j - bs.length = 0 := by
          have := (List.getElem?_eq_some_iff.1 hb).1; simp at this; omega
        rw [hj0] at hb
        simp at hb
        exact .inr ⟨by omega, hb.symm⟩
    refine ⟨by simp; omega, fun j b hb => ?_, fun i r j b hr hb => ?_, fun i r hr hi c hc => ?_, fun i r b hr hb c hc => ?_⟩
    · rcases hsnoc j b hb with ⟨_, h1⟩ | ⟨_, h1⟩
      · have := h.bnd j b h1; omega
      · omega
    · rcases key i r hr with ⟨h1, h2⟩ | ⟨h1, q, h2, h3, h4⟩
      · subst h2
        rcases hsnoc j b hb with ⟨h5, h6⟩ | ⟨h5, h6⟩
        · have hb' := h.bnd j b h6
          rw [if_neg (by omega), hxc _ (by omega)]
        · rw [if_pos (by omega), h6, Int.toNat_natCast, hxu]
      · rcases hsnoc j b hb with ⟨h5, h6⟩ | ⟨h5, h6⟩
        · have hb' := h.bnd j b h6
          rw [h3 _ (by omega)]
          rcases h2 with h2 | ⟨h7, h2⟩
          · exact h.col i q j b h2 h6
          · rw [if_neg (by omega)]
            exact h.low _ q h2 (Nat.le_refl _) _ (by omega)
        · rw [if_neg (by omega), h6, Int.toNat_natCast, h4]
    · simp only [List.length_append, List.length_cons, List.length_nil] at hi
      rcases key i r hr with ⟨h1, h2⟩ | ⟨h1, q, h2, h3, h4⟩
      · omega
      · by_cases hcu : c = u
        · rw [hcu]; exact h4
        · rw [h3 c (by omega)]
          rcases h2 with h2 | ⟨h7, h2⟩
          · exact h.low i q h2 (by omega) c (by omega)
          · exact h.low _ q h2 (Nat.le_refl _) c (by omega)
    · rcases hsnoc i b hb with ⟨h5, h6⟩ | ⟨h5, h6⟩
      · have hb' := h.bnd i b h6
        rcases key i r hr with ⟨h1, h2⟩ | ⟨h1, q, h2, h3, h4⟩
        · omega
        · rw [h3 c (by omega)]
          rcases h2 with h2 | ⟨h7, h2⟩
          · exact h.lead i q b h2 h6 c hc
          · omega
      · rcases key i r hr with ⟨h1, h2⟩ | ⟨h1, _⟩
        · subst h2; exact hxc c (by omega)
        · omega
theorem rref_elim {p : Int} {U n : Nat} (hp : p = 2 ∨ p = 3) {rows : List SRow} (hg : AllG p U n rows) : ∀ u, u ≤ U → Rref p u (elimE (opsS p) rows u).1 (elimE (opsS p) rows u).2
  | 0, _ => by
    show Rref p 0 rows []
    exact { le := Nat.zero_le _, bnd := fun j b hb => by simp at hb, col := fun i r j b _ hb => by simp at hb, low := fun i r _ _ c hc => by omega, lead := fun i r b _ hb => by simp at hb }
  | u + 1, hu => by
    have := rref_elim hp hg u (by omega)
    exact rref_step hp (by omega) (elim_good (by omega) hg u) this

/-! ### The first row 0 = r -/
def falseF (rows : List SRow) (done : Nat) : Int := match (rows.drop done).findIdx? (fun r => r.2.1 != 0) with | some k => ((done + k : Nat) : Int) | none => -1
def contrQ (r : RowT) : Bool := noneR r.1 && rightR r.1 != 0
theorem contrQ_flat (r : SRow) : contrQ (flat r) = (r.1.all (fun a => a == 0) && r.2.1 != 0) := by
  simp [contrQ, noneR, rightR, flat, List.getD]
theorem findIdx_drop {α : Type} (q : α → Bool) (l : List α) (d : Nat) (hd : d ≤ l.length) (h0 : ∀ r, r ∈ l.take d → q r = false) : l.findIdx? q = ((l.drop d).findIdx? q).map (fun i => d + i) := by
  conv => lhs; rw [← List.take_append_drop d l]
  rw [List.findIdx?_append, List.findIdx?_eq_none_iff.2 h0]
  simp only [Option.none_or, List.length_take, Nat.min_eq_left hd]
  congr 1
  funext i
  omega
theorem contr_same {p : Int} {U n : Nat} {rows : List SRow} {bs : List Int} (hg : AllG p U n rows) (h : Rref p U rows bs) :
    (match (rows.map flat).findIdx? contrQ with | some i => (i : Int) | none => -1) = falseF rows bs.length := by
  rw [List.findIdx?_map, findIdx_drop _ rows bs.length h.le]
  · have : ∀ l : List SRow, (∀ r, r ∈ l → r.1.all (fun a => a == 0) = true) → l.findIdx? (contrQ ∘ flat) = l.findIdx? (fun r => r.2.1 != 0) := by
      intro l hl
      induction l with
      | nil => rfl
      | cons r rs ih =>
        have ih' := ih (fun x hx => hl x (List.mem_cons_of_mem _ hx))
        simp only [Function.comp_def] at ih' ⊢
        simp only [List.findIdx?_cons, contrQ_flat, hl r (List.mem_cons_self ..), Bool.true_and]
        simp only [contrQ_flat] at ih'
        rw [ih']
    rw [this]
    · unfold falseF
      cases (rows.drop bs.length).findIdx? (fun r => r.2.1 != 0) <;> rfl
    · intro r hr
      obtain ⟨i, hi⟩ := List.mem_iff_getElem?.1 hr
      rw [List.getElem?_drop] at hi
      rw [List.all_eq_true]
      intro a ha
      obtain ⟨c, hc, rfl⟩ := List.getElem_of_mem ha
      have hU := (hg r (List.mem_of_mem_drop hr)).len
      have := h.low _ r hi (by omega) c (by omega)
      simpa [List.getD, hc] using this
  · intro r hr
    obtain ⟨i, hi, rfl⟩ := List.getElem_of_mem hr
    simp only [List.length_take] at hi
    rw [List.getElem_take]
    have hir : i < rows.length := by omega
    have hib : i < bs.length := by omega
    have hb := h.bnd i _ (List.getElem?_eq_getElem hib)
    have hc := h.col i _ i _ (List.getElem?_eq_getElem hir) (List.getElem?_eq_getElem hib)
    rw [if_pos rfl] at hc
    simp only [Function.comp, contrQ_flat, Bool.and_eq_false_iff]
    left
    have hU := (hg rows[i] (List.getElem_mem hir)).len
    have hlt : bs[i].toNat < rows[i].1.length := by omega
    simp only [List.getD, List.getElem?_eq_getElem hlt, Option.getD_some] at hc
    exact List.all_eq_false.2 ⟨_, List.getElem_mem hlt, by rw [hc]; decide⟩

/-! ### The rows at the beginning -/
def rowsS (n : Nat) : Nat → List (List Int × Int) → List SRow
  | _, [] => []
  | i, e :: es => (e.1, e.2, (List.replicate n 0).set i 1) :: rowsS n (i + 1) es
def rowsI (n : Nat) : Nat → List (List Int × Int) → List RowT
  | _, [] => []
  | i, e :: es => (e.1 ++ [e.2], (List.replicate n 0).set i 1) :: rowsI n (i + 1) es
theorem rows_flat (n : Nat) : ∀ (es : List (List Int × Int)) (i : Nat), (rowsS n i es).map flat = rowsI n i es
  | [], _ => rfl
  | e :: es, i => by simp only [rowsS, rowsI, List.map_cons, rows_flat n es (i + 1)]; rfl
theorem rowsS_good {p : Int} {U n : Nat} (hp : 2 ≤ p) : ∀ (es : List (List Int × Int)) (i : Nat), (∀ e, e ∈ es → e.1.length = U ∧ Res p e.1 ∧ 0 ≤ e.2 ∧ e.2 < p) → AllG p U n (rowsS n i es)
  | [], _, _ => fun r hr => by cases hr
  | e :: es, i, h => fun r hr => by
    rcases List.mem_cons.1 hr with rfl | hr
    · have he := h e (List.mem_cons_self ..)
      refine ⟨he.1, by simp, he.2.1, he.2.2, fun a ha => ?_⟩
      rcases List.mem_or_eq_of_mem_set ha with h1 | h1
      · have := List.eq_of_mem_replicate h1; omega
      · omega
    · exact rowsS_good hp es (i + 1) (fun x hx => h x (List.mem_cons_of_mem _ hx)) r hr
theorem rowsS_length (n : Nat) : ∀ (es : List (List Int × Int)) (i : Nat), (rowsS n i es).length = es.length
  | [], _ => rfl
  | e :: es, i => by simp [rowsS, rowsS_length n es]
theorem rowsI_length (n : Nat) : ∀ (es : List (List Int × Int)) (i : Nat), (rowsI n i es).length = es.length
  | [], _ => rfl
  | e :: es, i => by simp [rowsI, rowsI_length n es]
theorem rowsI_snoc (n : Nat) : ∀ (es : List (List Int × Int)) (i : Nat) (e : List Int × Int), rowsI n i (es ++ [e]) = rowsI n i es ++ [(e.1 ++ [e.2], (List.replicate n 0).set (i + es.length) 1)]
  | [], _, _ => rfl
  | x :: es, i, e => by simp only [List.cons_append, rowsI, rowsI_snoc n es, List.length_cons]; rw [show i + 1 + es.length = i + (es.length + 1) by omega]
theorem rowsS_snoc (n : Nat) : ∀ (es : List (List Int × Int)) (i : Nat) (e : List Int × Int), rowsS n i (es ++ [e]) = rowsS n i es ++ [(e.1, e.2, (List.replicate n 0).set (i + es.length) 1)]
  | [], _, _ => rfl
  | x :: es, i, e => by simp only [List.cons_append, rowsS, rowsS_snoc n es, List.length_cons]; rw [show i + 1 + es.length = i + (es.length + 1) by omega]

end Go.Proofs.YthceklaoikeokaaGreatDoor

/-
  CONTRACTS: slices.IndexFunc, slices.ContainsFunc with a function that is handed over.
-/
namespace Go.Proofs.YthceklaoikeokaaGreatDoor
open Go.RowKit Go.Shelf
open Rep (Rd Own sz)
set_option linter.unusedSimpArgs false
set_option linter.unusedVariables false

def firstI {α : Type} (q : α → Bool) (l : List α) : Int := match l.findIdx? q with | some i => (i : Int) | none => -1
theorem firstI_at {α : Type} {q : α → Bool} {l : List α} {k : Nat} (h : k < l.length) (h0 : ∀ j (hj : j < l.length), j < k → q l[j] = false) (h1 : q l[k] = true) : firstI q l = k := by
  have : l.findIdx? q = some k := by
    rw [List.findIdx?_eq_some_iff_getElem]
    exact ⟨h, h1, fun j hj => by simpa using h0 j (by omega) hj⟩
  unfold firstI; rw [this]
theorem firstI_no {α : Type} {q : α → Bool} {l : List α} (h0 : ∀ j (hj : j < l.length), j < l.length → q l[j] = false) : firstI q l = -1 := by
  have : l.findIdx? q = none := by
    rw [List.findIdx?_eq_none_iff]
    intro x hx
    obtain ⟨j, hj, rfl⟩ := List.getElem_of_mem hx
    exact h0 j hj hj
  unfold firstI; rw [this]
theorem firstI_any {α : Type} (q : α → Bool) (l : List α) : decide (0 ≤ firstI q l) = l.any q := by
  unfold firstI
  cases h : l.findIdx? q with
  | none =>
    rw [List.findIdx?_eq_none_iff] at h
    simp
    exact h
  | some i =>
    rw [List.findIdx?_eq_some_iff_getElem] at h
    obtain ⟨h1, h2, _⟩ := h
    simp
    exact ⟨_, List.getElem_mem h1, h2⟩
theorem firstI_lo {α : Type} (q : α → Bool) (l : List α) : -1 ≤ firstI q l := by unfold firstI; split <;> omega

def PredI (g : Nat) (cb : Array Value) (w : World) (l : List Int) (q : Int → Bool) : Prop :=
  ∀ (W : World) (x : Int) (u0 : Value), Below w.heap.size w W → Rd W [u0] x → x ∈ l → Calls Tryz.prog g (#[u0] ++ cb) W fun e w' => e = .returned (.bool (q x)) ∧ Below W.heap.size W w'
def PredE (g : Nat) (cb : Array Value) (w : World) (l : List Eqn) (q : Eqn → Bool) : Prop :=
  ∀ (W : World) (x : Eqn) (u0 u1 : Value), Below w.heap.size w W → Rd W [u0, u1] x → x ∈ l → Calls Tryz.prog g (#[.agg #[u0, u1]] ++ cb) W fun e w' => e = .returned (.bool (q x)) ∧ Below W.heap.size W w'

set_option maxRecDepth 100000 in
set_option maxHeartbeats 1000000 in
theorem indexInts_c (l : List Int) (v : Value) (g : Nat) (cb : Array Value) (q : Int → Bool) (w : World) (r : Rd w [v] l)
    (eg : ∀ args w, (callFunc g args).run Tryz.prog w = .ok (.enter g args) w) (hby : PredI g cb w l q) :
    Calls Tryz.prog 87 #[v, .func (.func g) #[] cb] w fun e w' => e = .returned (.int .i64 (firstI q l)) ∧ Below w.heap.size w w' := by
  obtain ⟨a, c, rfl, h⟩ := rd_list r
  clear r
  have hb := (rdSl_len h).2
  unfold maxLen at hb
  generalize hn : l.length = n at *
  have HN := Lib.hid hn
  have HH := Lib.hid h
  have HBY := Lib.hid hby
  clear hn h hby
  go_enter Tryz.func87, Tryz.ntmps87
  go_wp2_with fail
  go_loopw [8] (fun i wr => ∃ k : Nat, k ≤ n ∧ i = .int .i64 k ∧ Hid (Below w.heap.size w wr) ∧ Hid (∀ j (hj : j < l.length), j < k → q l[j] = false)) (fun i _ => n - (intOf i).toNat)
  case atStart => exact ⟨0, Nat.zero_le _, rfl, Below.refl _ _, fun j _ hj => absurd hj (Nat.not_lt_zero _)⟩
  case round =>
    obtain ⟨k, hk, rfl, hbl, hr⟩ := hrel
    by_cases hlt : k < n
    · have k1 : k < l.length := by rw [HN.out]; exact hlt
      obtain ⟨b, o, u0, rfl, q0, hx⟩ := rdSl_one rfl (rdSl_mono hbl.out HH.out) k k1
      have HX := Lib.hid hx
      clear hx
      go_wp2_with fail
      go_at_fn g
      refine (HBY.out _ l[k] _ hbl.out HX.out (List.getElem_mem k1)).mono ?_
      rintro e w1 ⟨rfl, hb1⟩
      cases hq : q l[k] with
      | true =>
        have HQ := Lib.hid hq
        clear hq
        go_wp2_with fail
        go_ret
        exact ⟨ret_int (firstI_at k1 (fun j hj h => hr.out j hj h) HQ.out).symm, hbl.out.trans (hb1.mono hbl.out.size)⟩
      | false =>
        have HQ := Lib.hid hq
        clear hq
        go_wp2_with fail
        go_roundw
        case rel =>
          refine ⟨k + 1, by omega, by go_num, hbl.out.trans (hb1.mono hbl.out.size), ?_⟩
          intro j hj hjk
          rcases Nat.lt_or_ge j k with h | h
          · exact hr.out j hj h
          · obtain rfl : j = k := by omega
            exact HQ.out
        case measure => simp [intOf]; omega
    · obtain rfl : k = n := by omega
      go_wp2_with fail
      go_ret
      refine ⟨ret_int ?_, hbl.out⟩
      rw [firstI_no (fun j hj _ => hr.out j hj (by have := HN.out; omega))]
set_option maxRecDepth 100000 in
set_option maxHeartbeats 1000000 in
theorem indexEqns_c (l : List Eqn) (v : Value) (g : Nat) (cb : Array Value) (q : Eqn → Bool) (w : World) (r : Rd w [v] l)
    (eg : ∀ args w, (callFunc g args).run Tryz.prog w = .ok (.enter g args) w) (hby : PredE g cb w l q) :
    Calls Tryz.prog 70 #[v, .func (.func g) #[] cb] w fun e w' => e = .returned (.int .i64 (firstI q l)) ∧ Below w.heap.size w w' := by
  obtain ⟨a, c, rfl, h⟩ := rd_list r
  clear r
  have hb := (rdSl_len h).2
  unfold maxLen at hb
  generalize hn : l.length = n at *
  have HN := Lib.hid hn
  have HH := Lib.hid h
  have HBY := Lib.hid hby
  clear hn h hby
  go_enter Tryz.func70, Tryz.ntmps70
  go_wp2_with fail
  go_loopw [8] (fun i wr => ∃ k : Nat, k ≤ n ∧ i = .int .i64 k ∧ Hid (Below w.heap.size w wr) ∧ Hid (∀ j (hj : j < l.length), j < k → q l[j] = false)) (fun i _ => n - (intOf i).toNat)
  case atStart => exact ⟨0, Nat.zero_le _, rfl, Below.refl _ _, fun j _ hj => absurd hj (Nat.not_lt_zero _)⟩
  case round =>
    obtain ⟨k, hk, rfl, hbl, hr⟩ := hrel
    by_cases hlt : k < n
    · have k1 : k < l.length := by rw [HN.out]; exact hlt
      obtain ⟨b, o, u0, u1, rfl, q0, q1, hx⟩ := rdSl_two rfl (rdSl_mono hbl.out HH.out) k k1
      have HX := Lib.hid hx
      clear hx
      go_wp2_with fail
      go_at_fn g
      refine (HBY.out _ l[k] _ _ hbl.out HX.out (List.getElem_mem k1)).mono ?_
      rintro e w1 ⟨rfl, hb1⟩
      cases hq : q l[k] with
      | true =>
        have HQ := Lib.hid hq
        clear hq
        go_wp2_with fail
        go_ret
        exact ⟨ret_int (firstI_at k1 (fun j hj h => hr.out j hj h) HQ.out).symm, hbl.out.trans (hb1.mono hbl.out.size)⟩
      | false =>
        have HQ := Lib.hid hq
        clear hq
        go_wp2_with fail
        go_roundw
        case rel =>
          refine ⟨k + 1, by omega, by go_num, hbl.out.trans (hb1.mono hbl.out.size), ?_⟩
          intro j hj hjk
          rcases Nat.lt_or_ge j k with h | h
          · exact hr.out j hj h
          · obtain rfl : j = k := by omega
            exact HQ.out
        case measure => simp [intOf]; omega
    · obtain rfl : k = n := by omega
      go_wp2_with fail
      go_ret
      refine ⟨ret_int ?_, hbl.out⟩
      rw [firstI_no (fun j hj _ => hr.out j hj (by have := HN.out; omega))]
set_option maxRecDepth 100000 in
theorem containsInts_c (l : List Int) (v : Value) (g : Nat) (cb : Array Value) (q : Int → Bool) (w : World) (r : Rd w [v] l)
    (eg : ∀ args w, (callFunc g args).run Tryz.prog w = .ok (.enter g args) w) (hby : PredI g cb w l q) :
    Calls Tryz.prog 74 #[v, .func (.func g) #[] cb] w fun e w' => e = .returned (.bool (l.any q)) ∧ Below w.heap.size w w' := by
  obtain ⟨a, c, rfl, _⟩ := rd_list r
  have HR := Lib.hid r
  have HBY := Lib.hid hby
  clear r hby
  go_enter Tryz.func74, Tryz.ntmps74
  go_wp2_with fail
  refine (indexInts_c l _ g cb q _ HR.out eg HBY.out).mono ?_
  rintro e w1 ⟨rfl, hb1⟩
  have hlo := firstI_lo q l
  go_wp2_with fail
  go_ret
  exact ⟨ret_bool (firstI_any q l), hb1⟩
set_option maxRecDepth 100000 in
theorem containsEqns_c (l : List Eqn) (v : Value) (g : Nat) (cb : Array Value) (q : Eqn → Bool) (w : World) (r : Rd w [v] l)
    (eg : ∀ args w, (callFunc g args).run Tryz.prog w = .ok (.enter g args) w) (hby : PredE g cb w l q) :
    Calls Tryz.prog 38 #[v, .func (.func g) #[] cb] w fun e w' => e = .returned (.bool (l.any q)) ∧ Below w.heap.size w w' := by
  obtain ⟨a, c, rfl, _⟩ := rd_list r
  have HR := Lib.hid r
  have HBY := Lib.hid hby
  clear r hby
  go_enter Tryz.func38, Tryz.ntmps38
  go_wp2_with fail
  refine (indexEqns_c l _ g cb q _ HR.out eg HBY.out).mono ?_
  rintro e w1 ⟨rfl, hb1⟩
  have hlo := firstI_lo q l
  go_wp2_with fail
  go_ret
  exact ⟨ret_bool (firstI_any q l), hb1⟩

end Go.Proofs.YthceklaoikeokaaGreatDoor

/-
  CONTRACTS: small functions on rows: the first number other than 0; none.
-/
namespace Go.Proofs.YthceklaoikeokaaGreatDoor
open Go.RowKit Go.Shelf
open Rep (Rd Own sz)
set_option linter.unusedSimpArgs false
set_option linter.unusedVariables false

set_option maxRecDepth 100000 in
set_option maxHeartbeats 1000000 in
theorem l07First_c (l : List Int) (v : Value) (w : World) (r : Rd w [v] l) :
    Calls Tryz.prog 33 #[v] w fun e w' => e = .returned (.int .i64 (firstI (fun a => a != 0) l)) ∧ w = w' := by
  obtain ⟨a, c, rfl, h⟩ := rd_list r
  have hb := (rdSl_len h).2
  unfold maxLen at hb
  have HR := Lib.hid h
  clear r h
  go_enter Tryz.func33, Tryz.ntmps33
  go_wp2_with fail
  go_loopw [3] (fun i wr => ∃ k : Nat, k ≤ l.length ∧ i = .int .i64 k ∧ wr = w ∧ Hid (∀ j (hj : j < l.length), j < k → (l[j] != 0) = false)) (fun i _ => l.length - (intOf i).toNat)
  case atStart => exact ⟨0, Nat.zero_le _, rfl, rfl, fun j _ hj => absurd hj (Nat.not_lt_zero _)⟩
  case round =>
    obtain ⟨k, hk, rfl, rfl, hr⟩ := hrel
    by_cases hlt : k < l.length
    · obtain ⟨b', o', rfl, hc, _⟩ := rdSl_int HR.out k hlt
      have hc' : wr.cell? ⟨b', o' + k, none⟩ = some (.int .i64 l[k]) := by simpa [List.getD, hlt] using hc
      clear hc
      cases hq : (l[k] != 0) with
      | true =>
        have HQ := Lib.hid hq
        go_wp2_with fail
        go_ret
        exact ⟨ret_int (firstI_at (q := fun a => a != 0) hlt (fun j hj h => hr.out j hj h) HQ.out).symm, rfl⟩
      | false =>
        have HQ := Lib.hid hq
        go_wp2_with fail
        go_roundw
        case rel =>
          refine ⟨k + 1, by omega, by go_num, trivial, ?_⟩
          intro j hj hjk
          rcases Nat.lt_or_ge j k with h | h
          · exact hr.out j hj h
          · obtain rfl : j = k := by omega
            exact HQ.out
        case measure => simp [intOf]; omega
    · obtain rfl : k = l.length := by omega
      go_wp2_with fail
      go_ret
      refine ⟨ret_int ?_, rfl⟩
      rw [firstI_no (q := fun a => a != 0) (fun j hj _ => hr.out j hj hj)]

end Go.Proofs.YthceklaoikeokaaGreatDoor

/-
  CONTRACTS: (row).isNone and (row).right of the program.
-/
namespace Go.Proofs.YthceklaoikeokaaGreatDoor
open Go.RowKit Go.Shelf
open Rep (Rd Own sz)
set_option linter.unusedSimpArgs false
set_option linter.unusedVariables false

theorem rdSl_take {α : Type} [Rep α] {w : World} {a : Option Addr} {c : Nat} {l : List α} (h : RdSl w a c l) (n : Nat) : RdSl w a c (l.take n) := by
  refine ⟨by simp; have := h.1; omega, h.2.1, fun i hi => ?_⟩
  have hi' : i < l.length := by simp at hi; omega
  obtain ⟨b, o, vs, e, hr, hc⟩ := h.2.2 i hi'
  exact ⟨b, o, vs, e, by simpa using hr, hc⟩
theorem all_of_any0 (l : List Int) : (!l.any fun a => a != 0) = l.all (fun a => a == 0) := by
  induction l with
  | nil => rfl
  | cons x xs ih => rw [List.any_cons, List.all_cons, Bool.not_or, ih]; congr 1; simp [bne]
set_option maxHeartbeats 400000 in
theorem isNone1_by (w : World) (l : List Int) : PredI 76 #[] w l (fun a => a != 0) := by
  intro W x u0 hb hr _
  obtain ⟨rfl, _⟩ := rd_i1 hr
  show Calls Tryz.prog 76 #[_] W _
  go_enter Tryz.func76, Tryz.ntmps76
  go_wp2_with fail
  go_ret
  exact ⟨rfl, Below.refl _ _⟩
set_option maxRecDepth 100000 in
set_option maxHeartbeats 1000000 in
theorem isNone_c (x : RowT) (v0 v1 : Value) (w : World) (hx : Rd w [v0, v1] x) (h0 : 0 < x.1.length) (h1 : x.1.length ≤ 1000000) :
    Calls Tryz.prog 48 #[.agg #[v0, v1]] w fun e w' => e = .returned (.bool (noneR x.1)) ∧ Below w.heap.size w w' := by
  obtain ⟨l, by_⟩ := x
  have z := rd_cons rfl hx
  obtain ⟨a, c, rfl, hr⟩ := rd_list z.1
  obtain ⟨a', c', rfl, _⟩ := rd_list z.2
  have hlc : l.length ≤ c := hr.1
  have hcm := hr.2.1
  unfold maxLen at hcm
  have HR := Lib.hid hr
  clear hx z hr
  simp only at h0 h1
  have eg : ∀ args w, (callFunc 76 args).run Tryz.prog w = .ok (.enter 76 args) w := enters_of Tryz.func76 (by kernel_rfl) rfl
  have hs := (St.start w).alloc #[.slice a l.length c, .slice a' by_.length c'] 53 rfl
  obtain ⟨n, hn⟩ : ∃ n, l.length = n + 1 := ⟨l.length - 1, by omega⟩
  rw [hn] at hs
  obtain ⟨b, o, vs, ea, _⟩ := HR.out.2.2 0 h0
  subst ea
  have hRT : Rd w [.slice (some ⟨b, o, none⟩) n c] (l.take n) := ⟨_, c, by simp [hn], rdSl_take HR.out n⟩
  have RT := Lib.hid hRT
  clear hRT
  go_enter Tryz.func48, Tryz.ntmps48
  go_wp2_with fail
  refine (containsInts_c (l.take n) _ 76 _ _ _ (Rd.mono RT.out hs.bel) eg (isNone1_by _ _)).mono ?_
  rintro e w1 ⟨rfl, hb1⟩
  go_wp2_with fail
  go_ret
  refine ⟨ret_bool ?_, (hs.step hb1).bel⟩
  unfold noneR
  rw [show l.length - 1 = n by omega, ← all_of_any0]
set_option maxRecDepth 100000 in
set_option maxHeartbeats 1000000 in
theorem right_c (x : RowT) (v0 v1 : Value) (w : World) (hx : Rd w [v0, v1] x) (h0 : 0 < x.1.length) (h1 : x.1.length ≤ 1000000) :
    Calls Tryz.prog 27 #[.agg #[v0, v1]] w fun e w' => e = .returned (.int .i64 (rightR x.1)) ∧ Below w.heap.size w w' := by
  obtain ⟨l, by_⟩ := x
  have z := rd_cons rfl hx
  obtain ⟨a, c, rfl, hr⟩ := rd_list z.1
  obtain ⟨a', c', rfl, _⟩ := rd_list z.2
  have HR := Lib.hid hr
  clear hx z hr
  simp only at h0 h1
  have hs := (St.start w).alloc #[.slice a l.length c, .slice a' by_.length c'] 53 rfl
  obtain ⟨n, hn⟩ : ∃ n, l.length = n + 1 := ⟨l.length - 1, by omega⟩
  rw [hn] at hs
  obtain ⟨b, o, rfl, hc, _⟩ := rdSl_int HR.out n (show n < l.length by omega)
  have hc2 := cellL (belowA w (.cells #[.slice (some ⟨b, o, none⟩) (n + 1) c, .slice a' by_.length c'] 53)) hc
  have k0 := hs.cellAt 0 rfl 0 rfl
  go_enter Tryz.func27, Tryz.ntmps27
  go_wp2_with fail
  first
    | (go_quiet (fail); go_wp2_with fail; go_ret; exact ⟨ret_int (by simp [rightR, hn]), hs.bel.trans ((drewN_below _ _).mono hs.bel.size)⟩)
    | (go_ret; exact ⟨ret_int (by simp [rightR, hn]), hs.bel⟩)

end Go.Proofs.YthceklaoikeokaaGreatDoor

/-
  CONTRACT: slices.Clone of numbers.
-/
namespace Go.Proofs.YthceklaoikeokaaGreatDoor
open Go.RowKit
open Rep (Rd Own sz)
set_option linter.unusedSimpArgs false
set_option linter.unusedVariables false

set_option maxRecDepth 100000 in
set_option maxHeartbeats 1000000 in
theorem cloneIntsA_c (l : List Int) (v : Value) (w : World) (r : Rd w [v] l) (hl : l.length ≤ 1073741824) :
    Calls Tryz.prog 47 #[v] w fun e w' => ∃ v', e = .returned v' ∧ Acc w.heap.size w'.heap.size 2 w' v' l ∧ Below w.heap.size w w' := by
  obtain ⟨a, c, rfl, h⟩ := rd_list r
  have HR := Lib.hid h
  clear r h
  have hg1 : ∀ (a b : Value) W, (eqGuard .eql 28 (.const a) (.const b) a b).run Tryz.prog W = (eqGuard .eql 28 (.const a) (.const b) a b).run Tryz.prog W := fun _ _ _ => rfl
  clear hg1
  cases a with
  | none =>
    have h0 : l = [] := by
      by_cases hn : 0 < l.length
      · obtain ⟨b, o, vs, e, _⟩ := HR.out.2.2 0 hn
        cases e
      · exact List.eq_nil_of_length_eq_zero (by omega)
    subst h0
    have hnil : ∀ W, (binOp .eql 28 (.slice none 0 c) (.slice none 0 0)).run Tryz.prog W = .ok (.bool true) W := fun W => Lib.run_eql_slice_nil_nil W _ _ Tryz.underlying28
    go_enter Tryz.func47, Tryz.ntmps47
    go_wp2_with fail
    go_ret
    exact ⟨_, rfl, Acc.nil _ _ _ _, Below.refl _ _⟩
  | some ad =>
    have hnil : ∀ W, (binOp .eql 28 (.slice (some ad) l.length c) (.slice none 0 0)).run Tryz.prog W = .ok (.bool false) W := fun W => Lib.run_eql_slice_some_nil W _ _ _ Tryz.underlying28
    go_enter Tryz.func47, Tryz.ntmps47
    obtain ⟨b, o, spot⟩ := ad
    have hnews : ∀ j u, (ivals l)[j]? = some u → w.cell? ((⟨b, o, spot⟩ : Addr).add j) = some u ∧ I64 (l.getD j 0) := by
      intro j u hu
      have hj : j < l.length := by have := (List.getElem?_eq_some_iff.1 hu).1; simpa [ivals] using this
      obtain ⟨b', o', e, hc, hI⟩ := rdSl_int HR.out j hj
      simp only [Option.some.injEq, Addr.mk.injEq] at e
      obtain ⟨rfl, rfl, rfl⟩ := e
      have hadd : ((⟨b, o, none⟩ : Addr).add j) = ⟨b, o + j, none⟩ := by unfold Addr.add; split <;> simp_all
      rw [hadd, hc]
      refine ⟨?_, hI⟩
      rw [← hu]; simp [ivals, hj, List.getD]
    have hI : ∀ a, a ∈ l → I64 a := by
      intro a ha
      obtain ⟨j, hj, rfl⟩ := List.getElem_of_mem ha
      have := (hnews j _ (List.getElem?_eq_getElem (by simpa [ivals] using hj))).2
      simpa [List.getD, hj] using this
    have hacc : Acc w.heap.size (w.heap.size + 1) 2 (w.alloc (.cells #[] 2)) (.slice (some ⟨w.heap.size, 0, none⟩) 0 0) ([] : List Int) :=
      acc_ints_mk (World.ownsRow_made w #[] 0 (Nat.le_refl _) (Nat.zero_le _) rfl) (fun g hg => by simp [Value.ownBlock] at hg; omega) (by simp)
    have hn2 : ∀ j u, (ivals l)[j]? = some u → (w.alloc (.cells #[] 2)).cell? ((⟨b, o, spot⟩ : Addr).add j) = some u := fun j u hu => cellL (belowA _ _) (hnews j u hu).1
    go_wp2_with (refine wpList_append_ints _ rfl _ _ _ rfl E_ints rfl hacc (Nat.le_succ _) (by simp) ⟨b, o, spot⟩ c rfl hn2 hI (by simpa using hl) ?_; intro a' c' w' hA hB _)
    simp only [List.length_nil, Nat.zero_add, List.nil_append] at hA ⊢
    go_wp2_with fail
    go_ret
    exact ⟨_, rfl, hA, (belowA _ _).trans hB⟩
theorem cloneInts_c (l : List Int) (v : Value) (w : World) (r : Rd w [v] l) (hl : l.length ≤ 1073741824) :
    Calls Tryz.prog 47 #[v] w fun e w' => ∃ v', e = .returned v' ∧ Fresh w.heap.size w' [v'] l ∧ Below w.heap.size w w' :=
  (cloneIntsA_c l v w r hl).mono fun e w' ⟨v', he, hA, hb⟩ => ⟨v', he, hA.fresh, hb⟩

end Go.Proofs.YthceklaoikeokaaGreatDoor

/-
  CONTRACT: (row).addTimes of the program.
-/
namespace Go.Proofs.YthceklaoikeokaaGreatDoor
open Go.RowKit Go.Shelf Go.IntWalk
open Rep (Rd Own sz)
set_option linter.unusedSimpArgs false
set_option linter.unusedVariables false

set_option maxRecDepth 100000 in
set_option maxHeartbeats 2000000 in
theorem addTimes_c (p k : Int) (r s : RowT) (v0 v1 u0 u1 : Value) (w : World) (hr : Rd w [v0, v1] r) (hs' : Rd w [u0, u1] s) (h1 : r.1.length ≤ 1000000) (h2 : r.2.length ≤ 1000000)
    (hp0 : 2 ≤ p) (hp : p ≤ 3) (hk0 : 0 ≤ k) (hk : k ≤ 100) (rr1 : Res p r.1) (rr2 : Res p r.2) (rs1 : Res p s.1) (rs2 : Res p s.2) (hl1 : s.1.length ≤ r.1.length) (hl2 : s.2.length ≤ r.2.length) :
    Calls Tryz.prog 46 #[.agg #[v0, v1], .int .i64 p, .agg #[u0, u1], .int .i64 k] w fun e w' => ∃ o0 o1, e = .returned (.agg #[o0, o1]) ∧ Fresh w.heap.size w' [o0, o1] (addR p k r s) ∧ Below w.heap.size w w' := by
  obtain ⟨r0, r1⟩ := r
  obtain ⟨s0, s1⟩ := s
  have z := rd_cons rfl hr
  have R0 := Lib.hid z.1
  have R1 := Lib.hid z.2
  obtain ⟨a0, c0, rfl, _⟩ := rd_list R0.out
  obtain ⟨a1, c1, rfl, _⟩ := rd_list R1.out
  have z' := rd_cons rfl hs'
  have S0 := Lib.hid z'.1
  have S1 := Lib.hid z'.2
  obtain ⟨b0, d0x, rfl, _⟩ := rd_list S0.out
  obtain ⟨b1, d1x, rfl, _⟩ := rd_list S1.out
  clear hr hs' z z'
  simp only at h1 h2 R0 R1 S0 S1 rr1 rr2 rs1 rs2 hl1 hl2
  have RR1 := Lib.hid rr1
  have RR2 := Lib.hid rr2
  have RS1 := Lib.hid rs1
  have RS2 := Lib.hid rs2
  clear rr1 rr2 rs1 rs2
  have hs := (((St.start w).alloc #[.slice a0 r0.length c0, .slice a1 r1.length c1] 53 rfl).alloc #[.slice b0 s0.length d0x, .slice b1 s1.length d1x] 53 (n := w.heap.size + 1) (by simp)).alloc #[.slice none 0 0, .slice none 0 0] 53 (n := w.heap.size + 1 + 1) (by simp)
  go_enter Tryz.func46, Tryz.ntmps46
  go_wp2_with fail
  go_cut [9] (fun bx wx => ∃ g d0 e0 d1 e1 l0 t0 l1 t1, bx = .pointer (some ⟨g, 0, none⟩) ∧ Hid (St w wx.heap.size wx [(w.heap.size, #[.slice a0 r0.length c0, .slice a1 r1.length c1], 53), (w.heap.size + 1, #[.slice b0 s0.length d0x, .slice b1 s1.length d1x], 53), (w.heap.size + 1 + 1, #[.slice none 0 0, .slice none 0 0], 53), (g, #[.slice d0 r0.length e0, .slice d1 r1.length e1], 53)]) ∧ Hid (Iv l0 t0 wx [.slice d0 r0.length e0] r0) ∧ Hid (Iv l1 t1 wx [.slice d1 r1.length e1] r1) ∧ Hid (w.heap.size + 3 ≤ l0 ∧ t0 ≤ l1 ∧ (g < l0 ∨ t0 ≤ g) ∧ (g < l1 ∨ t1 ≤ g) ∧ w.heap.size + 3 ≤ g ∧ l0 ≤ t0 ∧ l1 ≤ t1 ∧ t1 ≤ wx.heap.size))
  case first =>
    refine wp_region_noPanic (wp_region_tree (fun w' => w'.cell? ⟨w.heap.size, 0, none⟩ = some (.slice a0 r0.length c0) ∧ w'.cell? ⟨w.heap.size, 1, none⟩ = some (.slice a1 r1.length c1)) (.float 0 (.float 1 (.float 3 (.float 4 (.fork2 2 (.fork2 5 (.float 6 (.hard 7 (.last 8 .nil))) 7 (.hard 5 (.float 6 (.last 8 .nil)))) 7 (.hard 2 (.hard 5 (.float 6 (.last 8 .nil))))))))) (by kernel_rfl) (by kernel_rfl) (by kernel_rfl) rfl ?_ (fun _ _ _ _ _ h => h) ?_)
    · exact ⟨(hs.drew).cellAt 0 rfl 0 rfl, (hs.drew).cellAt 0 rfl 1 rfl⟩
    have hsd := hs.drew
    (repeat (first | (apply tr_skip rfl (by rfl); try simp only [Act.put, List.setIfInBounds_toArray, List.set_cons_zero, List.set_cons_succ]) | (apply tr_float rfl (by rfl); (· (intro w' hS; go_simp <;> with_reducible rfl)); (try simp only [Act.put, List.setIfInBounds_toArray, List.set_cons_zero, List.set_cons_succ]))))
    refine tr_fork2 ?_ ?_
    · refine tr_hard rfl (by rfl) (fun K hK => ?_)
      go_wp2_with (go_at_call 47; refine (cloneInts_c r0 _ _ (Rd.mono R0.out hsd.bel) (by omega)).mono ?_; rintro e w4 ⟨b4, rfl, fr4, hb4⟩)
      have hs4 := hsd.step hb4
      obtain ⟨m4, n4, rfl, _⟩ := rd_list fr4.rd
      refine ⟨⟨hs4.cellAt 0 rfl 0 rfl, hs4.cellAt 0 rfl 1 rfl⟩, ?_⟩
      (repeat (first | (apply tr_skip rfl (by rfl); try simp only [Act.put, List.setIfInBounds_toArray, List.set_cons_zero, List.set_cons_succ]) | (apply tr_float rfl (by rfl); (· (intro w' hS; go_simp <;> with_reducible rfl)); (try simp only [Act.put, List.setIfInBounds_toArray, List.set_cons_zero, List.set_cons_succ]))))
      refine tr_fork2 ?_ ?_
      · refine tr_hard rfl (by rfl) (fun K hK => ?_)
        go_wp2_with (go_at_call 47; refine (cloneInts_c r1 _ _ (Rd.mono R1.out hs4.bel) (by omega)).mono ?_; rintro e w5 ⟨b5, rfl, fr5, hb5⟩)
        have hs5 := hs4.step hb5
        obtain ⟨m5, n5, rfl, _⟩ := rd_list fr5.rd
        refine ⟨⟨hs5.cellAt 0 rfl 0 rfl, hs5.cellAt 0 rfl 1 rfl⟩, ?_⟩
        (repeat (first | (apply tr_skip rfl (by rfl); try simp only [Act.put, List.setIfInBounds_toArray, List.set_cons_zero, List.set_cons_succ]) | (apply tr_float rfl (by rfl); (· (intro w' hS; go_simp <;> with_reducible rfl)); (try simp only [Act.put, List.setIfInBounds_toArray, List.set_cons_zero, List.set_cons_succ]))))
        refine tr_hard rfl (by rfl) (fun K hK => ?_)
        go_wp2_with fail
        refine ⟨⟨cellL (belowA _ _) (hs5.cellAt 0 rfl 0 rfl), cellL (belowA _ _) (hs5.cellAt 0 rfl 1 rfl)⟩, ?_⟩
        refine tr_last rfl (by rfl) (fun K hK => ?_)
        go_wp2
        refine tr_nil (NoPanic.normal ?_)
        go_wp2_with fail
        go_meet
        case rel =>
          have z4 := hb4.size
          have z5 := hb5.size
          have e4 : w.heap.size + 3 ≤ w4.heap.size := hs4.hi
          have hs6 := (hs5.up (B' := w5.heap.size) hs5.hi (Nat.le_refl _)).alloc #[.slice m4 r0.length n4, .slice m5 r1.length n5] 53 rfl
          exact ⟨w5.heap.size, m4, n4, m5, n5, _, _, _, _, rfl, by simpa [Hid] using hs6, ((Fresh.iv fr4).mono hb5).mono (belowA _ _), (Fresh.iv fr5).mono (belowA _ _), by simp [Hid]; omega⟩
      · refine tr_hard rfl (by rfl) (fun K hK => ?_)
        go_wp2_with fail
        have hs6 := (hs4.up (B' := _) hs4.hi (Nat.le_refl _)).alloc #[.slice none 0 0, .slice none 0 0] 53 rfl
        refine ⟨⟨hs6.cellAt 0 rfl 0 rfl, hs6.cellAt 0 rfl 1 rfl⟩, ?_⟩
        (repeat (first | (apply tr_skip rfl (by rfl); try simp only [Act.put, List.setIfInBounds_toArray, List.set_cons_zero, List.set_cons_succ]) | (apply tr_float rfl (by rfl); (· (intro w' hS; go_simp <;> with_reducible rfl)); (try simp only [Act.put, List.setIfInBounds_toArray, List.set_cons_zero, List.set_cons_succ]))))
        refine tr_hard rfl (by rfl) (fun K hK => ?_)
        go_wp2_with (go_at_call 47; refine (cloneInts_c r1 _ _ (Rd.mono R1.out hs6.bel) (by omega)).mono ?_; rintro e w5 ⟨b5, rfl, fr5, hb5⟩)
        have hs7 := hs6.step hb5
        obtain ⟨m5, n5, rfl, _⟩ := rd_list fr5.rd
        refine ⟨⟨hs7.cellAt 0 rfl 0 rfl, hs7.cellAt 0 rfl 1 rfl⟩, ?_⟩
        (repeat (first | (apply tr_skip rfl (by rfl); try simp only [Act.put, List.setIfInBounds_toArray, List.set_cons_zero, List.set_cons_succ]) | (apply tr_float rfl (by rfl); (· (intro w' hS; go_simp <;> with_reducible rfl)); (try simp only [Act.put, List.setIfInBounds_toArray, List.set_cons_zero, List.set_cons_succ]))))
        have f0 := hs7.freeAt 3 rfl 0
        have f1 := hs7.freeAt 3 rfl 1
        have k0 := hs7.cellAt 3 rfl 0 rfl
        have k1 := hs7.cellAt 3 rfl 1 rfl
        refine tr_last rfl (by rfl) (fun K hK => ?_)
        go_wp2
        refine tr_nil (NoPanic.normal ?_)
        go_wp2_with fail
        go_meet
        case rel =>
          have z4 := hb4.size
          have z5 := hb5.size
          have e4 : w.heap.size + 3 ≤ w4.heap.size := hs4.hi
          have x1 := hs7.set (p := [_, _, _]) (by simp <;> omega) 0 (.slice m4 r0.length n4)
          have x2 := x1.set (p := [_, _, _]) (by simp <;> omega) 1 (.slice m5 r1.length n5)
          have i4 := ((Fresh.iv fr4).mono (belowA _ _)).mono hb5
          have i5 := Fresh.iv fr5
          have j4 := (i4.setOut (a := ⟨w4.heap.size, 0, none⟩) (.inr (Nat.le_refl _)) (.slice m4 r0.length n4)).setOut (a := ⟨w4.heap.size, 1, none⟩) (.inr (Nat.le_refl _)) (.slice m5 r1.length n5)
          have j5 := (i5.setOut (a := ⟨w4.heap.size, 0, none⟩) (.inl (by simp)) (.slice m4 r0.length n4)).setOut (a := ⟨w4.heap.size, 1, none⟩) (.inl (by simp)) (.slice m5 r1.length n5)
          exact ⟨w4.heap.size, m4, n4, m5, n5, _, _, _, _, rfl, x2.up (B' := _) x2.hi (Nat.le_refl _), j4, j5, by simp [Hid, World.setCell] at z4 z5 ⊢; omega⟩
    · refine tr_hard rfl (by rfl) (fun K hK => ?_)
      go_wp2_with fail
      have hs3 := hsd.alloc #[.slice none 0 0, .slice none 0 0] 53 (n := w.heap.size + 1 + 1 + 1) (by simp)
      refine ⟨⟨hs3.cellAt 0 rfl 0 rfl, hs3.cellAt 0 rfl 1 rfl⟩, ?_⟩
      (repeat (first | (apply tr_skip rfl (by rfl); try simp only [Act.put, List.setIfInBounds_toArray, List.set_cons_zero, List.set_cons_succ]) | (apply tr_float rfl (by rfl); (· (intro w' hS; go_simp <;> with_reducible rfl)); (try simp only [Act.put, List.setIfInBounds_toArray, List.set_cons_zero, List.set_cons_succ]))))
      refine tr_hard rfl (by rfl) (fun K hK => ?_)
      go_wp2_with (go_at_call 47; refine (cloneInts_c r0 _ _ (Rd.mono R0.out hs3.bel) (by omega)).mono ?_; rintro e w4 ⟨b4, rfl, fr4, hb4⟩)
      have hs4 := hs3.step hb4
      obtain ⟨m4, n4, rfl, _⟩ := rd_list fr4.rd
      refine ⟨⟨hs4.cellAt 0 rfl 0 rfl, hs4.cellAt 0 rfl 1 rfl⟩, ?_⟩
      (repeat (first | (apply tr_skip rfl (by rfl); try simp only [Act.put, List.setIfInBounds_toArray, List.set_cons_zero, List.set_cons_succ]) | (apply tr_float rfl (by rfl); (· (intro w' hS; go_simp <;> with_reducible rfl)); (try simp only [Act.put, List.setIfInBounds_toArray, List.set_cons_zero, List.set_cons_succ]))))
      refine tr_hard rfl (by rfl) (fun K hK => ?_)
      go_wp2_with (go_at_call 47; refine (cloneInts_c r1 _ _ (Rd.mono R1.out hs4.bel) (by omega)).mono ?_; rintro e w5 ⟨b5, rfl, fr5, hb5⟩)
      have hs5 := hs4.step hb5
      obtain ⟨m5, n5, rfl, _⟩ := rd_list fr5.rd
      refine ⟨⟨hs5.cellAt 0 rfl 0 rfl, hs5.cellAt 0 rfl 1 rfl⟩, ?_⟩
      (repeat (first | (apply tr_skip rfl (by rfl); try simp only [Act.put, List.setIfInBounds_toArray, List.set_cons_zero, List.set_cons_succ]) | (apply tr_float rfl (by rfl); (· (intro w' hS; go_simp <;> with_reducible rfl)); (try simp only [Act.put, List.setIfInBounds_toArray, List.set_cons_zero, List.set_cons_succ]))))
      have f0 := hs5.freeAt 3 rfl 0
      have f1 := hs5.freeAt 3 rfl 1
      have k0 := hs5.cellAt 3 rfl 0 rfl
      have k1 := hs5.cellAt 3 rfl 1 rfl
      refine tr_last rfl (by rfl) (fun K hK => ?_)
      go_wp2
      refine tr_nil (NoPanic.normal ?_)
      go_wp2_with fail
      go_meet
      case rel =>
        have z4 := hb4.size
        have z5 := hb5.size
        have x1 := hs5.set (p := [_, _, _]) (by simp <;> omega) 0 (.slice m4 r0.length n4)
        have x2 := x1.set (p := [_, _, _]) (by simp <;> omega) 1 (.slice m5 r1.length n5)
        have i4 := (Fresh.iv fr4).mono hb5
        have i5 := Fresh.iv fr5
        have j4 := (i4.setOut (a := ⟨w.heap.size + 1 + 1 + 1, 0, none⟩) (.inl (by simp)) (.slice m4 r0.length n4)).setOut (a := ⟨w.heap.size + 1 + 1 + 1, 1, none⟩) (.inl (by simp)) (.slice m5 r1.length n5)
        have j5 := (i5.setOut (a := ⟨w.heap.size + 1 + 1 + 1, 0, none⟩) (.inl (by simp at z4 ⊢; omega)) (.slice m4 r0.length n4)).setOut (a := ⟨w.heap.size + 1 + 1 + 1, 1, none⟩) (.inl (by simp at z4 ⊢; omega)) (.slice m5 r1.length n5)
        exact ⟨w.heap.size + 1 + 1 + 1, m4, n4, m5, n5, _, _, _, _, rfl, x2.up (B' := _) x2.hi (Nat.le_refl _), j4, j5, by simp [Hid, World.setCell] at z4 z5 ⊢; omega⟩
  case rest =>
    obtain ⟨g, d0, e0, d1, e1, l0, t0, l1, t1, rfl, hst, hi0, hi1, hbd⟩ := hcut
    have q1 := hst.out.cellAt 1 rfl 0 rfl
    go_wp2_with fail
    go_loopw [24] (fun i wr => ∃ j : Nat, j ≤ s0.length ∧ i = .int .i64 j ∧ Hid (wr.heap.size = wc.heap.size) ∧ Hid (St w wc.heap.size wr [(w.heap.size, #[.slice a0 r0.length c0, .slice a1 r1.length c1], 53), (w.heap.size + 1, #[.slice b0 s0.length d0x, .slice b1 s1.length d1x], 53), (w.heap.size + 1 + 1, #[.slice none 0 0, .slice none 0 0], 53), (g, #[.slice d0 r0.length e0, .slice d1 r1.length e1], 53)]) ∧ Hid (Iv l0 t0 wr [.slice d0 r0.length e0] (zipTo (fun a b => (a + k * b) % p) r0 s0 j)) ∧ Hid (Iv l1 t1 wr [.slice d1 r1.length e1] (r1))) (fun i _ => s0.length - (intOf i).toNat)
    case atStart => exact ⟨0, Nat.zero_le _, rfl, rfl, hst.out, by simpa [Hid, zipTo_zero] using hi0.out, hi1.out⟩
    case round =>
      obtain ⟨j, hj, rfl, hsz, hst2, hj0, hj1⟩ := hrel
      by_cases hlt : j < s0.length
      · have hlr : j < r0.length := by omega
        obtain ⟨g', o', c', hv, hgl, hgh, hc, hf, hI, hset⟩ := iv_int_set hj0.out j (by rw [zipTo_length _ _ _ _ (by omega) (by omega)]; omega)
        rw [zipTo_length _ _ _ _ (by omega) (by omega)] at hv
        simp only [Value.slice.injEq] at hv
        obtain ⟨rfl, -, rfl⟩ := hv
        rw [zipTo_get _ _ _ _ hlr (by omega)] at hc hI
        obtain ⟨b', o2, rfl, hcs, hIs⟩ := rd_int_at (Rd.mono S0.out hst2.out.bel) j hlt
        have gA := RR1.out.get j hlr
        have gB := RS1.out.get j hlt
        have hm := small_mul gA gB hp hk0 hk
        have hz := Lib.hid (zipTo_succ (fun a b => (a + k * b) % p) r0 s0 j hlr hlt)
        have HSET := Lib.hid hset
        clear hset
        have q0 := hst2.out.cellAt 3 rfl 0 rfl
        generalize r0[j] = A at *
        generalize s0[j] = B at *
        have hT : (A + k * B).tmod p = (A + k * B) % p := Int.tmod_eq_emod_of_nonneg (by omega)
        have hE0 := Int.emod_nonneg (A + k * B) (show p ≠ 0 by omega)
        have hE1 := Int.emod_lt_of_pos (A + k * B) (show 0 < p by omega)
        have hN := HSET.out ((A + k * B) % p) ⟨by omega, by omega⟩
        rw [hz.out] at hN
        have HN := Lib.hid hN
        clear hN
        have hjr : (j : Int) < r0.length := by omega
        have hw1 : IntKind.i64.wrap (k * B) = k * B := i64_in _ (by omega)
        have hw2 : IntKind.i64.wrap (A + k * B) = A + k * B := i64_in _ (by omega)
        have hw3 : IntKind.i64.wrap ((A + k * B) % p) = (A + k * B) % p := i64_in _ (by omega)
        have hp1 : p ≠ 0 := by omega
        have hp2 : (p == 0) = false := by simpa using hp1
        go_wp2_with fail
        refine wp_region_noPanic (wp_region_el (fun w' => w'.cell? ⟨g, 0, none⟩ = some (.slice (some ⟨g', o', none⟩) r0.length e0) ∧ w'.cell? ⟨g', o' + j, none⟩ = some (.int .i64 A)) [(0, 0), (1, 0), (2, 0), (3, 0), (4, 0), (5, 0), (6, 0), (7, 0), (8, 0), (9, 0), (10, 0), (11, 0), (12, 0), (13, 0), (14, 0), (15, 2)] (by kernel_rfl) (by kernel_rfl) (by kernel_rfl) rfl ?_ (fun _ _ _ _ _ h => h) ?_)
        · exact ⟨q0, hc⟩
        (repeat (first | (apply el_skip rfl (by rfl); try simp only [Act.put, List.setIfInBounds_toArray, List.set_cons_zero, List.set_cons_succ]) | (apply el_float rfl (by rfl); (· (intro w' hS; go_simp <;> with_reducible rfl)); (try simp only [Act.put, List.setIfInBounds_toArray, List.set_cons_zero, List.set_cons_succ]))))
        refine el_last rfl (by rfl) (fun K hK => ?_)
        go_wp2_with fail
        refine el_nil (NoPanic.normal ?_)
        go_wp2_with fail
        go_roundw
        case rel =>
          have B' := hbd.out
          refine ⟨j + 1, by omega, by go_num, by simpa [Hid, World.setCell] using hsz.out, ?_, ?_, ?_⟩
          · exact hst2.out.drew.butIv (OnlyAt.but ((OnlyAt.refl [g'] wr.drew).setCell (p := ⟨g', o' + j, none⟩) (by simp) _)) (fun z hz => by simp at hz; omega) (fun x hx hp => by simp at hx hp; rcases hx with rfl | rfl | rfl | rfl <;> simp at hp <;> omega)
          · exact HN.out.frame (fun _ _ _ => rfl)
          · exact (hj1.out.frame (w' := wr.drew) (fun _ _ _ => rfl)).setOut (a := ⟨g', o' + j, none⟩) (by simp; omega) _
        case measure => simp [intOf]; omega
      · obtain rfl : j = s0.length := by omega
        clear q1
        have q1 := hst2.out.cellAt 1 rfl 1 rfl
        go_wp2_with fail
        go_loopw [48] (fun i wr => ∃ j : Nat, j ≤ s1.length ∧ i = .int .i64 j ∧ Hid (wr.heap.size = wc.heap.size) ∧ Hid (St w wc.heap.size wr [(w.heap.size, #[.slice a0 r0.length c0, .slice a1 r1.length c1], 53), (w.heap.size + 1, #[.slice b0 s0.length d0x, .slice b1 s1.length d1x], 53), (w.heap.size + 1 + 1, #[.slice none 0 0, .slice none 0 0], 53), (g, #[.slice d0 r0.length e0, .slice d1 r1.length e1], 53)]) ∧ Hid (Iv l0 t0 wr [.slice d0 r0.length e0] (zipTo (fun a b => (a + k * b) % p) r0 s0 s0.length)) ∧ Hid (Iv l1 t1 wr [.slice d1 r1.length e1] (zipTo (fun a b => (a + k * b) % p) r1 s1 j))) (fun i _ => s1.length - (intOf i).toNat)
        case atStart => exact ⟨0, Nat.zero_le _, rfl, hsz.out, hst2.out, hj0.out, by simpa [Hid, zipTo_zero] using hj1.out⟩
        case round =>
          obtain ⟨j, hj, rfl, hsz, hst2, hj0, hj1⟩ := hrel
          by_cases hlt : j < s1.length
          · have hlr : j < r1.length := by omega
            obtain ⟨g', o', c', hv, hgl, hgh, hc, hf, hI, hset⟩ := iv_int_set hj1.out j (by rw [zipTo_length _ _ _ _ (by omega) (by omega)]; omega)
            rw [zipTo_length _ _ _ _ (by omega) (by omega)] at hv
            simp only [Value.slice.injEq] at hv
            obtain ⟨rfl, -, rfl⟩ := hv
            rw [zipTo_get _ _ _ _ hlr (by omega)] at hc hI
            obtain ⟨b', o2, rfl, hcs, hIs⟩ := rd_int_at (Rd.mono S1.out hst2.out.bel) j hlt
            have gA := RR2.out.get j hlr
            have gB := RS2.out.get j hlt
            have hm := small_mul gA gB hp hk0 hk
            have hz := Lib.hid (zipTo_succ (fun a b => (a + k * b) % p) r1 s1 j hlr hlt)
            have HSET := Lib.hid hset
            clear hset
            have q0 := hst2.out.cellAt 3 rfl 1 rfl
            generalize r1[j] = A at *
            generalize s1[j] = B at *
            have hT : (A + k * B).tmod p = (A + k * B) % p := Int.tmod_eq_emod_of_nonneg (by omega)
            have hE0 := Int.emod_nonneg (A + k * B) (show p ≠ 0 by omega)
            have hE1 := Int.emod_lt_of_pos (A + k * B) (show 0 < p by omega)
            have hN := HSET.out ((A + k * B) % p) ⟨by omega, by omega⟩
            rw [hz.out] at hN
            have HN := Lib.hid hN
            clear hN
            have hjr : (j : Int) < r1.length := by omega
            have hw1 : IntKind.i64.wrap (k * B) = k * B := i64_in _ (by omega)
            have hw2 : IntKind.i64.wrap (A + k * B) = A + k * B := i64_in _ (by omega)
            have hw3 : IntKind.i64.wrap ((A + k * B) % p) = (A + k * B) % p := i64_in _ (by omega)
            have hp1 : p ≠ 0 := by omega
            have hp2 : (p == 0) = false := by simpa using hp1
            go_wp2_with fail
            refine wp_region_noPanic (wp_region_el (fun w' => w'.cell? ⟨g, 1, none⟩ = some (.slice (some ⟨g', o', none⟩) r1.length e1) ∧ w'.cell? ⟨g', o' + j, none⟩ = some (.int .i64 A)) [(0, 0), (1, 0), (2, 0), (3, 0), (4, 0), (5, 0), (6, 0), (7, 0), (8, 0), (9, 0), (10, 0), (11, 0), (12, 0), (13, 0), (14, 0), (15, 2)] (by kernel_rfl) (by kernel_rfl) (by kernel_rfl) rfl ?_ (fun _ _ _ _ _ h => h) ?_)
            · exact ⟨q0, hc⟩
            (repeat (first | (apply el_skip rfl (by rfl); try simp only [Act.put, List.setIfInBounds_toArray, List.set_cons_zero, List.set_cons_succ]) | (apply el_float rfl (by rfl); (· (intro w' hS; go_simp <;> with_reducible rfl)); (try simp only [Act.put, List.setIfInBounds_toArray, List.set_cons_zero, List.set_cons_succ]))))
            refine el_last rfl (by rfl) (fun K hK => ?_)
            go_wp2_with fail
            refine el_nil (NoPanic.normal ?_)
            go_wp2_with fail
            go_roundw
            case rel =>
              have B' := hbd.out
              refine ⟨j + 1, by omega, by go_num, by simpa [Hid, World.setCell] using hsz.out, ?_, ?_, ?_⟩
              · exact hst2.out.drew.butIv (OnlyAt.but ((OnlyAt.refl [g'] wr.drew).setCell (p := ⟨g', o' + j, none⟩) (by simp) _)) (fun z hz => by simp at hz; omega) (fun x hx hp => by simp at hx hp; rcases hx with rfl | rfl | rfl | rfl <;> simp at hp <;> omega)
              · exact (hj0.out.frame (w' := wr.drew) (fun _ _ _ => rfl)).setOut (a := ⟨g', o' + j, none⟩) (by simp; omega) _
              · exact HN.out.frame (fun _ _ _ => rfl)
            case measure => simp [intOf]; omega
          · obtain rfl : j = s1.length := by omega
            have q0 := hst2.out.cellAt 3 rfl 0 rfl
            have q2 := hst2.out.cellAt 3 rfl 1 rfl
            have f0 := hst2.out.freeAt 2 rfl 0
            have f1 := hst2.out.freeAt 2 rfl 1
            have k0 := hst2.out.cellAt 2 rfl 0 rfl
            have k1 := hst2.out.cellAt 2 rfl 1 rfl
            go_wp2_with fail
            have B' := hbd.out
            have iA := iv_cons hj0.out hj1.out (by omega) (by omega) (by omega)
            rw [zipTo_all', zipTo_all'] at iA
            refine bodyPost_ret (v := .agg #[.slice d0 r0.length e0, .slice d1 r1.length e1]) (by simp [results, Tryz.results46, go_sem, k0, k1, f0, f1]) rfl ⟨_, _, rfl, ?_⟩
            exact hst2.out.finI iA (g := w.heap.size + 1 + 1) (by omega) (by omega) [.slice d0 r0.length e0, .slice d1 r1.length e1]

end Go.Proofs.YthceklaoikeokaaGreatDoor

/-
  CONTRACT: (row).times of the program.
-/
namespace Go.Proofs.YthceklaoikeokaaGreatDoor
open Go.RowKit Go.Shelf Go.IntWalk
open Rep (Rd Own sz)
set_option linter.unusedSimpArgs false
set_option linter.unusedVariables false

set_option maxRecDepth 100000 in
set_option maxHeartbeats 1000000 in
theorem times_c (p n : Int) (r : RowT) (v0 v1 : Value) (w : World) (hr : Rd w [v0, v1] r) (h1 : r.1.length ≤ 1000000) (h2 : r.2.length ≤ 1000000)
    (hp0 : 2 ≤ p) (hp : p ≤ 3) (hn0 : 0 ≤ n) (hn : n ≤ 3) (rr1 : Res p r.1) (rr2 : Res p r.2) :
    Calls Tryz.prog 28 #[.agg #[v0, v1], .int .i64 p, .int .i64 n] w fun e w' => ∃ o0 o1, e = .returned (.agg #[o0, o1]) ∧ Fresh w.heap.size w' [o0, o1] (timesR p n r) ∧ Below w.heap.size w w' := by
  have hs := ((St.start w).alloc #[v0, v1] 53 rfl).alloc #[.slice none 0 0, .slice none 0 0] 53 (n := w.heap.size + 1) (by simp)
  have HR := Lib.hid hr
  clear hr
  go_enter Tryz.func28, Tryz.ntmps28
  go_wp2_with fail
  refine (addTimes_c p (n - 1 + p) r r v0 v1 v0 v1 _ (Rd.mono HR.out hs.bel) (Rd.mono HR.out hs.bel) h1 h2 hp0 hp (by omega) (by omega) rr1 rr2 rr1 rr2 (Nat.le_refl _) (Nat.le_refl _)).mono ?_
  rintro e w1 ⟨o0, o1, rfl, fr, hb1⟩
  have hs1 := hs.step hb1
  have iv := Fresh.iv fr
  have f0 := hs1.freeAt 1 rfl 0
  have f1 := hs1.freeAt 1 rfl 1
  have k0 := hs1.cellAt 1 rfl 0 rfl
  have k1 := hs1.cellAt 1 rfl 1 rfl
  have one : ∀ u, u ∈ [o0, o1] → u.oneCell' = true := Rep.rd_one fr.rd
  have IV := Lib.hid iv
  clear fr iv
  have q0 := one o0 (by simp)
  have q1 := one o1 (by simp)
  have z := rd_cons rfl (Iv.rd IV.out)
  obtain ⟨a0, c0, rfl, _⟩ := rd_list z.1
  obtain ⟨a1, c1, rfl, _⟩ := rd_list z.2
  clear z one q0 q1
  have hz : w.heap.size + 2 ≤ w1.heap.size := hs1.hi
  go_wp2_with fail
  refine bodyPost_ret (v := .agg #[.slice a0 (timesR p n r).1.length c0, .slice a1 (timesR p n r).2.length c1]) (by simp [results, Tryz.results28, go_sem, timesR, k0, k1, f0, f1]) rfl ⟨_, _, rfl, ?_⟩
  exact hs1.finI IV.out (g := w.heap.size + 1) (by omega) (by simp) [.slice a0 (timesR p n r).1.length c0, .slice a1 (timesR p n r).2.length c1]

end Go.Proofs.YthceklaoikeokaaGreatDoor

/-
  PLAIN: a row of the reference in memory.
-/
namespace Go.Proofs.YthceklaoikeokaaGreatDoor
open Go.RowKit
open Rep (Rd Own sz)
set_option linter.unusedSimpArgs false
set_option linter.unusedVariables false

theorem set_same (cur : Array Value) (q : Nat) (v : Value) (h : cur[q]? = some v) : cur.setIfInBounds q v = cur := by
  apply Array.ext_getElem?
  intro i
  by_cases hi : q = i
  · subst hi
    rw [Array.getElem?_setIfInBounds_self_of_lt (Array.getElem?_eq_some_iff.1 h).1, h]
  · rw [Array.getElem?_setIfInBounds_ne hi]
/-- A row that may be written: at offset o of block b; its two lists in blocks of their own. -/
structure RowIn (w : World) (b o : Nat) (cur : Array Value) (e : TypeId) (p0 p2 : List Nat) (v0 v2 : Value) (r : SRow) : Prop where
  blk : w.heap[b]? = some (.cells cur e (0, 0))
  c0 : cur[o]? = some v0
  c1 : cur[o + 1]? = some (.int .i64 r.2.1)
  c2 : cur[o + 2]? = some v2
  own0 : OwnSl p0 w v0 r.1
  own2 : OwnSl p2 w v2 r.2.2
  n0 : b ∉ p0
  n2 : b ∉ p2
  dis : ∀ k, k ∈ p0 → k ∉ p2
/-- A row that is read. -/
def OthIn (w : World) (b o : Nat) (u0 u2 : Value) (r : SRow) : Prop :=
  w.cell? ⟨b, o, none⟩ = some u0 ∧ w.cell? ⟨b, o + 1, none⟩ = some (.int .i64 r.2.1) ∧ w.cell? ⟨b, o + 2, none⟩ = some u2 ∧ Rd w [u0] r.1 ∧ Rd w [u2] r.2.2

/-- A writing call: one box is turned, the others stay. -/
theorem St.only {w : World} {B : Nat} {wr w1 : World} {p q : List (Nat × Array Value × TypeId)} {g : Nat} {cs cs' : Array Value} {t : TypeId} (h : St w B wr (p ++ (g, cs, t) :: q)) {ps : List Nat} (ho : OnlyAt ps wr w1) (hps : ∀ k, k ∈ ps → w.heap.size ≤ k)
    (hx : ∀ x, x ∈ p ++ q → x.1 ∉ ps) (hg : w1.heap[g]? = some (.cells cs' t (0, 0))) : St w B w1 (p ++ (g, cs', t) :: q) := by
  have h0 := h.box (g, cs, t) (by simp)
  refine ⟨h.bel.trans (ho.below hps), h.lo, by rw [ho.size]; exact h.hi, fun x hm => ?_⟩
  by_cases he : x = (g, cs', t)
  · subst he; exact ⟨h0.1, h0.2.1, hg⟩
  · have hm' : x ∈ p ++ q := by
      rcases List.mem_append.1 hm with hm | hm
      · exact List.mem_append.2 (.inl hm)
      · rcases List.mem_cons.1 hm with hm | hm
        · exact absurd hm he
        · exact List.mem_append.2 (.inr hm)
    have h1 := h.box x (by rcases List.mem_append.1 hm' with hm' | hm' <;> simp [hm'])
    exact ⟨h1.1, h1.2.1, by rw [ho.block _ (hx x hm')]; exact h1.2.2⟩

end Go.Proofs.YthceklaoikeokaaGreatDoor

/-
  CONTRACT: (*l07Row).less of the reference. (Printed by wip/genrow.py.)
-/
namespace Go.Proofs.YthceklaoikeokaaGreatDoor
open Go.RowKit Go.Shelf Go.IntWalk
open Rep (Rd Own sz)
set_option linter.unusedSimpArgs false
set_option linter.unusedVariables false


set_option maxRecDepth 100000 in
set_option maxHeartbeats 4000000 in
theorem less_c (p k : Int) (r q : SRow) (b o b2 o2 : Nat) (cur : Array Value) (e : TypeId) (p0 p2 : List Nat) (v0 v2 u0 u2 : Value) (w : World) (hr : RowIn w b o cur e p0 p2 v0 v2 r)
    (hoth : ∀ w' x, OnlyAt (b :: (p0 ++ p2)) w w' → w'.heap[b]? = some (.cells (cur.setIfInBounds (o + 1) (.int .i64 x)) e (0, 0)) → OthIn w' b2 o2 u0 u2 q)
    (hp0 : 2 ≤ p) (hp : p ≤ 3) (hk0 : 0 ≤ k) (hk : k ≤ 100) (gr : Res p r.1) (gr1 : 0 ≤ r.2.1 ∧ r.2.1 < p) (gr2 : Res p r.2.2) (gq : Res p q.1) (gq1 : 0 ≤ q.2.1 ∧ q.2.1 < p) (gq2 : Res p q.2.2) (l1 : r.1.length = q.1.length) (l2 : r.2.2.length = q.2.2.length) :
    Calls Tryz.prog 69 #[.pointer (some ⟨b, o, none⟩), .pointer (some ⟨b2, o2, none⟩), .int .i64 k, .int .i64 p] w fun en w' => en = .returned (.tuple #[]) ∧ RowIn w' b o (cur.setIfInBounds (o + 1) (.int .i64 (lessS p k r q).2.1)) e p0 p2 v0 v2 (lessS p k r q) ∧ OnlyAt (b :: (p0 ++ p2)) w w' := by
  obtain ⟨rl, rr, rb⟩ := r
  obtain ⟨ql, qr, qb⟩ := q
  have hrow := hr
  obtain ⟨hblk, hc0, hc1, hc2, ho0, ho2, hn0, hn2, hd⟩ := hr
  obtain ⟨a0, c0, rfl, hm0⟩ := ownSl_len ho0
  obtain ⟨a2, c2, rfl, hm2⟩ := ownSl_len ho2
  unfold maxLen at hm0 hm2
  simp only at gr gr1 gr2 gq gq1 gq2 l1 l2 hm0 hm2 hc1
  have BLK := Lib.hid hblk
  have HC0 := Lib.hid hc0
  have HC1 := Lib.hid hc1
  have HC2 := Lib.hid hc2
  have O0 := Lib.hid ho0
  have O2 := Lib.hid ho2
  have GR := Lib.hid gr
  have GR2 := Lib.hid gr2
  have ob : o + 1 < cur.size := (Array.getElem?_eq_some_iff.1 hc1).1
  have GQ := Lib.hid gq
  have GQ2 := Lib.hid gq2
  have L1 := Lib.hid l1
  have L2 := Lib.hid l2
  have HO := Lib.hid hoth
  clear gq gq2 hoth l1 l2
  clear hblk hc0 hc1 hc2 ho0 ho2 gr gr2 hrow
  have hp1 : p ≠ 0 := by omega
  have hp2 : (p == 0) = false := by simpa using hp1
  go_enter Tryz.func69, Tryz.ntmps69
  go_wp2_with fail
  go_loopw [8] (fun i wr => ∃ j : Nat, j ≤ rl.length ∧ i = .int .i64 j ∧ Hid (OnlyAt (b :: (p0 ++ p2)) w wr) ∧ Hid (wr.heap[b]? = some (.cells (cur) e (0, 0))) ∧ Hid (OwnSl p0 wr (.slice a0 rl.length c0) (zipTo (fun a b => (a - k * b) % p) rl ql j)) ∧ Hid (OwnSl p2 wr (.slice a2 rb.length c2) (rb))) (fun i _ => rl.length - (intOf i).toNat)
  case atStart => exact ⟨0, Nat.zero_le _, rfl, OnlyAt.refl _ _, BLK.out, by simpa [Hid, zipTo_zero] using O0.out, O2.out⟩
  case round =>
    obtain ⟨j, hj, rfl, hon, hbk, hme, hot⟩ := hrel
    have q0 : wr.cell? ⟨b, o, none⟩ = some (.slice a0 rl.length c0) := by rw [cell_at_block hbk.out]; exact HC0.out
    by_cases hlt : j < rl.length
    · have hlq : j < ql.length := by rw [← L1.out]; exact hlt
      obtain ⟨q1, q2, q3, rd0, rd2⟩ := HO.out wr rr hon.out (by rw [hbk.out]; rw [set_same cur (o + 1) _ HC1.out])
      have RD := Lib.hid rd0
      obtain ⟨a3, c3, rfl, _⟩ := rd_list RD.out
      obtain ⟨b3, o3, rfl, q4, hIq⟩ := rd_int_at RD.out j hlq
      clear rd0 rd2
      obtain ⟨g', o', c', hv, hps, hc, hf, hI, hset⟩ := own_int_set hme.out j (by rw [zipTo_length _ _ _ _ (by omega) (by omega)]; omega)
      rw [zipTo_length _ _ _ _ (by omega) (by omega)] at hv
      simp only [Value.slice.injEq] at hv
      obtain ⟨rfl, -, rfl⟩ := hv
      rw [zipTo_get _ _ _ _ hlt (by omega)] at hc hI
      have gA := GR.out.get j hlt
      have gB := GQ.out.get j hlq
      have hz := Lib.hid (zipTo_succ (fun a b => (a - k * b) % p) rl ql j hlt hlq)
      have HSET := Lib.hid hset
      have HPS := Lib.hid hps
      clear hset hps
      generalize hA : rl[j] = A at *
      generalize hB : ql[j] = B at *
      clear hA hB
      have hm := small_mul gA gB hp hk0 hk
      have hw1 : IntKind.i64.wrap (k * B) = k * B := i64_in _ (by omega)
      have hw2 : IntKind.i64.wrap (A - k * B) = A - k * B := i64_in _ (by omega)
      have hE0 := Int.emod_nonneg (A - k * B) hp1
      have hE1 := Int.emod_lt_of_pos (A - k * B) (show 0 < p by omega)
      have hN := HSET.out ((A - k * B) % p) ⟨by omega, by omega⟩
      rw [hz.out] at hN
      have HN := Lib.hid hN
      clear hN
      have hjr : (j : Int) < rl.length := by omega
      have hjq : (j : Int) < ql.length := by omega
      go_wp2_with fail
      refine wp_region_noPanic (wp_region_el (fun w' => w'.cell? ⟨b, o, none⟩ = some (.slice (some ⟨g', o', none⟩) rl.length c0) ∧ w'.cell? ⟨g', o' + j, none⟩ = some (.int .i64 A) ∧ w'.cell? ⟨b2, o2, none⟩ = some (.slice (some ⟨b3, o3, none⟩) ql.length c3) ∧ w'.cell? ⟨b3, o3 + j, none⟩ = some (.int .i64 B)) [(0, 0), (1, 0), (2, 0), (3, 0), (4, 0), (5, 0), (6, 0), (7, 0), (8, 0), (9, 0), (10, 0), (11, 0), (12, 0), (13, 0), (14, 0), (15, 0), (16, 0), (17, 0), (18, 0), (19, 0), (20, 0), (21, 0), (22, 0), (23, 1), (24, 0), (25, 2)] (by kernel_rfl) (by kernel_rfl) (by kernel_rfl) rfl ?_ (fun _ _ _ _ _ h => h) ?_)
      · exact ⟨q0, hc, q1, q4⟩
      (repeat (first | (apply el_skip rfl (by rfl); try simp only [Act.put, List.setIfInBounds_toArray, List.set_cons_zero, List.set_cons_succ]) | (apply el_float rfl (by rfl); (· (intro w' hS; go_simp <;> with_reducible rfl)); (try simp only [Act.put, List.setIfInBounds_toArray, List.set_cons_zero, List.set_cons_succ]))))
      refine el_hard rfl (by rfl) (fun K hK => ?_)
      go_wp2_with (go_at_call 86; refine (l07Mod_c _ p _ (by omega) (by omega)).mono ?_; rintro e1 w1 ⟨rfl, rfl⟩)
      refine ⟨⟨q0, hc, q1, q4⟩, ?_⟩
      (repeat (first | (apply el_skip rfl (by rfl); try simp only [Act.put, List.setIfInBounds_toArray, List.set_cons_zero, List.set_cons_succ]) | (apply el_float rfl (by rfl); (· (intro w' hS; go_simp <;> with_reducible rfl)); (try simp only [Act.put, List.setIfInBounds_toArray, List.set_cons_zero, List.set_cons_succ]))))
      refine el_last rfl (by rfl) (fun K hK => ?_)
      go_wp2_with fail
      refine el_nil (NoPanic.normal ?_)
      go_wp2_with fail
      go_roundw
      case rel =>
        have hg : g' ∈ p0 := by rw [HPS.out]; simp
        have hgb : g' ≠ b := fun h => hn0 (h ▸ hg)
        have hgo : ∀ z, z ∈ p2 → z ∉ [g'] := fun z hz hz2 => by obtain rfl : z = g' := (by simpa using hz2); exact hd z hg hz
        have hst := (OnlyAt.refl [g'] wr.drew).setCell (p := ⟨g', o' + j, none⟩) (by simp) (.int .i64 ((A - k * B) % p))
        refine ⟨j + 1, by omega, by go_num, ?_, ?_, ?_, ?_⟩
        · exact (hon.out.drewN 1).trans (hst.mono (fun z hz => by obtain rfl : z = g' := (by simpa using hz); simp [hg]))
        · exact (hst.block b (by simp; exact fun h => hgb h.symm)).trans hbk.out
        · exact ownSl_heap HN.out rfl
        · exact ownSl_only (ownSl_heap (w' := wr.drew) hot.out rfl) hst hgo
      case measure => simp [intOf]; omega
    · obtain rfl : j = rl.length := by omega
      have ON := hon
      have BK := hbk
      have K0 := hme
      have K2 := hot
      clear hon hbk hme hot
      have q2 : wr.cell? ⟨b, o + 1, none⟩ = some (.int .i64 rr) := by rw [cell_at_block BK.out]; exact HC1.out
      have f2 : wr.frozen? ⟨b, o + 1, none⟩ = false := free_at_block BK.out
      obtain ⟨s1, s2, s3, -, -⟩ := HO.out wr rr ON.out (by rw [BK.out]; rw [set_same cur (o + 1) _ HC1.out])
      clear s1 s3
      have hm := small_mul gr1 gq1 hp hk0 hk
      have hw1 : IntKind.i64.wrap (k * qr) = k * qr := i64_in _ (by omega)
      have hw2 : IntKind.i64.wrap (rr - k * qr) = rr - k * qr := i64_in _ (by omega)
      have hE0 := Int.emod_nonneg (rr - k * qr) hp1
      have hE1 := Int.emod_lt_of_pos (rr - k * qr) (show 0 < p by omega)
      go_wp2_with fail
      refine wp_region_noPanic (wp_region_el (fun w' => w'.cell? ⟨b, o + 1, none⟩ = some (.int .i64 rr) ∧ w'.cell? ⟨b2, o2 + 1, none⟩ = some (.int .i64 qr)) [(0, 0), (1, 0), (2, 0), (3, 0), (4, 0), (5, 0), (6, 0), (7, 0), (8, 0), (9, 0), (10, 0), (11, 0), (12, 0), (13, 1), (14, 0), (15, 0), (16, 2)] (by kernel_rfl) (by kernel_rfl) (by kernel_rfl) rfl ?_ (fun _ _ _ _ _ h => h) ?_)
      · exact ⟨q2, s2⟩
      (repeat (first | (apply el_skip rfl (by rfl); try simp only [Act.put, List.setIfInBounds_toArray, List.set_cons_zero, List.set_cons_succ]) | (apply el_float rfl (by rfl); (· (intro w' hS; go_simp <;> with_reducible rfl)); (try simp only [Act.put, List.setIfInBounds_toArray, List.set_cons_zero, List.set_cons_succ]))))
      refine el_hard rfl (by rfl) (fun K hK => ?_)
      go_wp2_with (go_at_call 86; refine (l07Mod_c _ p _ (by omega) (by omega)).mono ?_; rintro e1 w1 ⟨rfl, rfl⟩)
      refine ⟨⟨q2, s2⟩, ?_⟩
      (repeat (first | (apply el_skip rfl (by rfl); try simp only [Act.put, List.setIfInBounds_toArray, List.set_cons_zero, List.set_cons_succ]) | (apply el_float rfl (by rfl); (· (intro w' hS; go_simp <;> with_reducible rfl)); (try simp only [Act.put, List.setIfInBounds_toArray, List.set_cons_zero, List.set_cons_succ]))))
      refine el_last rfl (by rfl) (fun K hK => ?_)
      go_wp2_with fail
      refine el_nil (NoPanic.normal ?_)
      have hst : OnlyAt [b] wr (wr.setCell ⟨b, o + 1, none⟩ (.int .i64 ((rr - k * qr) % p))).drew := ((OnlyAt.refl [b] wr).setCell (p := ⟨b, o + 1, none⟩) (by simp) (.int .i64 ((rr - k * qr) % p))).drewN 1
      have BK' : Hid ((wr.setCell ⟨b, o + 1, none⟩ (.int .i64 ((rr - k * qr) % p))).drew.heap[b]? = some (.cells (cur.setIfInBounds (o + 1) (.int .i64 ((rr - k * qr) % p))) e (0, 0))) := heap_setCell_at _ _ _ _ _ _ _ BK.out
      have ON' : Hid (OnlyAt (b :: (p0 ++ p2)) w (wr.setCell ⟨b, o + 1, none⟩ (.int .i64 ((rr - k * qr) % p))).drew) := ON.out.trans (hst.mono (fun z hz => by obtain rfl : z = b := (by simpa using hz); simp))
      have K0' := Lib.hid (ownSl_only K0.out hst (fun z hz hz2 => by obtain rfl : z = b := (by simpa using hz2); exact hn0 hz))
      have K2' := Lib.hid (ownSl_only K2.out hst (fun z hz hz2 => by obtain rfl : z = b := (by simpa using hz2); exact hn2 hz))
      clear BK ON K0 K2 hst q2 f2
      have BK := BK'
      have ON := ON'
      have K0 := K0'
      have K2 := K2'
      clear BK' ON' K0' K2'
      generalize hWR : (wr.setCell ⟨b, o + 1, none⟩ (.int .i64 ((rr - k * qr) % p))).drew = WR at *
      clear hWR
      go_wp2_with fail
      go_loopw [9] (fun i wr => ∃ j : Nat, j ≤ rb.length ∧ i = .int .i64 j ∧ Hid (OnlyAt (b :: (p0 ++ p2)) w wr) ∧ Hid (wr.heap[b]? = some (.cells (cur.setIfInBounds (o + 1) (.int .i64 ((rr - k * qr) % p))) e (0, 0))) ∧ Hid (OwnSl p2 wr (.slice a2 rb.length c2) (zipTo (fun a b => (a - k * b) % p) rb qb j)) ∧ Hid (OwnSl p0 wr (.slice a0 rl.length c0) (zipTo (fun a b => (a - k * b) % p) rl ql rl.length))) (fun i _ => rb.length - (intOf i).toNat)
      case atStart => exact ⟨0, Nat.zero_le _, rfl, ON.out, BK.out, by simpa [Hid, zipTo_zero] using K2.out, K0.out⟩
      case round =>
        obtain ⟨j, hj, rfl, hon, hbk, hme, hot⟩ := hrel
        have q0 : wr.cell? ⟨b, o + 2, none⟩ = some (.slice a2 rb.length c2) := by rw [cell_at_block hbk.out]; rw [Array.getElem?_setIfInBounds_ne (by omega)]; exact HC2.out
        by_cases hlt : j < rb.length
        · have hlq : j < qb.length := by rw [← L2.out]; exact hlt
          obtain ⟨q1, q2, q3, rd0, rd2⟩ := HO.out wr _ hon.out (by rw [hbk.out])
          have RD := Lib.hid rd2
          obtain ⟨a3, c3, rfl, _⟩ := rd_list RD.out
          obtain ⟨b3, o3, rfl, q4, hIq⟩ := rd_int_at RD.out j hlq
          clear rd0 rd2
          obtain ⟨g', o', c', hv, hps, hc, hf, hI, hset⟩ := own_int_set hme.out j (by rw [zipTo_length _ _ _ _ (by omega) (by omega)]; omega)
          rw [zipTo_length _ _ _ _ (by omega) (by omega)] at hv
          simp only [Value.slice.injEq] at hv
          obtain ⟨rfl, -, rfl⟩ := hv
          rw [zipTo_get _ _ _ _ hlt (by omega)] at hc hI
          have gA := GR2.out.get j hlt
          have gB := GQ2.out.get j hlq
          have hz := Lib.hid (zipTo_succ (fun a b => (a - k * b) % p) rb qb j hlt hlq)
          have HSET := Lib.hid hset
          have HPS := Lib.hid hps
          clear hset hps
          generalize hA : rb[j] = A at *
          generalize hB : qb[j] = B at *
          clear hA hB
          have hm := small_mul gA gB hp hk0 hk
          have hw1 : IntKind.i64.wrap (k * B) = k * B := i64_in _ (by omega)
          have hw2 : IntKind.i64.wrap (A - k * B) = A - k * B := i64_in _ (by omega)
          have hE0 := Int.emod_nonneg (A - k * B) hp1
          have hE1 := Int.emod_lt_of_pos (A - k * B) (show 0 < p by omega)
          have hN := HSET.out ((A - k * B) % p) ⟨by omega, by omega⟩
          rw [hz.out] at hN
          have HN := Lib.hid hN
          clear hN
          have hjr : (j : Int) < rb.length := by omega
          have hjq : (j : Int) < qb.length := by omega
          go_wp2_with fail
          refine wp_region_noPanic (wp_region_el (fun w' => w'.cell? ⟨b, o + 2, none⟩ = some (.slice (some ⟨g', o', none⟩) rb.length c2) ∧ w'.cell? ⟨g', o' + j, none⟩ = some (.int .i64 A) ∧ w'.cell? ⟨b2, o2 + 2, none⟩ = some (.slice (some ⟨b3, o3, none⟩) qb.length c3) ∧ w'.cell? ⟨b3, o3 + j, none⟩ = some (.int .i64 B)) [(0, 0), (1, 0), (2, 0), (3, 0), (4, 0), (5, 0), (6, 0), (7, 0), (8, 0), (9, 0), (10, 0), (11, 0), (12, 0), (13, 0), (14, 0), (15, 0), (16, 0), (17, 0), (18, 0), (19, 0), (20, 0), (21, 0), (22, 0), (23, 1), (24, 0), (25, 2)] (by kernel_rfl) (by kernel_rfl) (by kernel_rfl) rfl ?_ (fun _ _ _ _ _ h => h) ?_)
          · exact ⟨q0, hc, q3, q4⟩
          (repeat (first | (apply el_skip rfl (by rfl); try simp only [Act.put, List.setIfInBounds_toArray, List.set_cons_zero, List.set_cons_succ]) | (apply el_float rfl (by rfl); (· (intro w' hS; go_simp <;> with_reducible rfl)); (try simp only [Act.put, List.setIfInBounds_toArray, List.set_cons_zero, List.set_cons_succ]))))
          refine el_hard rfl (by rfl) (fun K hK => ?_)
          go_wp2_with (go_at_call 86; refine (l07Mod_c _ p _ (by omega) (by omega)).mono ?_; rintro e1 w1 ⟨rfl, rfl⟩)
          refine ⟨⟨q0, hc, q3, q4⟩, ?_⟩
          (repeat (first | (apply el_skip rfl (by rfl); try simp only [Act.put, List.setIfInBounds_toArray, List.set_cons_zero, List.set_cons_succ]) | (apply el_float rfl (by rfl); (· (intro w' hS; go_simp <;> with_reducible rfl)); (try simp only [Act.put, List.setIfInBounds_toArray, List.set_cons_zero, List.set_cons_succ]))))
          refine el_last rfl (by rfl) (fun K hK => ?_)
          go_wp2_with fail
          refine el_nil (NoPanic.normal ?_)
          go_wp2_with fail
          go_roundw
          case rel =>
            have hg : g' ∈ p2 := by rw [HPS.out]; simp
            have hgb : g' ≠ b := fun h => hn2 (h ▸ hg)
            have hgo : ∀ z, z ∈ p0 → z ∉ [g'] := fun z hz hz2 => by obtain rfl : z = g' := (by simpa using hz2); exact hd z hz hg
            have hst := (OnlyAt.refl [g'] wr.drew).setCell (p := ⟨g', o' + j, none⟩) (by simp) (.int .i64 ((A - k * B) % p))
            refine ⟨j + 1, by omega, by go_num, ?_, ?_, ?_, ?_⟩
            · exact (hon.out.drewN 1).trans (hst.mono (fun z hz => by obtain rfl : z = g' := (by simpa using hz); simp [hg]))
            · exact (hst.block b (by simp; exact fun h => hgb h.symm)).trans hbk.out
            · exact ownSl_heap HN.out rfl
            · exact ownSl_only (ownSl_heap (w' := wr.drew) hot.out rfl) hst hgo
          case measure => simp [intOf]; omega
        · obtain rfl : j = rb.length := by omega
          go_wp2_with fail
          refine bodyPost_end (v := .tuple #[]) (by simp [results, Tryz.results69, go_sem]) rfl ⟨rfl, ⟨hbk.out, ?_, ?_, ?_, ?_, ?_, hn0, hn2, hd⟩, hon.out⟩
          · rw [Array.getElem?_setIfInBounds_ne (by omega)]; exact HC0.out
          · rw [Array.getElem?_setIfInBounds_self_of_lt ob]
          · rw [Array.getElem?_setIfInBounds_ne (by omega)]; exact HC2.out
          · have h := hot.out
            rw [zipTo_all _ _ _ (Nat.le_of_eq L1.out)] at h
            exact h
          · have h := hme.out
            rw [zipTo_all _ _ _ (Nat.le_of_eq L2.out)] at h
            exact h

end Go.Proofs.YthceklaoikeokaaGreatDoor

/-
  PLAIN: a slice that grows by append, its cells known one by one; what it owns is said at the end.
-/
namespace Go.Proofs.YthceklaoikeokaaGreatDoor
open Go.RowKit
open Rep (Rd Own sz)
set_option linter.unusedSimpArgs false
set_option linter.unusedVariables false

theorem wp_append_row {P : Program} (w : World) {o : Oper} {a : Act} {K : Act → World → Prop} {Q : Exit → Act → World → Prop} (s x : Operand) (t : TypeId)
    (ho : o.op = .call { callee := .builtin .append, args := #[s, x], argTypes := #[t, t] }) {e : TypeId} {α : Type} [Rep α] {z : Value} {bytes : Nat} (E : ElemT P t e α z bytes) {v : Value} {n : Nat} {xs : List Value}
    (hs : a.eval s = v) (hrow : w.ownsRow 0 e (sz α) v n xs) {vs : List Value} (hvs : vs.length = sz α) (hone : ∀ u, u ∈ vs → u.oneCell' = true)
    (ad : Addr) (c : Nat) (hx : a.eval x = .slice (some ad) 1 c) (hnews : ∀ j u, vs[j]? = some u → w.cell? (ad.add j) = some u) (hlen : n + 1 ≤ 1073741824)
    (h : ∀ g' c' w', (v.ownBlock = some g' ∨ g' = w.heap.size) → w'.ownsRow 0 e (sz α) (.slice (some ⟨g', 0, none⟩) (n + 1) c') (n + 1) (xs ++ vs) → But v.ownBlock.toList w w' → g' < w'.heap.size → K (a.put o.dst (.slice (some ⟨g', 0, none⟩) (n + 1) c')) w') : o.wp P a w K Q := by
  obtain ⟨i, hi, hz, hsz, hb⟩ := E.info
  have hbytes : (n + 1) * bytes ≤ 140737488355328 := by
    have h1 := E.small
    calc (n + 1) * bytes ≤ 1073741824 * 1000 := Nat.mul_le_mul hlen h1
      _ ≤ _ := by decide
  have hm : n + 1 ≤ maxLen := by unfold maxLen; omega
  obtain ⟨v', w', hr, hown, hgr, hnil, hat⟩ := run_append_own_at (P := P) w 0 t o.type e i z (sz α) bytes E.und hi hz hsz hb E.zs E.pos v n xs hrow ad 1 c vs (by omega) hnews hone hm hbytes (Nat.zero_le _)
  rcases hown.2 with ⟨rfl, h0⟩ | ⟨g', cap, cur, rfl, hg', hh', hc', hm', hs', ht'⟩
  · omega
  have hgg : v.ownBlock = some g' ∨ g' = w.heap.size := by
    rcases hat with h | h
    · exact .inl (by rw [← h]; rfl)
    · exact .inr (by simpa [Value.ownBlock] using h)
  have hlt : g' < w'.heap.size := (Array.getElem?_eq_some_iff.1 hh').1
  have hbut : But v.ownBlock.toList w w' := ⟨hgr.os, hgr.tape, hgr.output, hgr.size, fun k hk hp => hgr.block k hk (fun e => hp (by rw [← e]; simp))⟩
  unfold Oper.wp execOp
  simp only [ho, resolve, invoke, builtin, Sem.run_bind, Sem.run_pure, Result.andThen_ok, List.map_toArray, List.map_cons, List.map_nil, hs, hx, hr]
  exact h g' cap w' hgg hown hbut hlt
theorem wpList_append_row {P : Program} (w : World) {ops : Array Oper} {rest : List Oper} {o : Oper} {a : Act} {Q : Exit → Act → World → Prop} (hgd : o.guard = none) (s x : Operand) (t : TypeId)
    (ho : o.op = .call { callee := .builtin .append, args := #[s, x], argTypes := #[t, t] }) {e : TypeId} {α : Type} [Rep α] {z : Value} {bytes : Nat} (E : ElemT P t e α z bytes) {v : Value} {n : Nat} {xs : List Value}
    (hs : a.eval s = v) (hrow : w.ownsRow 0 e (sz α) v n xs) {vs : List Value} (hvs : vs.length = sz α) (hone : ∀ u, u ∈ vs → u.oneCell' = true)
    (ad : Addr) (c : Nat) (hx : a.eval x = .slice (some ad) 1 c) (hnews : ∀ j u, vs[j]? = some u → w.cell? (ad.add j) = some u) (hlen : n + 1 ≤ 1073741824)
    (h : ∀ g' c' w', (v.ownBlock = some g' ∨ g' = w.heap.size) → w'.ownsRow 0 e (sz α) (.slice (some ⟨g', 0, none⟩) (n + 1) c') (n + 1) (xs ++ vs) → But v.ownBlock.toList w w' → g' < w'.heap.size → wpList P ops Q rest (a.put o.dst (.slice (some ⟨g', 0, none⟩) (n + 1) c')) w') : wpList P ops Q (o :: rest) a w :=
  wpList_plain hgd fun _ hK => wp_append_row w s x t ho E hs hrow hvs hone ad c hx hnews hlen fun g' c' w' h1 h2 h3 h4 => hK _ _ (h g' c' w' h1 h2 h3 h4)
theorem row_made {size : Nat} (w : World) (e : TypeId) : (w.alloc (.cells #[] e)).ownsRow 0 e size (.slice (some ⟨w.heap.size, 0, none⟩) 0 0) 0 [] := by
  have h := World.ownsRow_made (e := e) (size := size) w #[] 0 (Nat.zero_le _) (Nat.zero_le _) (by simp)
  exact h
theorem row_frame {w w' : World} {e : TypeId} {size : Nat} {v : Value} {n : Nat} {xs : List Value} (h : w.ownsRow 0 e size v n xs) (hb : ∀ g, v.ownBlock = some g → w'.heap[g]? = w.heap[g]?) : w'.ownsRow 0 e size v n xs := by
  refine ⟨h.1, ?_⟩
  rcases h.2 with hn | ⟨g, cap, cur, rfl, hg, hgg, rest⟩
  · exact .inl hn
  · exact .inr ⟨g, cap, cur, rfl, hg, by rw [hb g rfl]; exact hgg, rest⟩
/-- What a row holds, and who owns it. -/
theorem ownSl_of_row {α : Type} [Rep α] {w : World} {e : TypeId} {v : Value} {l : List α} {xs : List Value} {pss : List (List Nat)} (h : w.ownsRow 0 e (sz α) v l.length xs) (hp : pss.length = l.length)
    (hel : ∀ i (hi : i < l.length), ∃ p vs, pss[i]? = some p ∧ Own p w vs l[i] ∧ ∀ k, k < vs.length → xs[i * sz α + k]? = vs[k]?) : OwnSl (v.ownBlock.toList ++ List.flatten pss) w v l := by
  rcases h.2 with ⟨rfl, h0⟩ | ⟨g, cap, cur, rfl, _, hh, hn, hm, hsz, ht⟩
  · have hl : l = [] := List.eq_nil_of_length_eq_zero h0
    subst hl
    have : pss = [] := List.eq_nil_of_length_eq_zero (by simpa using hp)
    subst this
    exact .inl ⟨rfl, rfl, none, 0, rfl, Nat.zero_le _⟩
  · refine .inr ⟨g, 0, cap, cur, e, pss, rfl, hn, hm, hh, by simp [Value.ownBlock], hp, fun i hi => ?_⟩
    obtain ⟨p, vs, h1, h2, h3⟩ := hel i hi
    refine ⟨p, vs, h1, h2, fun k hk => ?_⟩
    rw [← h3 k hk, ← ht]
    have hv := Rep.rd_len (Rep.own_rd h2)
    have hlt : i * sz α + k < l.length * sz α := by
      have : (i + 1) * sz α ≤ l.length * sz α := Nat.mul_le_mul_right _ hi
      rw [Nat.add_mul] at this; omega
    rw [List.getElem?_take_of_lt hlt, Nat.zero_add]
    simp
/-- An element more. -/
theorem row_el_snoc {α : Type} [Rep α] {w : World} {l : List α} {x : α} {xs us : List Value} {pss : List (List Nat)} {q : List Nat} (hxs : xs.length = l.length * sz α) (hp : pss.length = l.length)
    (hel : ∀ i (hi : i < l.length), ∃ p vs, pss[i]? = some p ∧ Own p w vs l[i] ∧ ∀ k, k < vs.length → xs[i * sz α + k]? = vs[k]?) (hx : Own q w us x) :
    ∀ i (hi : i < (l ++ [x]).length), ∃ p vs, (pss ++ [q])[i]? = some p ∧ Own p w vs (l ++ [x])[i] ∧ ∀ k, k < vs.length → (xs ++ us)[i * sz α + k]? = vs[k]? := by
  intro i hi
  by_cases h : i < l.length
  · obtain ⟨p, vs, h1, h2, h3⟩ := hel i h
    refine ⟨p, vs, by rw [List.getElem?_append_left (by omega)]; exact h1, by rw [List.getElem_append_left h]; exact h2, fun k hk => ?_⟩
    have hv := Rep.rd_len (Rep.own_rd h2)
    have hlt : i * sz α + k < l.length * sz α := by
      have : (i + 1) * sz α ≤ l.length * sz α := Nat.mul_le_mul_right _ h
      rw [Nat.add_mul] at this; omega
    rw [List.getElem?_append_left (by omega)]
    exact h3 k hk
  · have hi' : i = l.length := by simp at hi; omega
    subst hi'
    refine ⟨q, us, by rw [List.getElem?_append_right (by omega), hp]; simp, by simpa using hx, fun k hk => ?_⟩
    rw [List.getElem?_append_right (by omega), hxs]
    congr 1
    omega
theorem ownSl_but {α : Type} [Rep α] {ps qs : List Nat} {w w' : World} {v : Value} {l : List α} (h : OwnSl ps w v l) (hb : But qs w w') (hd : ∀ k, k ∈ ps → k ∉ qs) : OwnSl ps w' v l := by
  have h2 := Own.but (vs := [v]) (x := l) ⟨v, rfl, h⟩ hb hd
  exact own_list h2
theorem one_slice_int (a : Option Addr) (n c : Nat) (i : Int) : ∀ u, u ∈ [Value.slice a n c, .int .i64 i] → u.oneCell' = true := by
  intro u hu
  simp only [List.mem_cons, List.not_mem_nil, or_false] at hu
  rcases hu with rfl | rfl <;> rfl
theorem news2 {w : World} {b : Nat} {v0 v1 : Value} (h0 : w.cell? ⟨b, 0, none⟩ = some v0) (h1 : w.cell? ⟨b, 1, none⟩ = some v1) : ∀ j u, [v0, v1][j]? = some u → w.cell? ((⟨b, 0, none⟩ : Addr).add j) = some u := by
  intro j u hj
  match j with
  | 0 => simp at hj; subst hj; exact h0
  | 1 => simp at hj; subst hj; exact h1
  | j + 2 => simp at hj
theorem row_base {w : World} {B : Nat} {e : TypeId} {size : Nat} {v : Value} {n : Nat} {xs : List Value} (h : w.ownsRow B e size v n xs) : w.ownsRow 0 e size v n xs := by
  refine ⟨h.1, ?_⟩
  rcases h.2 with hn | ⟨g, cap, cur, rfl, hg, rest⟩
  · exact .inl hn
  · exact .inr ⟨g, cap, cur, rfl, Nat.zero_le _, rest⟩
/-- A row of ints is owned. -/
theorem ownSl_ints {w : World} {g n c : Nat} {e : TypeId} {l : List Int} (h : w.ownsRow 0 e 1 (.slice (some ⟨g, 0, none⟩) n c) n (ivals l)) (hn : n = l.length) (hI : ∀ a, a ∈ l → I64 a) : OwnSl [g] w (.slice (some ⟨g, 0, none⟩) n c) l := by
  subst hn
  have := ownSl_of_row (α := Int) (l := l) (pss := List.replicate l.length []) h (by simp) (fun i hi => by
    refine ⟨[], [.int .i64 l[i]], by simp [hi], ⟨rfl, rfl, hI _ (List.getElem_mem hi)⟩, fun k hk => ?_⟩
    obtain rfl : k = 0 := by simpa using hk
    simp [ivals, hi])
  simpa [Value.ownBlock, flat_nil] using this
theorem news1 {w : World} {b : Nat} {v0 : Value} (h0 : w.cell? ⟨b, 0, none⟩ = some v0) : ∀ j u, [v0][j]? = some u → w.cell? ((⟨b, 0, none⟩ : Addr).add j) = some u := by
  intro j u hj
  match j with
  | 0 => simp at hj; subst hj; exact h0
  | j + 1 => simp at hj
theorem one_int (i : Int) : ∀ u, u ∈ [Value.int .i64 i] → u.oneCell' = true := by
  intro u hu
  simp only [List.mem_cons, List.not_mem_nil, or_false] at hu
  subst hu; rfl
/-- An empty row and a box are made. -/
theorem row_box {w wB : World} {B : Nat} {bx : List (Nat × Array Value × TypeId)} (hst : St w B wB bx) (e t : TypeId) (size : Nat) (cs : Array Value) :
    St w (wB.heap.size + 1 + 1) ((wB.alloc (.cells #[] e)).alloc (.cells cs t)).drew (bx ++ [(wB.heap.size + 1, cs, t)]) ∧ (((wB.alloc (.cells #[] e)).alloc (.cells cs t)).drew).ownsRow 0 e size (.slice (some ⟨wB.heap.size, 0, none⟩) 0 0) 0 [] ∧ Below wB.heap.size wB ((wB.alloc (.cells #[] e)).alloc (.cells cs t)).drew := by
  have h1 := hst.step (belowA wB (.cells #[] e))
  have h2 := (h1.alloc cs t (n := wB.heap.size + 1) (by simp)).drew
  refine ⟨h2, ?_, ?_⟩
  · exact ownsRow_below (ownsRow_below (row_made (size := size) wB e) (belowA _ (.cells cs t))) (belowD _)
  · exact ((belowA wB (.cells #[] e)).trans ((belowA (wB.alloc (.cells #[] e)) (.cells cs t)).mono (by simp))).trans ((belowD _).mono (by simp; omega))
theorem box_row {w wB : World} {B : Nat} {bx : List (Nat × Array Value × TypeId)} (hst : St w B wB bx) (e t : TypeId) (size : Nat) (cs : Array Value) :
    St w (wB.heap.size + 1 + 1) ((wB.alloc (.cells cs t)).alloc (.cells #[] e)).drew (bx ++ [(wB.heap.size, cs, t)]) ∧ (((wB.alloc (.cells cs t)).alloc (.cells #[] e)).drew).ownsRow 0 e size (.slice (some ⟨wB.heap.size + 1, 0, none⟩) 0 0) 0 [] ∧ Below wB.heap.size wB ((wB.alloc (.cells cs t)).alloc (.cells #[] e)).drew := by
  have h1 := hst.alloc cs t (n := wB.heap.size) rfl
  have h2 := ((h1.step (belowA _ (.cells #[] e))).drew).up (B' := wB.heap.size + 1 + 1) (by omega) (by simp)
  refine ⟨h2, ?_, ?_⟩
  · have h3 := row_made (size := size) (wB.alloc (.cells cs t)) e
    rw [show (wB.alloc (.cells cs t)).heap.size = wB.heap.size + 1 by simp] at h3
    exact ownsRow_below h3 (belowD _)
  · exact ((belowA wB (.cells cs t)).trans ((belowA (wB.alloc (.cells cs t)) (.cells #[] e)).mono (by simp))).trans ((belowD _).mono (by simp; omega))

end Go.Proofs.YthceklaoikeokaaGreatDoor

/-
  PLAIN: a slice that grows by append, what it owns said by a predicate on blocks.
-/
namespace Go.Proofs.YthceklaoikeokaaGreatDoor
open Go.RowKit
open Rep (Rd Own sz)
set_option linter.unusedSimpArgs false
set_option linter.unusedVariables false

/-- What stood there is as it was, but for the blocks of A. -/
structure ButP (A : Nat → Prop) (w w' : World) : Prop where
  os : w'.os = w.os
  tape : w'.tape = w.tape
  output : w'.output = w.output
  size : w.heap.size ≤ w'.heap.size
  block : ∀ k, k < w.heap.size → ¬ A k → w'.heap[k]? = w.heap[k]?
theorem ButP.refl (A : Nat → Prop) (w : World) : ButP A w w := ⟨rfl, rfl, rfl, Nat.le_refl _, fun _ _ _ => rfl⟩
theorem ButP.of {A : Nat → Prop} {w w' : World} (h : Below w.heap.size w w') : ButP A w w' := ⟨h.os, h.tape, h.output, h.size, fun k hk _ => h.block k hk⟩
theorem But.butP {A : Nat → Prop} {ps : List Nat} {w w' : World} (h : But ps w w') (hA : ∀ k, k ∈ ps → A k) : ButP A w w' := ⟨h.os, h.tape, h.output, h.size, fun k hk hn => h.block k hk (fun hp => hn (hA k hp))⟩
/-- A step behind another one: what is new may be written. -/
theorem ButP.trans {A C : Nat → Prop} {a b c : World} (h : ButP A a b) (k : ButP C b c) (hC : ∀ z, C z → A z ∨ a.heap.size ≤ z) : ButP A a c :=
  ⟨k.os.trans h.os, k.tape.trans h.tape, k.output.trans h.output, Nat.le_trans h.size k.size, fun i hi hn => (k.block i (Nat.lt_of_lt_of_le hi h.size) (fun hc => by rcases hC i hc with h1 | h1; exact hn h1; omega)).trans (h.block i hi hn)⟩
theorem ButP.wk {A C : Nat → Prop} {w w' : World} (h : ButP A w w') (hA : ∀ k, A k → C k) : ButP C w w' := ⟨h.os, h.tape, h.output, h.size, fun k hk hn => h.block k hk (fun ha => hn (hA k ha))⟩
theorem ButP.below {A : Nat → Prop} {B : Nat} {w w' : World} (h : ButP A w w') (hA : ∀ k, A k → B ≤ k) (hB : B ≤ w.heap.size) : Below B w w' :=
  ⟨h.os, h.tape, h.output, h.size, fun k hk => h.block k (by omega) (fun ha => by have := hA k ha; omega)⟩
theorem Own.butP {α : Type} [Rep α] {A : Nat → Prop} {ps : List Nat} {w w' : World} {vs : List Value} {x : α} (h : Own ps w vs x) (hb : ButP A w w') (hd : ∀ k, k ∈ ps → ¬ A k) : Own ps w' vs x :=
  Rep.own_frame (fun k hk => hb.block k (Rep.own_lt h k hk) (hd k hk)) h
theorem Ip.butP {α : Type} [Rep α] {A C : Nat → Prop} {w w' : World} {vs : List Value} {x : α} (h : Ip C w vs x) (hb : ButP A w w') (hd : ∀ k, C k → ¬ A k) : Ip C w' vs x := by
  obtain ⟨ps, h1, h2, h3⟩ := h
  exact ⟨ps, Own.butP h1 hb (fun k hk => hd k (h3 k hk)), h2, h3⟩
theorem cellB {A : Nat → Prop} {w w' : World} {b o : Nat} {v : Value} (hb : ButP A w w') (h : w.cell? ⟨b, o, none⟩ = some v) (hA : ¬ A b) : w'.cell? ⟨b, o, none⟩ = some v :=
  cellK h (hb.block b (World.block_lt_of_cell? w _ h) hA)

def AccP {α : Type} [Rep α] (A : Nat → Prop) (e : TypeId) (w : World) (v : Value) (l : List α) : Prop :=
  ∃ (xs : List Value) (pss : List (List Nat)), w.ownsRow 0 e (sz α) v l.length xs ∧ pss.length = l.length ∧ (v.ownBlock.toList ++ List.flatten pss).Nodup ∧ (∀ k, k ∈ v.ownBlock.toList ++ List.flatten pss → A k ∧ k < w.heap.size) ∧
    ∀ i (h : i < l.length), ∃ p vs, pss[i]? = some p ∧ Own p w vs l[i] ∧ ∀ k, k < vs.length → xs[i * sz α + k]? = vs[k]?
theorem Acc.accP {α : Type} [Rep α] {B H : Nat} {e : TypeId} {w : World} {v : Value} {l : List α} (h : Acc B H e w v l) (hH : H ≤ w.heap.size) : AccP (fun k => B ≤ k ∧ k < H) e w v l := by
  obtain ⟨xs, pss, h1, h2, h3, h4, h5⟩ := h
  exact ⟨xs, pss, row_base h1, h2, h3, fun k hk => ⟨h4 k hk, by have := (h4 k hk).2; omega⟩, h5⟩
theorem AccP.wk {α : Type} [Rep α] {A C : Nat → Prop} {e : TypeId} {w : World} {v : Value} {l : List α} (h : AccP A e w v l) (hA : ∀ k, A k → C k) : AccP C e w v l := by
  obtain ⟨xs, pss, h1, h2, h3, h4, h5⟩ := h
  exact ⟨xs, pss, h1, h2, h3, fun k hk => ⟨hA k (h4 k hk).1, (h4 k hk).2⟩, h5⟩
theorem AccP.frame {α : Type} [Rep α] {A : Nat → Prop} {e : TypeId} {w w' : World} {v : Value} {l : List α} (h : AccP A e w v l) (hs : w.heap.size ≤ w'.heap.size) (hb : ∀ k, A k → k < w.heap.size → w'.heap[k]? = w.heap[k]?) : AccP A e w' v l := by
  obtain ⟨xs, pss, h1, h2, h3, h4, h5⟩ := h
  refine ⟨xs, pss, row_frame h1 (fun g hg => ?_), h2, h3, fun k hk => ⟨(h4 k hk).1, Nat.lt_of_lt_of_le (h4 k hk).2 hs⟩, fun i hi => ?_⟩
  · have := h4 g (by simp [hg]); exact hb g this.1 this.2
  · obtain ⟨p, vs, hp, hO, hc⟩ := h5 i hi
    refine ⟨p, vs, hp, Rep.own_frame (fun k hk => ?_) hO, hc⟩
    have := h4 k (List.mem_append.2 (.inr (List.mem_flatten.2 ⟨p, List.mem_of_getElem? hp, hk⟩)))
    exact hb k this.1 this.2
theorem AccP.mono {α : Type} [Rep α] {A : Nat → Prop} {e : TypeId} {w w' : World} {v : Value} {l : List α} (h : AccP A e w v l) (hb : Below w.heap.size w w') : AccP A e w' v l :=
  h.frame hb.size (fun k _ hk => hb.block k hk)
theorem AccP.butP {α : Type} [Rep α] {A C : Nat → Prop} {e : TypeId} {w w' : World} {v : Value} {l : List α} (h : AccP A e w v l) (hb : ButP C w w') (hd : ∀ k, A k → ¬ C k) : AccP A e w' v l :=
  h.frame hb.size (fun k hA hk => hb.block k hk (hd k hA))
theorem AccP.ip {α : Type} [Rep α] {A : Nat → Prop} {e : TypeId} {w : World} {v : Value} {l : List α} (h : AccP A e w v l) : Ip A w [v] l := by
  obtain ⟨xs, pss, h1, h2, h3, h4, h5⟩ := h
  exact ⟨_, ⟨v, rfl, ownSl_of_row h1 h2 h5⟩, h3, fun k hk => (h4 k hk).1⟩
theorem AccP.rd {α : Type} [Rep α] {A : Nat → Prop} {e : TypeId} {w : World} {v : Value} {l : List α} (h : AccP A e w v l) : Rd w [v] l := h.ip.rd
theorem AccP.len {α : Type} [Rep α] {A : Nat → Prop} {e : TypeId} {w : World} {v : Value} {l : List α} (h : AccP A e w v l) : ∃ a c, v = .slice a l.length c ∧ l.length ≤ maxLen := by
  obtain ⟨xs, pss, h1, h2, h3, h4, h5⟩ := h
  rcases h1.2 with ⟨rfl, h0⟩ | ⟨g, cap, cur, rfl, hg, hh, hc, hm, hs, ht⟩
  · exact ⟨none, 0, by rw [h0], by omega⟩
  · exact ⟨_, cap, rfl, Nat.le_trans hc hm⟩
theorem AccP.nil {α : Type} [Rep α] (A : Nat → Prop) (e : TypeId) (w : World) : AccP (α := α) A e w (.slice none 0 0) [] :=
  ⟨[], [], World.ownsRow_nil w 0 e _, rfl, by simp [Value.ownBlock], by simp [Value.ownBlock], fun i h => absurd h (Nat.not_lt_zero _)⟩
theorem accP_made {α : Type} [Rep α] (w : World) (e : TypeId) : AccP (α := α) (fun k => k = w.heap.size) e (w.alloc (.cells #[] e)) (.slice (some ⟨w.heap.size, 0, none⟩) 0 0) [] :=
  ⟨[], [], row_made w e, rfl, by simp [Value.ownBlock], by simp [Value.ownBlock], fun i h => absurd h (Nat.not_lt_zero _)⟩
theorem accP_snoc {α : Type} [Rep α] {A C : Nat → Prop} {e : TypeId} {w w' : World} {v : Value} {l : List α} {y : α} {vs : List Value} {xs : List Value} {pss : List (List Nat)} {g' c' : Nat}
    (h1 : w.ownsRow 0 e (sz α) v l.length xs) (h2 : pss.length = l.length) (h3 : (v.ownBlock.toList ++ List.flatten pss).Nodup) (h4 : ∀ k, k ∈ v.ownBlock.toList ++ List.flatten pss → A k ∧ k < w.heap.size)
    (h5 : ∀ i (h : i < l.length), ∃ p vs, pss[i]? = some p ∧ Own p w vs l[i] ∧ ∀ k, k < vs.length → xs[i * sz α + k]? = vs[k]?) (hy : Ip C w vs y) (hd : ∀ k, A k → ¬ C k)
    (hg : v.ownBlock = some g' ∨ g' = w.heap.size) (hrow : w'.ownsRow 0 e (sz α) (.slice (some ⟨g', 0, none⟩) (l.length + 1) c') (l.length + 1) (xs ++ vs)) (hb : But v.ownBlock.toList w w') (hlt : g' < w'.heap.size) :
    AccP (fun k => A k ∨ C k ∨ k = w.heap.size) e w' (.slice (some ⟨g', 0, none⟩) (l.length + 1) c') (l ++ [y]) ∧ ButP A w w' := by
  obtain ⟨q, hq, hqn, hqC⟩ := hy
  have hql := Rep.own_lt hq
  rw [List.nodup_append] at h3
  obtain ⟨n1, n2, n3⟩ := h3
  have hown : ∀ k, k ∈ v.ownBlock.toList → A k ∧ k < w.heap.size := fun k hk => h4 k (List.mem_append.2 (.inl hk))
  have hfl : ∀ k, k ∈ List.flatten pss → A k ∧ k < w.heap.size := fun k hk => h4 k (List.mem_append.2 (.inr hk))
  have hg2 : ∀ k, k ∈ List.flatten pss → k ≠ g' := fun k hk e => by
    subst e
    rcases hg with h | h
    · exact n3 k (by simp [h]) k hk rfl
    · have := (hfl k hk).2; omega
  have hg3 : ∀ k, k ∈ q → k ≠ g' := fun k hk e => by
    subst e
    rcases hg with h | h
    · exact hd k (hown k (by simp [h])).1 (hqC k hk)
    · have := hql k hk; omega
  refine ⟨⟨xs ++ vs, pss ++ [q], by simpa using hrow, by simp [h2], ?_, ?_, ?_⟩, hb.butP (fun k hk => (hown k hk).1)⟩
  · simp only [Value.ownBlock, Option.toList_some, List.singleton_append, List.flatten_append, List.flatten_cons, List.flatten_nil, List.append_nil, List.nodup_cons, List.mem_append, not_or]
    refine ⟨⟨fun h => hg2 _ h rfl, fun h => hg3 _ h rfl⟩, List.nodup_append.2 ⟨n2, hqn, fun a ha b hb2 e => ?_⟩⟩
    subst e
    exact hd a (hfl a ha).1 (hqC a hb2)
  · intro k hk
    simp only [Value.ownBlock, Option.toList_some, List.singleton_append, List.flatten_append, List.flatten_cons, List.flatten_nil, List.append_nil, List.mem_cons, List.mem_append] at hk
    rcases hk with rfl | hk | hk
    · refine ⟨?_, hlt⟩
      rcases hg with h | h
      · exact .inl (hown k (by simp [h])).1
      · exact .inr (.inr h)
    · exact ⟨.inl (hfl k hk).1, Nat.lt_of_lt_of_le (hfl k hk).2 hb.size⟩
    · exact ⟨.inr (.inl (hqC k hk)), Nat.lt_of_lt_of_le (hql k hk) hb.size⟩
  · refine row_el_snoc (by have := h1.1; simpa using this) h2 (fun i hi => ?_) (Own.but hq hb (fun k hk hm => hd k (hown k hm).1 (hqC k hk)))
    obtain ⟨p, us, hp, hO, hc⟩ := h5 i hi
    exact ⟨p, us, hp, Own.but hO hb (fun k hk hm => n3 k hm k (List.mem_flatten.2 ⟨p, List.mem_of_getElem? hp, hk⟩) rfl), hc⟩
theorem wp_append_accP {P : Program} (w : World) {o : Oper} {a : Act} {K : Act → World → Prop} {Q : Exit → Act → World → Prop} (s x : Operand) (t : TypeId)
    (ho : o.op = .call { callee := .builtin .append, args := #[s, x], argTypes := #[t, t] }) {e : TypeId} {α : Type} [Rep α] {z : Value} {bytes : Nat} (E : ElemT P t e α z bytes) {v : Value} {l : List α} {A C : Nat → Prop}
    (hs : a.eval s = v) (hacc : AccP A e w v l) {y : α} {vs : List Value} (hy : Ip C w vs y) (hd : ∀ k, A k → ¬ C k)
    (ad : Addr) (c : Nat) (hx : a.eval x = .slice (some ad) 1 c) (hnews : ∀ j u, vs[j]? = some u → w.cell? (ad.add j) = some u) (hlen : l.length + 1 ≤ 1073741824)
    (h : ∀ a' c' w', AccP (fun k => A k ∨ C k ∨ k = w.heap.size) e w' (.slice a' (l.length + 1) c') (l ++ [y]) → ButP A w w' → K (a.put o.dst (.slice a' (l.length + 1) c')) w') : o.wp P a w K Q := by
  obtain ⟨xs, pss, h1, h2, h3, h4, h5⟩ := hacc
  exact wp_append_row w s x t ho E hs h1 (Rep.rd_len hy.rd) (Rep.rd_one hy.rd) ad c hx hnews hlen (fun g' c' w' hg hrow hb hlt => by
    obtain ⟨r1, r2⟩ := accP_snoc h1 h2 h3 h4 h5 hy hd hg hrow hb hlt
    exact h _ c' w' r1 r2)
theorem wpList_append_accP {P : Program} (w : World) {ops : Array Oper} {rest : List Oper} {o : Oper} {a : Act} {Q : Exit → Act → World → Prop} (hgd : o.guard = none) (s x : Operand) (t : TypeId)
    (ho : o.op = .call { callee := .builtin .append, args := #[s, x], argTypes := #[t, t] }) {e : TypeId} {α : Type} [Rep α] {z : Value} {bytes : Nat} (E : ElemT P t e α z bytes) {v : Value} {l : List α} {A C : Nat → Prop}
    (hs : a.eval s = v) (hacc : AccP A e w v l) {y : α} {vs : List Value} (hy : Ip C w vs y) (hd : ∀ k, A k → ¬ C k)
    (ad : Addr) (c : Nat) (hx : a.eval x = .slice (some ad) 1 c) (hnews : ∀ j u, vs[j]? = some u → w.cell? (ad.add j) = some u) (hlen : l.length + 1 ≤ 1073741824)
    (h : ∀ a' c' w', AccP (fun k => A k ∨ C k ∨ k = w.heap.size) e w' (.slice a' (l.length + 1) c') (l ++ [y]) → ButP A w w' → wpList P ops Q rest (a.put o.dst (.slice a' (l.length + 1) c')) w') : wpList P ops Q (o :: rest) a w :=
  wpList_plain hgd fun _ hK => wp_append_accP w s x t ho E hs hacc hy hd ad c hx hnews hlen fun a' c' w' h1 h2 => hK _ _ (h a' c' w' h1 h2)
theorem AccP.tight {α : Type} [Rep α] {A : Nat → Prop} {e : TypeId} {w : World} {v : Value} {l : List α} (h : AccP A e w v l) : AccP (fun k => A k ∧ k < w.heap.size) e w v l := by
  obtain ⟨xs, pss, h1, h2, h3, h4, h5⟩ := h
  exact ⟨xs, pss, h1, h2, h3, fun k hk => ⟨h4 k hk, (h4 k hk).2⟩, h5⟩
theorem Fresh.ip {α : Type} [Rep α] {lo : Nat} {w : World} {vs : List Value} {x : α} (h : Fresh lo w vs x) : Ip (fun k => lo ≤ k ∧ k < w.heap.size) w vs x := by
  obtain ⟨ps, h1, h2, h3⟩ := h
  exact ⟨ps, h1, h2, fun k hk => ⟨h3 k hk, Rep.own_lt h1 k hk⟩⟩
theorem Ip.fresh {α : Type} [Rep α] {A : Nat → Prop} {lo : Nat} {w : World} {vs : List Value} {x : α} (h : Ip A w vs x) (hA : ∀ k, A k → lo ≤ k) : Fresh lo w vs x := by
  obtain ⟨ps, h1, h2, h3⟩ := h
  exact ⟨ps, h1, h2, fun k hk => hA k (h3 k hk)⟩
theorem St.butP {w : World} {B : Nat} {wr w1 : World} {bx : List (Nat × Array Value × TypeId)} (h : St w B wr bx) {A : Nat → Prop} (hb : ButP A wr w1) (hA : ∀ k, A k → w.heap.size ≤ k) (hx : ∀ x, x ∈ bx → ¬ A x.1) : St w B w1 bx :=
  ⟨h.bel.trans (hb.below hA (Nat.le_trans h.lo h.hi)), h.lo, Nat.le_trans h.hi hb.size, fun x hm => by
    have h1 := h.box x hm
    exact ⟨h1.1, h1.2.1, by rw [hb.block _ (Nat.lt_of_lt_of_le h1.2.1 h.hi) (hx x hm)]; exact h1.2.2⟩⟩
theorem AccP.setCell {α : Type} [Rep α] {A : Nat → Prop} {e : TypeId} {w : World} {v : Value} {l : List α} (h : AccP A e w v l) {b o : Nat} (u : Value) (hA : ¬ A b) : AccP A e (w.setCell ⟨b, o, none⟩ u) v l :=
  h.frame (by simp [World.setCell]) (fun k hk _ => Below.heap_setCell _ _ _ _ (fun e => by subst e; exact hA hk))

end Go.Proofs.YthceklaoikeokaaGreatDoor

/-
  PLAIN: what is owned, and cells, when another cell is written.
-/
namespace Go.Proofs.YthceklaoikeokaaGreatDoor
open Go.RowKit
open Rep (Rd Own sz)

theorem Ip.setCell {α : Type} [Rep α] {A : Nat → Prop} {w : World} {vs : List Value} {x : α} (h : Ip A w vs x) {b o : Nat} (u : Value) (hA : ¬ A b) : Ip A (w.setCell ⟨b, o, none⟩ u) vs x :=
  h.frame (fun k hk _ => Below.heap_setCell _ _ _ _ (fun e => hA (by simp only at e; rw [← e]; exact hk)))
theorem cell_put {w : World} {b o b' o' : Nat} {v u : Value} (h : w.cell? ⟨b, o, none⟩ = some v) (hne : b ≠ b') : (w.setCell ⟨b', o', none⟩ u).cell? ⟨b, o, none⟩ = some v := by
  rw [World.cell?_setCell_other (h := fun e => hne (by simp only [Addr.mk.injEq] at e; exact e.1.symm))]
  exact h

end Go.Proofs.YthceklaoikeokaaGreatDoor

/-
  CONTRACTS: powers; the list of an index.
-/
namespace Go.Proofs.YthceklaoikeokaaGreatDoor
open Go.RowKit
open Rep (Rd Own sz)
set_option linter.unusedSimpArgs false
set_option linter.unusedVariables false

/-- The digits of n, m of them. -/
def digs (size : Int) : Nat → Int → List Int
  | 0, _ => []
  | m + 1, n => digs size m (n / size) ++ [n % size]
@[simp] theorem digs_length (size : Int) (m : Nat) (n : Int) : (digs size m n).length = m := by
  induction m generalizing n with
  | zero => rfl
  | succ m ih => simp [digs, ih]
theorem digs_mem (size : Int) (hs : 0 < size) (m : Nat) (n : Int) : ∀ a, a ∈ digs size m n → 0 ≤ a ∧ a < size := by
  induction m generalizing n with
  | zero => intro a ha; cases ha
  | succ m ih =>
    intro a ha
    rcases List.mem_append.1 ha with h | h
    · exact ih _ a h
    · obtain rfl : a = n % size := by simpa using h
      exact ⟨Int.emod_nonneg _ (by omega), Int.emod_lt_of_pos _ hs⟩

theorem dig_set (j : Nat) (t : List Int) (x : Int) (h : 0 < j) : (List.replicate j 0 ++ t).set (j - 1) x = List.replicate (j - 1) 0 ++ x :: t := by
  obtain ⟨k, rfl⟩ : ∃ k, j = k + 1 := ⟨j - 1, by omega⟩
  rw [show List.replicate (k + 1) (0 : Int) = List.replicate k 0 ++ [0] from List.replicate_succ']
  simp [List.set_append]
theorem int_of {n : Nat} {i : Int} (h : i = n) : Value.int .i64 i = .int .i64 n := by rw [h]

set_option maxHeartbeats 400000 in
theorem listOf_c (size many index : Int) (w : World) (hs : 0 < size) (hs2 : size ≤ 1000000) (hm : 0 ≤ many) (hm2 : many ≤ 1000000) (hi : 0 ≤ index) (hi2 : index ≤ 1000000000000) :
    Calls Tryz.prog 72 #[.int .i64 size, .int .i64 many, .int .i64 index] w fun e w' => ∃ v', e = .returned v' ∧ Fresh w.heap.size w' [v'] (digs size many.toNat index) ∧ Below w.heap.size w w' := by
  obtain ⟨n, rfl⟩ := Int.eq_ofNat_of_zero_le hm
  rw [Int.toNat_natCast]
  go_enter Tryz.func72, Tryz.ntmps72
  go_wp2_with (at_make; refine wpList_make_rep w rfl _ _ 28 rfl E_ints (0 : Int) own0_int n (by omega) rfl rfl ?_)
  intro w1 hown hb1 hs1
  have HO := Lib.hid hown
  have HB := Lib.hid hb1
  clear hown hb1
  go_wp2
  go_loopw [2, 8] (fun ix i wr => ∃ (j : Nat) (x : Int) (t : List Int), j ≤ n ∧ 0 ≤ x ∧ x ≤ 1000000000000 ∧ ix = .int .i64 x ∧ i = .int .i64 ((j : Int) - 1) ∧ Hid (t.length = n - j) ∧ Hid (digs size n index = digs size j x ++ t) ∧
    Hid (OnlyAt [w.heap.size] w1 wr) ∧ Hid (OwnSl [w.heap.size] wr (.slice (some ⟨w.heap.size, 0, none⟩) n n) (List.replicate j 0 ++ t))) (fun _ i _ => (intOf i + 1).toNat)
  case atStart => exact ⟨n, index, [], Nat.le_refl _, hi, hi2, rfl, rfl, by simp [Hid], by simp [Hid], OnlyAt.refl _ _, by simpa [Hid] using HO.out⟩
  case round =>
    obtain ⟨j, x, t, hj, hx, hx2, rfl, rfl, ht, hd, ho, hw⟩ := hrel
    by_cases hlt : 0 < j
    · obtain ⟨g, o', c', hv, hps, hcd, hf, hset⟩ := ownSl_int hw.out (j - 1) (by simp; omega)
      simp only [Value.slice.injEq, Option.some.injEq, Addr.mk.injEq] at hv
      obtain ⟨⟨rfl, rfl, _⟩, _, rfl⟩ := hv
      have h1 := Int.emod_nonneg x (by omega : size ≠ 0)
      have h2 := Int.emod_lt_of_pos x hs
      have h3 : 0 ≤ x / size := Int.ediv_nonneg hx (by omega)
      have h4 : x / size ≤ x := Int.ediv_le_self _ hx
      have HS := Lib.hid (hset (x % size) (i64_of _ h1 (by omega)))
      rw [dig_set _ _ _ hlt] at HS
      rw [Nat.zero_add] at hcd hf HS
      have ej : ((j : Int) - 1).toNat = j - 1 := by omega
      have e1 : 0 ≤ (j : Int) - 1 := by omega
      have e2 : (j : Int) - 1 < n := by omega
      clear hset hw hps
      go_wp2
      go_roundw
      case rel =>
        refine ⟨j - 1, x / size, x % size :: t, by omega, h3, by omega, rfl, ?_, ?_, ?_, ?_, ?_⟩
        · congr 1; omega
        · have := ht.out; simp only [Hid, List.length_cons]; omega
        · have := hd.out
          obtain ⟨k, rfl⟩ : ∃ k, j = k + 1 := ⟨j - 1, by omega⟩
          simp only [digs, List.append_assoc, List.cons_append, List.nil_append] at this
          exact this
        · exact OnlyAt.setCell ho.out (by simp) _
        · exact HS.out
      case measure => simp [intOf]; omega
    · obtain rfl : j = 0 := by omega
      go_wp2
      go_ret
      refine ⟨_, rfl, ⟨[w.heap.size], ⟨_, rfl, ?_⟩, by simp, by simp⟩, HB.out.trans (ho.out.below (by simp))⟩
      have h5 := hw.out
      have h6 := hd.out
      simp only [digs, List.nil_append] at h6
      rw [h6]
      simpa using h5

theorem pow_le_of {s : Int} {a b : Nat} (hs : 1 ≤ s) (h : a ≤ b) : s ^ a ≤ s ^ b := by
  induction b with
  | zero => obtain rfl : a = 0 := (by omega); exact Int.le_refl _
  | succ b ih =>
    by_cases hab : a = b + 1
    · rw [hab]; exact Int.le_refl _
    · have := ih (by omega)
      have h2 : (0 : Int) ≤ s ^ b := Int.pow_nonneg (by omega)
      calc s ^ a ≤ s ^ b := this
        _ = s ^ b * 1 := by omega
        _ ≤ s ^ b * s := Int.mul_le_mul_of_nonneg_left hs h2
        _ = s ^ (b + 1) := (Int.pow_succ _ _).symm
set_option maxHeartbeats 400000 in
theorem power_c (size many : Int) (w : World) (hs : 0 ≤ size) (hm : 0 ≤ many) (hm2 : many ≤ 1000000) (hp : size ^ many.toNat ≤ 1000000000000) :
    Calls Tryz.prog 41 #[.int .i64 size, .int .i64 many] w fun e w' => e = .returned (.int .i64 (size ^ many.toNat)) ∧ w = w' := by
  obtain ⟨n, rfl⟩ := Int.eq_ofNat_of_zero_le hm
  rw [Int.toNat_natCast] at hp ⊢
  go_enter Tryz.func41, Tryz.ntmps41
  go_wp2
  go_loop [5, 7] (fun p i => ∃ j : Nat, j ≤ n ∧ i = .int .i64 j ∧ ∃ q : Int, 0 ≤ q ∧ q ≤ 1000000000000 ∧ Hid (q = size ^ j) ∧ p = .int .i64 q) (fun _ i => n - (intOf i).toNat)
  case atStart => exact ⟨0, Nat.zero_le _, rfl, 1, by omega, by omega, by simp [Hid], rfl⟩
  case round =>
    obtain ⟨j, hj, rfl, q, hq0, hq1, hq, rfl⟩ := hrel
    by_cases hlt : j < n
    · have e1 : q * size = size ^ (j + 1) := by rw [hq.out, Int.pow_succ]
      have e2 : q * size ≤ 1000000000000 := by
        rcases (show size = 0 ∨ 1 ≤ size by omega) with h0 | h0
        · rw [h0]; omega
        · rw [e1]; exact Int.le_trans (pow_le_of h0 hlt) hp
      have e3 : 0 ≤ q * size := Int.mul_nonneg hq0 (by omega)
      have E1 := Lib.hid e1
      clear e1
      go_wp2
      go_round
      case rel => exact ⟨j + 1, by omega, by go_num, q * size, e3, e2, E1.out, rfl⟩
      case measure => simp [intOf]; omega
    · obtain rfl : j = n := by omega
      go_wp2
      go_ret
      exact ⟨ret_int hq.out, rfl⟩

end Go.Proofs.YthceklaoikeokaaGreatDoor

/-
  CONTRACTS: is a number in a list.
-/
namespace Go.Proofs.YthceklaoikeokaaGreatDoor
open Go.RowKit Go.Shelf Go.IntWalk
open Rep (Rd Own sz)
set_option linter.unusedSimpArgs false
set_option linter.unusedVariables false

/-- Is the number in the list? -/
def hasI (l : List Int) (a : Int) : Bool := l.any (fun x => a == x)

end Go.Proofs.YthceklaoikeokaaGreatDoor

/-
  PLAIN: a row whose elements stand in memory of an earlier world.
-/
namespace Go.Proofs.YthceklaoikeokaaGreatDoor
open Go.RowKit Go.Shelf Go.IntWalk
open Rep (Rd Own sz)
set_option linter.unusedSimpArgs false
set_option linter.unusedVariables false

theorem ip_int1 {C : Nat → Prop} {w : World} {n : Int} (h : I64 n) : Ip C w [.int .i64 n] n := ⟨[], ⟨rfl, rfl, h⟩, List.nodup_nil, fun k hk => by cases hk⟩
/-- A row of the call's own whose elements stand (in part) in memory of an earlier world. -/
def RowR {α : Type} [Rep α] (w0 : World) (e : TypeId) (w : World) (v : Value) (l : List α) : Prop :=
  ∃ xs, w.ownsRow 0 e (sz α) v l.length xs ∧ ∀ i (h : i < l.length), ∃ vs, Rd w0 vs l[i] ∧ ∀ k, k < vs.length → xs[i * sz α + k]? = vs[k]?
theorem RowR.nil {α : Type} [Rep α] (w0 : World) (e : TypeId) (w : World) : RowR (α := α) w0 e w (.slice none 0 0) [] :=
  ⟨[], World.ownsRow_nil w 0 e _, fun i h => absurd h (Nat.not_lt_zero _)⟩
theorem RowR.snoc {α : Type} [Rep α] {w0 w w' : World} {e : TypeId} {v v' : Value} {l : List α} {y : α} {xs vs : List Value} (hrow : w.ownsRow 0 e (sz α) v l.length xs) (hel : ∀ i (h : i < l.length), ∃ vs, Rd w0 vs l[i] ∧ ∀ k, k < vs.length → xs[i * sz α + k]? = vs[k]?)
    (hy : Rd w0 vs y) (hrow' : w'.ownsRow 0 e (sz α) v' (l.length + 1) (xs ++ vs)) : RowR w0 e w' v' (l ++ [y]) := by
  refine ⟨xs ++ vs, by rw [List.length_append]; exact hrow', fun i hi => ?_⟩
  have hxl := hrow.1
  by_cases hlt : i < l.length
  · obtain ⟨us, hu, hk⟩ := hel i hlt
    refine ⟨us, by rw [List.getElem_append_left hlt]; exact hu, fun k hk2 => ?_⟩
    have hul := Rep.rd_len hu
    have hb := idx_lt (s := sz α) hlt (show k < sz α by omega)
    rw [List.getElem?_append_left (by rw [hxl]; exact hb)]
    exact hk k hk2
  · have : i = l.length := by simp at hi; omega
    subst this
    refine ⟨vs, by simpa using hy, fun k hk2 => ?_⟩
    rw [List.getElem?_append_right (by omega), hxl]
    congr 1
    omega
theorem RowR.rd {α : Type} [Rep α] {w0 w : World} {e : TypeId} {v : Value} {l : List α} (h : RowR w0 e w v l) (hb : Below w0.heap.size w0 w) : Rd w [v] l := by
  obtain ⟨xs, hrow, hel⟩ := h
  rcases hrow.2 with ⟨rfl, h0⟩ | ⟨g, cap, cur, rfl, _, hh, hc, hm, hs, ht⟩
  · obtain rfl : l = [] := List.length_eq_zero_iff.1 h0
    exact ⟨none, 0, rfl, Nat.zero_le _, Nat.zero_le _, fun i hi => absurd hi (Nat.not_lt_zero _)⟩
  · refine ⟨_, _, rfl, hc, hm, fun i hi => ?_⟩
    obtain ⟨vs, hr, hk⟩ := hel i hi
    have hvl := Rep.rd_len hr
    refine ⟨g, 0, vs, rfl, Rep.rd_mono hb hr, fun k hk2 => ?_⟩
    have hk3 : k < vs.length := by omega
    rw [cell_at_block hh]
    have h1 := hk k hk3
    rw [← ht] at h1
    have hb2 := idx_lt (s := sz α) hi (show k < sz α by omega)
    simp only [List.getElem?_take, if_pos hb2] at h1
    simpa using h1
theorem RowR.frame {α : Type} [Rep α] {w0 w w' : World} {e : TypeId} {v : Value} {l : List α} (h : RowR w0 e w v l) (hb : ∀ g, v.ownBlock = some g → w'.heap[g]? = w.heap[g]?) : RowR w0 e w' v l := by
  obtain ⟨xs, hrow, hel⟩ := h
  exact ⟨xs, row_frame hrow hb, hel⟩
/-- .. the elements owned. -/
def RowO {α : Type} [Rep α] (P : Nat → Prop) (w0 : World) (e : TypeId) (w : World) (v : Value) (l : List α) : Prop :=
  ∃ xs, w.ownsRow 0 e (sz α) v l.length xs ∧ ∀ i (h : i < l.length), ∃ vs, Ip P w0 vs l[i] ∧ ∀ k, k < vs.length → xs[i * sz α + k]? = vs[k]?
theorem RowO.rowR {α : Type} [Rep α] {P : Nat → Prop} {w0 w : World} {e : TypeId} {v : Value} {l : List α} (h : RowO P w0 e w v l) : RowR w0 e w v l := by
  obtain ⟨xs, hrow, hel⟩ := h
  refine ⟨xs, hrow, fun i hi => ?_⟩
  obtain ⟨vs, h1, h2⟩ := hel i hi
  exact ⟨vs, h1.rd, h2⟩
theorem RowO.move {α : Type} [Rep α] {P : Nat → Prop} {w0 w1 w : World} {e : TypeId} {v : Value} {l : List α} (h : RowO P w0 e w v l) (hb : ∀ k, P k → k < w0.heap.size → w1.heap[k]? = w0.heap[k]?) : RowO P w1 e w v l := by
  obtain ⟨xs, hrow, hel⟩ := h
  refine ⟨xs, hrow, fun i hi => ?_⟩
  obtain ⟨vs, h1, h2⟩ := hel i hi
  exact ⟨vs, h1.frame hb, h2⟩
theorem RowO.snoc {α : Type} [Rep α] {P : Nat → Prop} {w0 w w' : World} {e : TypeId} {v v' : Value} {l : List α} {y : α} {xs vs : List Value} (hrow : w.ownsRow 0 e (sz α) v l.length xs) (hel : ∀ i (h : i < l.length), ∃ vs, Ip P w0 vs l[i] ∧ ∀ k, k < vs.length → xs[i * sz α + k]? = vs[k]?)
    (hy : Ip P w0 vs y) (hrow' : w'.ownsRow 0 e (sz α) v' (l.length + 1) (xs ++ vs)) : RowO P w0 e w' v' (l ++ [y]) := by
  refine ⟨xs ++ vs, by rw [List.length_append]; exact hrow', fun i hi => ?_⟩
  have hxl := hrow.1
  by_cases hlt : i < l.length
  · obtain ⟨us, hu, hk⟩ := hel i hlt
    refine ⟨us, by rw [List.getElem_append_left hlt]; exact hu, fun k hk2 => ?_⟩
    have hul := Rep.rd_len hu.rd
    have hb := idx_lt (s := sz α) hlt (show k < sz α by omega)
    rw [List.getElem?_append_left (by rw [hxl]; exact hb)]
    exact hk k hk2
  · have : i = l.length := by simp at hi; omega
    subst this
    refine ⟨vs, by simpa using hy, fun k hk2 => ?_⟩
    rw [List.getElem?_append_right (by omega), hxl]
    congr 1
    omega
theorem ip_two_at {α : Type} [Rep α] (hα : sz α = 2) {P : Nat → Prop} {w : World} {a : Option Addr} {n c : Nat} {l : List α} (h : Ip P w [.slice a n c] l) (i : Nat) (hi : i < l.length) :
    ∃ b o v0 v1, a = some ⟨b, o, none⟩ ∧ w.cell? ⟨b, o + i * 2, none⟩ = some v0 ∧ w.cell? ⟨b, o + i * 2 + 1, none⟩ = some v1 ∧ Ip P w [v0, v1] l[i] := by
  obtain ⟨ps, ⟨v', e', ho⟩, hnd, hP⟩ := h
  obtain rfl : Value.slice a n c = v' := by simpa using e'
  rcases ho with ⟨rfl, _, _⟩ | ⟨g, o, c', cur, e, pss, hv, h1, h2, h3, rfl, h5, h6⟩
  · exact absurd hi (Nat.not_lt_zero _)
  simp only [Value.slice.injEq] at hv
  obtain ⟨rfl, rfl, rfl⟩ := hv
  obtain ⟨q, vs, hq, hO, hc⟩ := h6 i hi
  have hvl : vs.length = 2 := by rw [← hα]; exact Rep.rd_len (Rep.own_rd hO)
  obtain ⟨u0, u1, rfl⟩ : ∃ u0 u1, vs = [u0, u1] := by
    match vs, hvl with
    | [u0, u1], _ => exact ⟨u0, u1, rfl⟩
  have c0 := hc 0 (by simp)
  have c1 := hc 1 (by simp)
  rw [hα] at c0 c1
  have hmem : q ∈ pss := List.mem_of_getElem? hq
  refine ⟨g, o, u0, u1, rfl, by rw [cell_at_block h3]; simpa using c0, by rw [cell_at_block h3]; simpa using c1, q, hO, ?_, fun k hk => hP k (List.mem_cons_of_mem _ (List.mem_flatten.2 ⟨q, hmem, hk⟩))⟩
  have hf := (List.nodup_cons.1 hnd).2
  exact (List.sublist_flatten_of_mem hmem).nodup hf

end Go.Proofs.YthceklaoikeokaaGreatDoor

/-
  CONTRACTS: the numbers from one on.
-/
namespace Go.Proofs.YthceklaoikeokaaGreatDoor
open Go.RowKit Go.Shelf Go.IntWalk
open Rep (Rd Own sz)
set_option linter.unusedSimpArgs false
set_option linter.unusedVariables false

/-- The numbers from one on. -/
def upL (f : Int) (n : Nat) : List Int := (List.range n).map (fun (k : Nat) => f + (k : Int))
theorem upL_len (f : Int) (n : Nat) : (upL f n).length = n := by simp [upL]
theorem upL_succ (f : Int) (n : Nat) : upL f (n + 1) = upL f n ++ [f + (n : Int)] := by simp [upL, List.range_succ]
theorem upL_get (f : Int) (n k : Nat) (h : k < (upL f n).length) : (upL f n)[k] = f + (k : Int) := by simp [upL]

end Go.Proofs.YthceklaoikeokaaGreatDoor

/-
  PLAIN: a row whose elements are those of an owned one, cell by cell, owns what that one owned.
-/
namespace Go.Proofs.YthceklaoikeokaaGreatDoor
open Go.RowKit
open Rep (Rd Own sz)
set_option linter.unusedSimpArgs false
set_option linter.unusedVariables false

/-- A row of the call's own whose elements have these cells. -/
def RowU (us : Nat → List Value) (s : Nat) (e : TypeId) (w : World) (v : Value) (n : Nat) : Prop :=
  ∃ xs, w.ownsRow 0 e s v n xs ∧ ∀ i, i < n → ∀ k, k < (us i).length → xs[i * s + k]? = (us i)[k]?
theorem RowU.nil (us : Nat → List Value) (s : Nat) (e : TypeId) (w : World) : RowU us s e w (.slice none 0 0) 0 :=
  ⟨[], World.ownsRow_nil w 0 e _, fun i h => absurd h (Nat.not_lt_zero _)⟩
theorem RowU.frame {us : Nat → List Value} {s : Nat} {e : TypeId} {w w' : World} {v : Value} {n : Nat} (h : RowU us s e w v n) (hb : ∀ g, v.ownBlock = some g → w'.heap[g]? = w.heap[g]?) : RowU us s e w' v n := by
  obtain ⟨xs, hrow, hel⟩ := h
  exact ⟨xs, row_frame hrow hb, hel⟩
theorem RowU.snoc {us : Nat → List Value} {s : Nat} {e : TypeId} {w w' : World} {v v' : Value} {n : Nat} {xs : List Value} (hrow : w.ownsRow 0 e s v n xs) (hel : ∀ i, i < n → ∀ k, k < (us i).length → xs[i * s + k]? = (us i)[k]?)
    (hl : ∀ i, i ≤ n → (us i).length = s) (hrow' : w'.ownsRow 0 e s v' (n + 1) (xs ++ us n)) : RowU us s e w' v' (n + 1) := by
  refine ⟨_, hrow', fun i hi k hk => ?_⟩
  have hxl := hrow.1
  have hul := hl i (by omega)
  by_cases hlt : i < n
  · have hb := idx_lt (s := s) hlt (show k < s by omega)
    rw [List.getElem?_append_left (by rw [hxl]; exact hb)]
    exact hel i hlt k hk
  · obtain rfl : i = n := by omega
    rw [List.getElem?_append_right (by omega), hxl]
    congr 1
    omega
theorem own_again {α : Type} [Rep α] {p : List Nat} {w : World} {a : Option Addr} {n c : Nat} {l : List α} (h : Own p w [.slice a n c] l) (hp : p.Nodup) :
    ∃ us : Nat → List Value, (∀ i (hi : i < l.length), Rd w (us i) l[i] ∧ ∃ b o, a = some ⟨b, o, none⟩ ∧ CellsAt w b (o + i * sz α) (us i)) ∧
      ∀ (w1 : World) (e : TypeId) (vN : Value), Below w.heap.size w w1 → RowU us (sz α) e w1 vN l.length → (∀ z, vN.ownBlock = some z → w.heap.size ≤ z) → Ip (fun k => k ∈ p ∨ w.heap.size ≤ k) w1 [vN] l := by
  have hlt := fun k hk => Rep.own_lt h k hk
  obtain ⟨v', e', ho⟩ := h
  obtain rfl : Value.slice a n c = v' := by simpa using e'
  rcases ho with ⟨rfl, rfl, _⟩ | ⟨g, o, c', cur, e, pss, hv, h1, h2, h3, rfl, h5, h6⟩
  · refine ⟨fun _ => [], fun i hi => absurd hi (Nat.not_lt_zero _), fun w1 e vN hb hru hfr => ?_⟩
    obtain ⟨xs, hrow, hx⟩ := hru
    have ho := ownSl_of_row (α := α) (l := []) (pss := []) hrow rfl (fun i hi => absurd hi (Nat.not_lt_zero _))
    exact ⟨_, ⟨vN, rfl, ho⟩, by cases vN.ownBlock <;> simp, fun k hk => .inr (hfr k (by simpa using hk))⟩
  · simp only [Value.slice.injEq] at hv
    obtain ⟨rfl, rfl, rfl⟩ := hv
    have hx : ∀ i, ∃ vs, ∀ (hi : i < l.length), ∃ q, pss[i]? = some q ∧ Own q w vs l[i] ∧ ∀ k, k < vs.length → cur[o + i * sz α + k]? = vs[k]? := by
      intro i
      by_cases hi : i < l.length
      · obtain ⟨q, vs, h7⟩ := h6 i hi
        exact ⟨vs, fun _ => ⟨q, h7⟩⟩
      · exact ⟨[], fun h => absurd h hi⟩
    obtain ⟨us, hus⟩ := Classical.axiomOfChoice hx
    refine ⟨us, fun i hi => ?_, fun w1 e1 vN hb hru hfr => ?_⟩
    · obtain ⟨q, hq, hO, hc⟩ := hus i hi
      refine ⟨Rep.own_rd hO, g, o, rfl, fun k hk => ?_⟩
      rw [cell_at_block h3]
      exact hc k hk
    · obtain ⟨xs, hrow, hx⟩ := hru
      have ho := ownSl_of_row (α := α) (l := l) (pss := pss) (e := e1) (xs := xs) (v := vN) (w := w1) hrow h5 (fun i hi => by
        obtain ⟨q, hq, hO, hc⟩ := hus i hi
        exact ⟨q, us i, hq, Own.mono hO hb, fun k hk => hx i hi k hk⟩)
      refine ⟨_, ⟨vN, rfl, ho⟩, ?_, fun k hk => ?_⟩
      · rw [List.nodup_append]
        refine ⟨by cases vN.ownBlock <;> simp, (List.nodup_cons.1 hp).2, fun x hx y hy => ?_⟩
        have h1 := hfr x (by simpa using hx)
        have h2 := hlt y (List.mem_cons_of_mem _ hy)
        omega
      · rcases List.mem_append.1 hk with hk | hk
        · exact .inr (hfr k (by simpa using hk))
        · exact .inl (List.mem_cons_of_mem _ hk)

end Go.Proofs.YthceklaoikeokaaGreatDoor

/-
  CONTRACTS: slices.Equal.
-/
namespace Go.Proofs.YthceklaoikeokaaGreatDoor
open Go.RowKit
open Rep (Rd Own sz)
set_option linter.unusedSimpArgs false
set_option linter.unusedVariables false

set_option maxRecDepth 100000 in
set_option maxHeartbeats 1000000 in
theorem equalInts_c (l1 l2 : List Int) (v1 v2 : Value) (w : World) (r1 : Rd w [v1] l1) (r2 : Rd w [v2] l2) :
    Calls Tryz.prog 82 #[v1, v2] w fun e w' => e = .returned (.bool (decide (l1 = l2))) ∧ Below w.heap.size w w' := by
  obtain ⟨a1, c1, rfl, h1⟩ := rd_list r1
  obtain ⟨a2, c2, rfl, h2⟩ := rd_list r2
  clear r1 r2
  have b1 := (rdSl_len h1).2
  have b2 := (rdSl_len h2).2
  unfold maxLen at b1 b2
  have G1 := Lib.hid h1
  have G2 := Lib.hid h2
  clear h1 h2
  by_cases hl : l1.length = l2.length
  · generalize hn1 : l1.length = n1 at *
    generalize hn2 : l2.length = n2 at *
    have H1 := Lib.hid hn1
    have H2 := Lib.hid hn2
    clear hn1 hn2
    subst hl
    have hl' : ((n1 : Int) != n1) = false := by simp
    go_enter Tryz.func82, Tryz.ntmps82
    go_wp2_with fail
    go_loopw [13] (fun i wr => ∃ k : Nat, k ≤ n1 ∧ i = .int .i64 k ∧ Hid (Below w.heap.size w wr) ∧ Hid (l1.take k = l2.take k)) (fun i _ => n1 - (intOf i).toNat)
    case atStart => exact ⟨0, Nat.zero_le _, rfl, Below.refl _ _, by simp [Hid]⟩
    case round =>
      obtain ⟨k, hk, rfl, hbl, hr⟩ := hrel
      by_cases hlt : k < n1
      · have k1 : k < l1.length := by rw [H1.out]; exact hlt
        have k2 : k < l2.length := by rw [H2.out]; exact hlt
        obtain ⟨b1, o1, u0, rfl, q0, hx⟩ := rdSl_one rfl (rdSl_mono hbl.out G1.out) k k1
        obtain ⟨b2, o2, t0, rfl, p0, hy⟩ := rdSl_one rfl (rdSl_mono hbl.out G2.out) k k2
        obtain ⟨rfl, _⟩ := rd_i1 hx
        obtain ⟨rfl, _⟩ := rd_i1 hy
        clear hx hy
        by_cases he : l1[k] = l2[k]
        · have hb : (l1[k] != l2[k]) = false := by simpa using he
          have HE := Lib.hid he
          clear he
          go_wp2_with fail
          go_quiet (fail)
          go_wp2_with fail
          go_roundw
          case rel => exact ⟨k + 1, by omega, by go_num, hbl.out.trans ((drewN_below _ _).mono hbl.out.size), take_succG k1 k2 hr.out HE.out⟩
          case measure => simp [intOf]; omega
        · have hb : (l1[k] != l2[k]) = true := by simpa using he
          have HE := Lib.hid he
          clear he
          go_wp2_with fail
          go_quiet (fail)
          go_wp2_with fail
          go_ret
          exact ⟨ret_bool (by simp [ne_getG k1 k2 HE.out]), hbl.out.trans ((drewN_below _ _).mono hbl.out.size)⟩
      · obtain rfl : k = n1 := by omega
        go_wp2_with fail
        go_ret
        exact ⟨ret_bool (by simp [take_allG H1.out H2.out hr.out]), hbl.out⟩
  · have hl' : ((l1.length : Int) != l2.length) = true := by simp; omega
    have HL := Lib.hid hl
    clear hl
    go_enter Tryz.func82, Tryz.ntmps82
    go_wp2_with fail
    go_ret
    refine ⟨ret_bool ?_, Below.refl _ _⟩
    symm
    simp only [decide_eq_false_iff_not]
    rintro rfl
    exact HL.out rfl


end Go.Proofs.YthceklaoikeokaaGreatDoor
