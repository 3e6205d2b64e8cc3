/-
  PLAIN LAW: elimination, once for rows as the program keeps them, once as the reference does; both do the same.
-/
import Derived.Test.YtoblfnoaepbhfaaBase
namespace Go.Proofs.Ytoblfnoaepbhfaa
open Go.RowKit
set_option linter.unusedSimpArgs false
set_option linter.unusedVariables false

abbrev RowT := List Int × List Int
abbrev SRow := List Int × Int × List Int
/-- Only numbers 0 on its left. -/
def noneR (l : List Int) : Bool := (l.take (l.length - 1)).all (fun a => a == 0)
/-- The right number. -/
def rightR (l : List Int) : Int := l.getD (l.length - 1) 0
/-- A row of the reference, as the program keeps it. -/
def flat (r : SRow) : RowT := (r.1 ++ [r.2.1], r.2.2)
def addL (p k : Int) (l m : List Int) : List Int := List.zipWith (fun a b => (a + k * b) % p) l m ++ l.drop m.length
def addR (p k : Int) (r s : RowT) : RowT := (addL p k r.1 s.1, addL p k r.2 s.2)
def timesR (p n : Int) (r : RowT) : RowT := addR p (n - 1 + p) r r
def lessL (p k : Int) (l m : List Int) : List Int := List.zipWith (fun a b => (a - k * b) % p) l m
def lessS (p k : Int) (r o : SRow) : SRow := (lessL p k r.1 o.1, (r.2.1 - k * o.2.1) % p, lessL p k r.2.2 o.2.2)
def scaleL (p k : Int) (l : List Int) : List Int := List.zipWith (fun a _ => a * k % p) l l
def scaleS (p k : Int) (r : SRow) : SRow := (scaleL p k r.1, r.2.1 * k % p, scaleL p k r.2.2)

/-- What elimination asks of rows. -/
structure ROps (α : Type) where
  get : α → Nat → Int
  scale : α → Int → α
  less : α → α → Int → α
  dflt : α
def opsI (p : Int) : ROps RowT := ⟨fun r u => r.1.getD u 0, fun r n => timesR p n r, fun r x n => addR p (p - n) r x, ([], [])⟩
def opsS (p : Int) : ROps SRow := ⟨fun r u => r.1.getD u 0, fun r n => scaleS p n r, fun r x n => if n = 0 then r else lessS p n r x, ([], 0, [])⟩

def swapL {α : Type} (d : α) (l : List α) (i j : Nat) : List α := (l.set i (l.getD j d)).set j (l.getD i d)
@[simp] theorem swapL_length {α : Type} (d : α) (l : List α) (i j : Nat) : (swapL d l i j).length = l.length := by simp [swapL]
def elimRow {α : Type} (O : ROps α) (u done : Nat) (x : α) (i : Nat) (r : α) : α := if i = done then r else O.less r x (O.get r u)
def pivotE {α : Type} (O : ROps α) (u : Nat) (rows : List α) (done k : Nat) : List α :=
  let r1 := swapL O.dflt rows done (done + k)
  let x := O.scale (r1.getD done O.dflt) (O.get (r1.getD done O.dflt) u)
  (r1.set done x).mapIdx (elimRow O u done x)
def stepE {α : Type} (O : ROps α) (u : Nat) (st : List α × List Int) : List α × List Int :=
  match (st.1.drop st.2.length).findIdx? (fun r => O.get r u != 0) with
  | none => st
  | some k => (pivotE O u st.1 st.2.length k, st.2 ++ [(u : Int)])
def elimE {α : Type} (O : ROps α) (rows : List α) : Nat → List α × List Int
  | 0 => (rows, [])
  | u + 1 => stepE O u (elimE O rows u)

/-! ### The same numbers -/
theorem add_less (p n a b : Int) : (a + (p - n) * b) % p = (a - n * b) % p := by
  rw [show a + (p - n) * b = a - n * b + p * b by rw [Int.sub_mul]; omega, Int.add_mul_emod_self_left]
theorem times_scale (p n a : Int) : (a + (n - 1 + p) * a) % p = a * n % p := by
  rw [show a + (n - 1 + p) * a = a * n + p * a by rw [Int.add_mul, Int.sub_mul, Int.one_mul, Int.mul_comm n a]; omega, Int.add_mul_emod_self_left]
theorem addL_same {p k : Int} {l m : List Int} (h : l.length = m.length) : addL p k l m = List.zipWith (fun a b => (a + k * b) % p) l m := by
  unfold addL; rw [← h, List.drop_length, List.append_nil]
theorem addL_append {p k : Int} {l m : List Int} {a b : Int} (h : l.length = m.length) : addL p k (l ++ [a]) (m ++ [b]) = addL p k l m ++ [(a + k * b) % p] := by
  rw [addL_same (by simp [h]), addL_same h, List.zipWith_append h]; rfl

/-- A row as it should be: U unknowns, made of n equations. -/
structure GoodS (p : Int) (U n : Nat) (r : SRow) : Prop where
  len : r.1.length = U
  by_ : r.2.2.length = n
  res : Res p r.1
  right : 0 ≤ r.2.1 ∧ r.2.1 < p
  resBy : Res p r.2.2
theorem res_zip {p : Int} (hp : 0 < p) (f : Int → Int → Int) (l m : List Int) : Res p (List.zipWith (fun a b => f a b % p) l m) := by
  intro a ha
  obtain ⟨i, hi, rfl⟩ := List.getElem_of_mem ha
  simp only [List.getElem_zipWith]
  exact ⟨Int.emod_nonneg _ (by omega), Int.emod_lt_of_pos _ hp⟩
theorem goodS_less {p : Int} {U n : Nat} {r o : SRow} (hp : 0 < p) (k : Int) (hr : GoodS p U n r) (ho : GoodS p U n o) : GoodS p U n (lessS p k r o) :=
  ⟨by simp [lessS, lessL, hr.len, ho.len], by simp [lessS, lessL, hr.by_, ho.by_], res_zip hp (fun a b => a - k * b) _ _, ⟨Int.emod_nonneg _ (by omega), Int.emod_lt_of_pos _ hp⟩, res_zip hp (fun a b => a - k * b) _ _⟩
theorem goodS_scale {p : Int} {U n : Nat} {r : SRow} (hp : 0 < p) (k : Int) (hr : GoodS p U n r) : GoodS p U n (scaleS p k r) :=
  ⟨by simp [scaleS, scaleL, hr.len], by simp [scaleS, scaleL, hr.by_], res_zip hp (fun a _ => a * k) _ _, ⟨Int.emod_nonneg _ (by omega), Int.emod_lt_of_pos _ hp⟩, res_zip hp (fun a _ => a * k) _ _⟩
theorem addL_less {p n : Int} {l m : List Int} (h : l.length = m.length) : addL p (p - n) l m = lessL p n l m := by
  rw [addL_same h]; unfold lessL; simp only [add_less]
theorem lessL_zero {p : Int} {l m : List Int} (h : l.length = m.length) (hr : Res p l) : lessL p 0 l m = l := by
  unfold lessL
  apply List.ext_getElem
  · simp [h]
  · intro i h1 h2
    simp only [List.getElem_zipWith, Int.zero_mul, Int.sub_zero]
    exact Int.emod_eq_of_lt (hr.get i h2).1 (hr.get i h2).2
theorem flat_less {p : Int} {U n : Nat} {r o : SRow} (k : Int) (hr : GoodS p U n r) (ho : GoodS p U n o) : flat (lessS p k r o) = addR p (p - k) (flat r) (flat o) := by
  unfold flat addR lessS
  simp only
  rw [addL_append (by rw [hr.len, ho.len]), addL_less (by rw [hr.len, ho.len]), addL_less (by rw [hr.by_, ho.by_]), add_less]
theorem lessS_zero {p : Int} {U n : Nat} {r o : SRow} (hr : GoodS p U n r) (ho : GoodS p U n o) : lessS p 0 r o = r := by
  unfold lessS
  rw [lessL_zero (by rw [hr.len, ho.len]) hr.res, lessL_zero (by rw [hr.by_, ho.by_]) hr.resBy, Int.zero_mul, Int.sub_zero, Int.emod_eq_of_lt hr.right.1 hr.right.2]
theorem addL_scale {p n : Int} {l : List Int} : addL p (n - 1 + p) l l = scaleL p n l := by
  rw [addL_same rfl]; unfold scaleL
  apply List.ext_getElem
  · simp
  · intro i h1 h2
    simp only [List.getElem_zipWith]
    exact times_scale p n _
theorem flat_scale {p : Int} (k : Int) (r : SRow) : flat (scaleS p k r) = timesR p k (flat r) := by
  unfold flat timesR addR scaleS
  simp only
  rw [addL_append rfl, addL_scale, addL_scale, times_scale]
theorem flat_get {r : SRow} {u : Nat} (h : u < r.1.length) : (flat r).1.getD u 0 = r.1.getD u 0 := by
  simp [flat, List.getD, List.getElem?_append_left h]

/-! ### The same elimination -/
def AllG (p : Int) (U n : Nat) (rows : List SRow) : Prop := ∀ r, r ∈ rows → GoodS p U n r
theorem goodS_of_get {p : Int} {U n : Nat} {rows : List SRow} (h : AllG p U n rows) (i : Nat) (hi : i < rows.length) (d : SRow) : GoodS p U n (rows.getD i d) := by
  simp only [List.getD, List.getElem?_eq_getElem hi, Option.getD_some]; exact h _ (List.getElem_mem hi)
theorem allG_set {p : Int} {U n : Nat} {rows : List SRow} (h : AllG p U n rows) (i : Nat) {x : SRow} (hx : GoodS p U n x) : AllG p U n (rows.set i x) := by
  intro r hr
  rcases List.mem_or_eq_of_mem_set hr with h1 | h1
  · exact h r h1
  · subst h1; exact hx
theorem allG_swap {p : Int} {U n : Nat} {rows : List SRow} (h : AllG p U n rows) (d : SRow) (i j : Nat) (hi : i < rows.length) (hj : j < rows.length) : AllG p U n (swapL d rows i j) :=
  allG_set (allG_set h i (goodS_of_get h j hj d)) j (goodS_of_get h i hi d)
theorem getD_map {α β : Type} (f : α → β) (l : List α) (i : Nat) (d : α) (e : β) (h : i < l.length) : (l.map f).getD i e = f (l.getD i d) := by simp [List.getD, h]
theorem swapL_map {α β : Type} (f : α → β) (l : List α) (i j : Nat) (d : α) (e : β) (hi : i < l.length) (hj : j < l.length) : swapL e (l.map f) i j = (swapL d l i j).map f := by
  unfold swapL
  rw [getD_map f l i d e hi, getD_map f l j d e hj, List.map_set, List.map_set]
theorem find_lt {α : Type} {q : α → Bool} {l : List α} {k : Nat} (h : l.findIdx? q = some k) : k < l.length := by
  rw [List.findIdx?_eq_some_iff_getElem] at h; exact h.1
theorem swap_at {α : Type} (d : α) (l : List α) (i j : Nat) (hi : i < l.length) (hj : j < l.length) : (swapL d l i j).getD i d = l.getD j d := by
  unfold swapL
  simp only [List.getD, List.getElem?_set, List.length_set, hi, hj, if_true]
  by_cases h : j = i
  · subst h; simp
  · simp [h, hi]
theorem step_good {p : Int} {U n : Nat} (hp : 0 < p) {u : Nat} {rows : List SRow} {bs : List Int} (h : AllG p U n rows) : AllG p U n (stepE (opsS p) u (rows, bs)).1 := by
  unfold stepE
  simp only
  split
  · exact h
  · rename_i k hk
    have hk1 := find_lt hk
    simp only [List.length_drop] at hk1
    have hd : bs.length < rows.length := by omega
    have h1 := allG_swap h (opsS p).dflt bs.length (bs.length + k) hd (by omega)
    have hx := goodS_of_get h1 bs.length (by simpa using hd) (opsS p).dflt
    have hx' : GoodS p U n ((opsS p).scale ((swapL (opsS p).dflt rows bs.length (bs.length + k)).getD bs.length (opsS p).dflt) ((opsS p).get ((swapL (opsS p).dflt rows bs.length (bs.length + k)).getD bs.length (opsS p).dflt) u)) := goodS_scale hp _ hx
    intro r hr
    unfold pivotE at hr
    simp only [List.mem_mapIdx] at hr
    obtain ⟨i, hi, rfl⟩ := hr
    have h2 := allG_set h1 bs.length hx' _ (List.getElem_mem hi)
    unfold elimRow
    split
    · exact h2
    · show GoodS p U n (if _ then _ else _)
      split
      · exact h2
      · exact goodS_less hp _ h2 hx'
theorem step_map {p : Int} {U n : Nat} (hp : 0 < p) {u : Nat} (hu : u < U) {rows : List SRow} {bs : List Int} (h : AllG p U n rows) :
    stepE (opsI p) u (rows.map flat, bs) = ((stepE (opsS p) u (rows, bs)).1.map flat, (stepE (opsS p) u (rows, bs)).2) := by
  have hfind : ((rows.map flat).drop bs.length).findIdx? (fun r => (opsI p).get r u != 0) = (rows.drop bs.length).findIdx? (fun r => (opsS p).get r u != 0) := by
    rw [← List.map_drop, List.findIdx?_map]
    have : ∀ l : List SRow, AllG p U n l → l.findIdx? ((fun r => (opsI p).get r u != 0) ∘ flat) = l.findIdx? (fun r => (opsS p).get r u != 0) := by
      intro l hl
      induction l with
      | nil => rfl
      | cons r rs ih =>
        have hr := hl r (List.mem_cons_self ..)
        have e : (opsI p).get (flat r) u = (opsS p).get r u := flat_get (by rw [hr.len]; exact hu)
        simp only [List.findIdx?_cons, Function.comp, e]
        rw [← ih (fun x hx => hl x (List.mem_cons_of_mem _ hx))]
    exact this _ (fun r hr => h r (List.mem_of_mem_drop hr))
  unfold stepE
  simp only
  rw [hfind]
  split
  · rfl
  · rename_i k hk
    have hk1 := find_lt hk
    simp only [List.length_drop] at hk1
    have hd : bs.length < rows.length := by omega
    have h1 := allG_swap h (opsS p).dflt bs.length (bs.length + k) hd (by omega)
    have hx := goodS_of_get h1 bs.length (by simpa using hd) (opsS p).dflt
    simp only [Prod.mk.injEq, and_true]
    unfold pivotE
    rw [swapL_map flat rows _ _ (opsS p).dflt (opsI p).dflt hd (by omega)]
    simp only
    generalize hr1 : swapL (opsS p).dflt rows bs.length (bs.length + k) = r1 at *
    have hl1 : bs.length < r1.length := by rw [← hr1]; simpa using hd
    rw [getD_map flat r1 _ (opsS p).dflt (opsI p).dflt hl1]
    generalize r1.getD bs.length (opsS p).dflt = x0 at *
    have e0 : (opsI p).get (flat x0) u = (opsS p).get x0 u := flat_get (by rw [hx.len]; exact hu)
    have e1 : (opsI p).scale (flat x0) ((opsS p).get x0 u) = flat ((opsS p).scale x0 ((opsS p).get x0 u)) := (flat_scale _ _).symm
    rw [e0, e1]
    have hx' : GoodS p U n ((opsS p).scale x0 ((opsS p).get x0 u)) := goodS_scale hp _ hx
    generalize (opsS p).scale x0 ((opsS p).get x0 u) = x at *
    have h2 := allG_set h1 bs.length hx'
    rw [← List.map_set]
    apply List.ext_getElem
    · simp
    · intro i q1 q2
      simp only [List.getElem_mapIdx, List.getElem_map]
      have hg : GoodS p U n ((r1.set bs.length x)[i]'(by simpa using q1)) := h2 _ (List.getElem_mem _)
      generalize (r1.set bs.length x)[i]'(by simpa using q1) = r at *
      unfold elimRow
      have e2 : (opsI p).get (flat r) u = (opsS p).get r u := flat_get (by rw [hg.len]; exact hu)
      rw [e2]
      split
      · rfl
      · show addR p (p - _) (flat r) (flat x) = flat (if _ then _ else _)
        rw [← flat_less _ hg hx']
        split
        · rename_i hz; rw [hz, lessS_zero hg hx']
        · rfl
theorem elim_good {p : Int} {U n : Nat} (hp : 0 < p) {rows : List SRow} (h : AllG p U n rows) : ∀ u, AllG p U n (elimE (opsS p) rows u).1
  | 0 => h
  | u + 1 => by
    have := elim_good hp h u
    exact step_good (bs := (elimE (opsS p) rows u).2) hp this
theorem elim_map {p : Int} {U n : Nat} (hp : 0 < p) {rows : List SRow} (h : AllG p U n rows) : ∀ u, u ≤ U → elimE (opsI p) (rows.map flat) u = ((elimE (opsS p) rows u).1.map flat, (elimE (opsS p) rows u).2)
  | 0, _ => rfl
  | u + 1, hu => by
    show stepE (opsI p) u (elimE (opsI p) (rows.map flat) u) = _
    rw [elim_map hp h u (by omega)]
    exact step_map (bs := (elimE (opsS p) rows u).2) hp (by omega) (elim_good hp h u)

end Go.Proofs.Ytoblfnoaepbhfaa
