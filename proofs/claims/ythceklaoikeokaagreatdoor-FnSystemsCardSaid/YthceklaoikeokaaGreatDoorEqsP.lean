/-
  PLAIN LAW: two reduced systems with the same answers are the same; all equations of an affine relation reduce to what is made of them one after the other.
-/
import Derived.Test.YthceklaoikeokaaGreatDoorSysB
import Derived.Test.YthceklaoikeokaaGreatDoorSolB
import Derived.Test.YthceklaoikeokaaGreatDoorRowsB
namespace Go.Proofs.YthceklaoikeokaaGreatDoor
open Go.RowKit
set_option linter.unusedSimpArgs false
set_option linter.unusedVariables false

/-- An equation as a row that is made of nothing. -/
def eqR (e : Eqn) : SRow := (e.1, e.2, [])
/-- Equations that stand as elimination leaves them. -/
structure RedE (p : Int) (U : Nat) (L : List Eqn) (bs : List Int) : Prop where
  good : AllG p U 0 (L.map eqR)
  rref : Rref p U (L.map eqR) bs
  len : bs.length = L.length
  sorted : ∀ i j (hi : i < bs.length) (hj : j < bs.length), i < j → bs[i] < bs[j]

theorem false_none {L : List SRow} {d : Nat} (h : d = L.length) : ¬ 0 ≤ falseF L d := by
  unfold falseF
  rw [h, List.drop_length]
  simp
theorem dot_repl0 (n : Nat) : ∀ l : List Int, dotI l (List.replicate n 0) = 0 := by
  intro l
  unfold dotI
  induction l generalizing n with
  | nil => simp
  | cons a l ih =>
    cases n with
    | zero => simp
    | succ n => simp [List.replicate_succ, ih n]
theorem getD_repl0 (n c : Nat) : (List.replicate n (0 : Int)).getD c 0 = 0 := by simp [List.getD, List.getElem?_replicate]; split <;> rfl
/-- What holds for all answers and has zeros where rows begin is nothing. -/
theorem red_zero {p : Int} {U n : Nat} (hp : 2 ≤ p) {rows : List SRow} {bs : List Int} (hg : AllG p U n rows) (hr : Rref p U rows bs) (hl : bs.length = rows.length) {x : SRow} {m : Nat} (hx : GoodS p U m x)
    (hz : ∀ j (hj : j < bs.length), x.1.getD bs[j].toNat 0 = 0) (h : ∀ v : List Int, v.length = U → Res p v → allD p v rows → rowD p v x) : (∀ c, c < U → x.1.getD c 0 = 0) ∧ x.2.1 = 0 := by
  have hf : ¬ 0 ≤ falseF rows bs.length := false_none hl
  have key : ∀ t : List Int, t.length = U → Res p t → (∀ j (hj : j < bs.length), t.getD bs[j].toNat 0 = 0) → p ∣ dotI x.1 t - x.2.1 := by
    intro t ht hrt h0
    have h1 := h _ (by rw [fixTo_len]; exact ht) (fixTo_res (by omega) _ _ _ hrt _) (fix_all (by omega) hg hr hf ht h0)
    unfold rowD at h1
    rw [fix_same hr ht h0 _ hz] at h1
    exact h1
  have k0 := key (List.replicate U 0) (by simp) (fun a ha => by have := List.eq_of_mem_replicate ha; omega) (fun j _ => getD_repl0 _ _)
  rw [dot_repl0] at k0
  have hr2 : x.2.1 = 0 := by
    obtain ⟨q, hq⟩ := k0
    have h6 : x.2.1 % p = 0 := by rw [show x.2.1 = p * -q by rw [Int.mul_neg]; omega]; exact Int.mul_emod_right _ _
    rwa [Int.emod_eq_of_lt hx.right.1 hx.right.2] at h6
  refine ⟨fun c hcU => ?_, hr2⟩
  by_cases hb : ∃ j, ∃ hj : j < bs.length, bs[j].toNat = c
  · obtain ⟨j, hj, e1⟩ := hb
    rw [← e1]; exact hz j hj
  · have k1 := key ((List.replicate U 0).set c 1) (by simp) (fun a ha => by
      rcases List.mem_or_eq_of_mem_set ha with h1 | h1
      · have := List.eq_of_mem_replicate h1; omega
      · omega) (fun j hj => by
        have hne : c ≠ bs[j].toNat := fun e1 => hb ⟨j, hj, e1.symm⟩
        simp only [List.getD, List.getElem?_set_ne hne]
        exact getD_repl0 _ _)
    rw [dot_set _ _ _ _ (by simpa using hcU), dot_repl0, getD_repl0, hr2] at k1
    obtain ⟨q, hq⟩ := k1
    have hres := getD_res hx.res c (by rw [hx.len]; exact hcU)
    have h6 : x.1.getD c 0 % p = 0 := by rw [show x.1.getD c 0 = p * q by omega]; exact Int.mul_emod_right _ _
    rwa [Int.emod_eq_of_lt hres.1 hres.2] at h6
theorem dot_congr : ∀ (l v v' : List Int), v.length = v'.length → (∀ c, l.getD c 0 = 0 ∨ v.getD c 0 = v'.getD c 0) → dotI l v = dotI l v'
  | [], v, v', _, _ => by simp [dotI]
  | a :: l, [], [], _, _ => rfl
  | a :: l, [], b :: v', h, _ => by simp at h
  | a :: l, b :: v, [], h, _ => by simp at h
  | a :: l, b :: v, b' :: v', h, hc => by
    have ih := dot_congr l v v' (by simpa using h) (fun c => by have := hc (c + 1); simpa using this)
    have h0 := hc 0
    simp only [List.getD_cons_zero] at h0
    rw [dotI_cons, dotI_cons, ih]
    rcases h0 with h0 | h0
    · rw [h0]; simp
    · rw [h0]
/-- Where a row begins, the later unknowns decide. -/
theorem red_det {p : Int} {U n : Nat} (hp : 2 ≤ p) {rows : List SRow} {bs : List Int} (hg : AllG p U n rows) (hr : Rref p U rows bs) {j : Nat} (hj : j < bs.length) {v v' : List Int} (hv : v.length = U) (hv' : v'.length = U) (rv : Res p v) (rv' : Res p v')
    (dv : allD p v rows) (dv' : allD p v' rows) (hs : ∀ c : Nat, (bs[j] : Int) < (c : Int) → v.getD c 0 = v'.getD c 0) : v.getD bs[j].toNat 0 = v'.getD bs[j].toNat 0 := by
  have hjr : j < rows.length := by have := hr.le; omega
  have hb := hr.bnd j _ (List.getElem?_eq_getElem hj)
  have h1 := dv _ (List.getElem_mem hjr)
  have h2 := dv' _ (List.getElem_mem hjr)
  have hc := hr.col j _ j _ (List.getElem?_eq_getElem hjr) (List.getElem?_eq_getElem hj)
  rw [if_pos rfl] at hc
  have hlead := hr.lead j _ _ (List.getElem?_eq_getElem hjr) (List.getElem?_eq_getElem hj)
  have hU : bs[j].toNat < U := by omega
  have e := dot_set rows[j].1 v' bs[j].toNat (v.getD bs[j].toNat 0) (by rw [hv']; exact hU)
  have e2 : dotI rows[j].1 v = dotI rows[j].1 (v'.set bs[j].toNat (v.getD bs[j].toNat 0)) := by
    refine dot_congr _ _ _ (by simp [hv, hv']) (fun c => ?_)
    by_cases hcb : c < bs[j].toNat
    · exact .inl (hlead c (by omega))
    · right
      by_cases hcb2 : bs[j].toNat = c
      · subst hcb2
        simp only [List.getD, List.getElem?_set, hv', hU, if_true, Option.getD_some]
      · rw [hs c (by omega)]
        simp only [List.getD, List.getElem?_set_ne hcb2]
  rw [hc, Int.one_mul] at e
  unfold rowD at h1 h2
  have h3 := Int.dvd_sub h1 h2
  rw [e2, e] at h3
  have r1 := getD_res rv bs[j].toNat (by rw [hv]; exact hU)
  have r2 := getD_res rv' bs[j].toNat (by rw [hv']; exact hU)
  obtain ⟨q, hq⟩ := h3
  have h5 : v.getD bs[j].toNat 0 - v'.getD bs[j].toNat 0 = p * q := by omega
  have h6 : q = 0 := by
    rcases Int.lt_trichotomy q 0 with h | h | h
    · have : p * q ≤ p * -1 := Int.mul_le_mul_of_nonneg_left (by omega) (by omega)
      omega
    · exact h
    · have : p * 1 ≤ p * q := Int.mul_le_mul_of_nonneg_left (by omega) (by omega)
      omega
  rw [h6] at h5
  omega
theorem fixTo_free {p : Int} {U : Nat} {rows : List SRow} {bs t : List Int} (h : Rref p U rows bs) (ht : t.length = U) {c : Nat} (hc : ∀ j (hj : j < bs.length), bs[j].toNat ≠ c) : ∀ j, j ≤ bs.length → (fixTo p rows bs t j).getD c 0 = t.getD c 0
  | 0, _ => rfl
  | j + 1, hj => by
    have hjb : j < bs.length := by omega
    have e : bs.getD j 0 = bs[j] := by simp [List.getD, hjb]
    rw [fixTo, e]
    simp only [List.getD, List.getElem?_set_ne (hc j hjb)]
    simpa [List.getD] using fixTo_free h ht hc j (by omega)
theorem fixTo_piv {p : Int} {U : Nat} {rows : List SRow} {bs t : List Int} (h : Rref p U rows bs) (ht : t.length = U) {k : Nat} (hk : k < bs.length) : ∀ j, k < j → j ≤ bs.length → (fixTo p rows bs t j).getD bs[k].toNat 0 = ((rows.getD k row0).2.1 - dotI (rows.getD k row0).1 t) % p
  | 0, h0, _ => absurd h0 (Nat.not_lt_zero _)
  | j + 1, hkj, hj => by
    have hjb : j < bs.length := by omega
    have e : bs.getD j 0 = bs[j] := by simp [List.getD, hjb]
    have b1 := h.bnd j _ (List.getElem?_eq_getElem hjb)
    have b2 := h.bnd k _ (List.getElem?_eq_getElem hk)
    rw [fixTo, e]
    by_cases hjk : j = k
    · subst hjk
      simp only [List.getD, List.getElem?_set, fixTo_len, ht, show bs[j].toNat < U by omega, if_true, Option.getD_some]
    · have hne : bs[j].toNat ≠ bs[k].toNat := by have := bs_ne h hjb hk hjk; omega
      simp only [List.getD, List.getElem?_set_ne hne]
      simpa [List.getD] using fixTo_piv h ht hk j (by omega) (by omega)
/-- Where no row begins, an unknown is free. -/
theorem red_free {p : Int} {U n : Nat} (hp : 2 ≤ p) {rows : List SRow} {bs : List Int} (hg : AllG p U n rows) (hr : Rref p U rows bs) (hl : bs.length = rows.length) {c : Nat} (hcU : c < U) (hc : ∀ j (hj : j < bs.length), bs[j].toNat ≠ c) :
    ∃ v v' : List Int, v.length = U ∧ v'.length = U ∧ Res p v ∧ Res p v' ∧ allD p v rows ∧ allD p v' rows ∧ (∀ d, c < d → v.getD d 0 = v'.getD d 0) ∧ v.getD c 0 ≠ v'.getD c 0 := by
  have hf : ¬ 0 ≤ falseF rows bs.length := false_none hl
  have l0 : (List.replicate U (0 : Int)).length = U := by simp
  have l1 : ((List.replicate U (0 : Int)).set c 1).length = U := by simp
  have r0 : Res p (List.replicate U (0 : Int)) := fun a ha => by have := List.eq_of_mem_replicate ha; omega
  have r1 : Res p ((List.replicate U (0 : Int)).set c 1) := fun a ha => by
    rcases List.mem_or_eq_of_mem_set ha with h1 | h1
    · have := List.eq_of_mem_replicate h1; omega
    · omega
  have z0 : ∀ j (hj : j < bs.length), (List.replicate U (0 : Int)).getD bs[j].toNat 0 = 0 := fun j _ => getD_repl0 _ _
  have z1 : ∀ j (hj : j < bs.length), ((List.replicate U (0 : Int)).set c 1).getD bs[j].toNat 0 = 0 := fun j hj => by
    simp only [List.getD, List.getElem?_set_ne (hc j hj).symm]
    exact getD_repl0 _ _
  refine ⟨_, _, by rw [fixTo_len]; exact l0, by rw [fixTo_len]; exact l1, fixTo_res (by omega) rows bs _ r0 bs.length, fixTo_res (by omega) rows bs _ r1 bs.length, fix_all (by omega) hg hr hf l0 z0, fix_all (by omega) hg hr hf l1 z1, fun d hd => ?_, ?_⟩
  · by_cases hb : ∃ j, ∃ hj : j < bs.length, bs[j].toNat = d
    · obtain ⟨j, hj, rfl⟩ := hb
      rw [fixTo_piv hr l0 hj _ hj (Nat.le_refl _), fixTo_piv hr l1 hj _ hj (Nat.le_refl _)]
      have hjr : j < rows.length := by omega
      have er : rows.getD j row0 = rows[j] := by simp [List.getD, hjr]
      have hlead := hr.lead j _ _ (List.getElem?_eq_getElem hjr) (List.getElem?_eq_getElem hj) c (by omega)
      rw [er, dot_set _ _ _ _ (by simpa using hcU), hlead, Int.zero_mul, Int.add_zero]
    · have hfd : ∀ j (hj : j < bs.length), bs[j].toNat ≠ d := fun j hj e => hb ⟨j, hj, e⟩
      rw [fixTo_free hr l0 hfd _ (Nat.le_refl _), fixTo_free hr l1 hfd _ (Nat.le_refl _)]
      simp only [List.getD, List.getElem?_set_ne (Nat.ne_of_lt hd)]
  · rw [fixTo_free hr l0 hc _ (Nat.le_refl _), fixTo_free hr l1 hc _ (Nat.le_refl _), getD_repl0]
    simp only [List.getD, List.getElem?_set, List.length_replicate, hcU, if_true, Option.getD_some]
    decide
theorem sorted_same : ∀ (a b : List Int), (∀ i j (hi : i < a.length) (hj : j < a.length), i < j → a[i] < a[j]) → (∀ i j (hi : i < b.length) (hj : j < b.length), i < j → b[i] < b[j]) → (∀ x, x ∈ a ↔ x ∈ b) → a = b
  | [], [], _, _, _ => rfl
  | [], y :: b, _, _, h => by have := (h y).2 (by simp); cases this
  | x :: a, [], _, _, h => by have := (h x).1 (by simp); cases this
  | x :: a, y :: b, ha, hb, h => by
    have xa : ∀ z, z ∈ a → x < z := fun z hz => by
      obtain ⟨i, hi, rfl⟩ := List.getElem_of_mem hz
      exact ha 0 (i + 1) (by simp) (by simpa using hi) (by omega)
    have yb : ∀ z, z ∈ b → y < z := fun z hz => by
      obtain ⟨i, hi, rfl⟩ := List.getElem_of_mem hz
      exact hb 0 (i + 1) (by simp) (by simpa using hi) (by omega)
    have h1 : x = y := by
      rcases List.mem_cons.1 ((h x).1 (by simp)) with e | e
      · exact e
      · rcases List.mem_cons.1 ((h y).2 (by simp)) with e2 | e2
        · exact e2.symm
        · have := xa y e2; have := yb x e; omega
    subst h1
    congr 1
    refine sorted_same a b (fun i j hi hj hij => ha (i + 1) (j + 1) (by simpa using hi) (by simpa using hj) (by omega)) (fun i j hi hj hij => hb (i + 1) (j + 1) (by simpa using hi) (by simpa using hj) (by omega)) (fun z => ?_)
    constructor
    · intro hz
      rcases List.mem_cons.1 ((h z).1 (List.mem_cons_of_mem _ hz)) with e | e
      · have := xa z hz; omega
      · exact e
    · intro hz
      rcases List.mem_cons.1 ((h z).2 (List.mem_cons_of_mem _ hz)) with e | e
      · have := yb z hz; omega
      · exact e
theorem eqR_inj {l m : List Int} {a b : Int} (h1 : l = m) (h2 : a = b) : ((l, a) : Eqn) = (m, b) := by rw [h1, h2]
/-- Reduced systems with the same answers are the same. -/
theorem red_same {p : Int} {U : Nat} (hp : 2 ≤ p) {L M : List Eqn} {bs cs : List Int} (hL : RedE p U L bs) (hM : RedE p U M cs) (h : ∀ v : List Int, v.length = U → Res p v → (allD p v (L.map eqR) ↔ allD p v (M.map eqR))) : L = M := by
  have lL : bs.length = (L.map eqR).length := by simpa using hL.len
  have lM : cs.length = (M.map eqR).length := by simpa using hM.len
  have key : ∀ {L M : List Eqn} {bs cs : List Int}, RedE p U L bs → RedE p U M cs → (∀ v : List Int, v.length = U → Res p v → (allD p v (L.map eqR) ↔ allD p v (M.map eqR))) → ∀ x, x ∈ bs → x ∈ cs := by
    intro L M bs cs hL hM h x hx
    obtain ⟨j, hj, rfl⟩ := List.getElem_of_mem hx
    have hb := hL.rref.bnd j _ (List.getElem?_eq_getElem hj)
    by_cases hc : ∃ k, ∃ hk : k < cs.length, cs[k].toNat = bs[j].toNat
    · obtain ⟨k, hk, e⟩ := hc
      have hb2 := hM.rref.bnd k _ (List.getElem?_eq_getElem hk)
      have : cs[k] = bs[j] := by omega
      rw [← this]
      exact List.getElem_mem hk
    · obtain ⟨v, v', h1, h2, h3, h4, h5, h6, h7, h8⟩ := red_free hp hM.good hM.rref (by simpa using hM.len) (c := bs[j].toNat) (by omega) (fun k hk e => hc ⟨k, hk, e⟩)
      exact absurd (red_det hp hL.good hL.rref hj h1 h2 h3 h4 ((h v h1 h3).2 h5) ((h v' h2 h4).2 h6) (fun c hc => h7 c (by omega))) h8
  have hbc : bs = cs := sorted_same _ _ hL.sorted hM.sorted (fun x => ⟨key hL hM h x, key hM hL (fun v a b => (h v a b).symm) x⟩)
  subst hbc
  have hlen : L.length = M.length := by rw [← hL.len, ← hM.len]
  refine List.ext_getElem hlen (fun i hi hi2 => ?_)
  have hib : i < bs.length := by rw [hL.len]; exact hi
  have eL : (L.map eqR)[i]'(by simpa using hi) = eqR L[i] := by simp
  have eM : (M.map eqR)[i]'(by simpa using hi2) = eqR M[i] := by simp
  have gL : GoodS p U 0 (eqR L[i]) := hL.good _ (List.mem_map.2 ⟨_, List.getElem_mem hi, rfl⟩)
  have gM : GoodS p U 0 (eqR M[i]) := hM.good _ (List.mem_map.2 ⟨_, List.getElem_mem hi2, rfl⟩)
  have gx := goodS_less (p := p) (by omega) 1 gL gM
  have hz := red_zero hp hL.good hL.rref (by simpa using hL.len) gx (fun j hj => by
    have hb := hL.rref.bnd j _ (List.getElem?_eq_getElem hj)
    have c1 := hL.rref.col i _ j _ (List.getElem?_eq_getElem (by simpa using hi)) (List.getElem?_eq_getElem hj)
    have c2 := hM.rref.col i _ j _ (List.getElem?_eq_getElem (by simpa using hi2)) (List.getElem?_eq_getElem hj)
    rw [eL] at c1
    rw [eM] at c2
    show (lessL p 1 (eqR L[i]).1 (eqR M[i]).1).getD _ 0 = 0
    rw [show lessL p = fun k l m => List.zipWith (fun a b => (a - k * b) % p) l m from rfl]
    simp only
    rw [getD_zip _ _ _ _ (by rw [gL.len]; omega) (by rw [gM.len]; omega), c1, c2]
    split <;> rfl) (fun v h1 h2 h3 => by
      have d1 := h3 _ (List.mem_map.2 ⟨_, List.getElem_mem hi, rfl⟩)
      have d2 := (h v h1 h2).1 h3 _ (List.mem_map.2 ⟨_, List.getElem_mem hi2, rfl⟩)
      exact (rowD_less 1 gL gM d2).2 d1)
  show L[i] = M[i]
  have gLl : L[i].1.length = U := gL.len
  have gMl : M[i].1.length = U := gM.len
  refine Prod.ext (List.ext_getElem (by rw [gLl, gMl]) (fun c h1 h2 => ?_)) ?_
  · have hcU : c < U := by omega
    have h3 := hz.1 c hcU
    rw [show (lessS p 1 (eqR L[i]) (eqR M[i])).1 = List.zipWith (fun a b => (a - 1 * b) % p) (eqR L[i]).1 (eqR M[i]).1 from rfl, getD_zip _ _ _ _ (by rw [gL.len]; exact hcU) (by rw [gM.len]; exact hcU)] at h3
    have q1 := gL.res.get c (by rw [gL.len]; exact hcU)
    have q2 := gM.res.get c (by rw [gM.len]; exact hcU)
    simp only [eqR, List.getD, List.getElem?_eq_getElem h1, List.getElem?_eq_getElem h2, Option.getD_some, Int.one_mul] at h3 q1 q2
    obtain ⟨q, hq⟩ := Int.dvd_of_emod_eq_zero h3
    have h6 : q = 0 := by
      rcases Int.lt_trichotomy q 0 with h | h | h
      · have : p * q ≤ p * -1 := Int.mul_le_mul_of_nonneg_left (by omega) (by omega)
        omega
      · exact h
      · have : p * 1 ≤ p * q := Int.mul_le_mul_of_nonneg_left (by omega) (by omega)
        omega
    rw [h6] at hq
    omega
  · have h3 := hz.2
    have q1 := gL.right
    have q2 := gM.right
    simp only [lessS, eqR, Int.one_mul] at h3 q1 q2
    obtain ⟨q, hq⟩ := Int.dvd_of_emod_eq_zero h3
    have h6 : q = 0 := by
      rcases Int.lt_trichotomy q 0 with h | h | h
      · have : p * q ≤ p * -1 := Int.mul_le_mul_of_nonneg_left (by omega) (by omega)
        omega
      · exact h
      · have : p * 1 ≤ p * q := Int.mul_le_mul_of_nonneg_left (by omega) (by omega)
        omega
    rw [h6] at hq
    omega

/-! ### What elimination leaves is so -/
theorem elim_sorted {p : Int} {U n : Nat} (hp : p = 2 ∨ p = 3) {rows : List SRow} (hg : AllG p U n rows) : ∀ u, u ≤ U → ∀ i j (hi : i < (elimE (opsS p) rows u).2.length) (hj : j < (elimE (opsS p) rows u).2.length), i < j → (elimE (opsS p) rows u).2[i] < (elimE (opsS p) rows u).2[j]
  | 0, _ => fun i j hi _ _ => absurd hi (Nat.not_lt_zero _)
  | u + 1, hu => by
    have ih := elim_sorted hp hg u (by omega)
    have hr := rref_elim hp hg u (by omega)
    have key : (elimE (opsS p) rows (u + 1)).2 = (elimE (opsS p) rows u).2 ∨ (elimE (opsS p) rows (u + 1)).2 = (elimE (opsS p) rows u).2 ++ [(u : Int)] := by
      show (stepE (opsS p) u (elimE (opsS p) rows u)).2 = _ ∨ (stepE (opsS p) u (elimE (opsS p) rows u)).2 = _
      unfold stepE
      split
      · exact .inl rfl
      · exact .inr rfl
    rcases key with e | e
    · rw [e]; exact ih
    · rw [e]
      intro i j hi hj hij
      simp only [List.length_append, List.length_cons, List.length_nil] at hi hj
      rw [List.getElem_append_left (show i < (elimE (opsS p) rows u).2.length by omega)]
      by_cases hju : j < (elimE (opsS p) rows u).2.length
      · rw [List.getElem_append_left hju]
        exact ih i j _ hju hij
      · rw [List.getElem_append_right (by omega)]
        have := (hr.bnd i _ (List.getElem?_eq_getElem (show i < (elimE (opsS p) rows u).2.length by omega))).2
        simp
        omega
theorem red_of {s : Sys} (hv : wideS s = true) (hf : ¬ 0 ≤ falseS s) : RedE s.1 s.2.1.toNat (reducedF s).2.2 (elimS s).2 := by
  have K := elimW_ok hv
  have hp := K.hp
  have hu := K.hu
  rw [reducedF_no hf]
  have hle := K.le
  have hlen := K.len
  have e0 : ∀ i : Nat, ((redTo (elimS s).1 (elimS s).2.length).map eqR)[i]? = if i < (elimS s).2.length then ((elimS s).1[i]?).map (fun r => (r.1, r.2.1, [])) else none := by
    intro i
    unfold redTo
    rw [List.map_map, List.getElem?_map]
    by_cases h : i < (elimS s).2.length
    · rw [if_pos h, List.getElem?_take_of_lt h]; rfl
    · rw [if_neg h, List.getElem?_eq_none (by simp; omega)]; rfl
  have e1 : ∀ i r, ((redTo (elimS s).1 (elimS s).2.length).map eqR)[i]? = some r → i < (elimS s).2.length ∧ ∃ q, (elimS s).1[i]? = some q ∧ r = (q.1, q.2.1, []) := by
    intro i r h
    rw [e0] at h
    split at h
    · rename_i h1
      rw [Option.map_eq_some_iff] at h
      obtain ⟨q, hq, rfl⟩ := h
      exact ⟨h1, q, hq, rfl⟩
    · cases h
  have hrl : (redTo (elimS s).1 (elimS s).2.length).length = (elimS s).2.length := redTo_length _ _ K.rref.le
  refine ⟨fun r hr => ?_, ?_, hrl.symm, ?_⟩
  · obtain ⟨i, hi⟩ := List.mem_iff_getElem?.1 hr
    obtain ⟨_, q, hq, rfl⟩ := e1 i r hi
    have g := K.good q (List.mem_iff_getElem?.2 ⟨i, hq⟩)
    exact ⟨g.len, rfl, g.res, g.right, fun a ha => by cases ha⟩
  · refine ⟨by rw [List.length_map, hrl]; exact Nat.le_refl _, K.rref.bnd, fun i r j b hr hb => ?_, fun i r hr hi => ?_, fun i r b hr hb c hc => ?_⟩
    · obtain ⟨_, q, hq, rfl⟩ := e1 i r hr
      exact K.rref.col i q j b hq hb
    · have := (e1 i r hr).1
      omega
    · obtain ⟨_, q, hq, rfl⟩ := e1 i r hr
      exact K.rref.lead i q b hq hb c hc
  · obtain ⟨p, u, l⟩ := s
    exact elim_sorted hp (sys_good (U := u.toNat) (by omega) (fun e he => by rw [show ((u.toNat : Nat) : Int) = u by simp only at hu; omega]; exact K.he e he)) _ (Nat.le_refl _)
theorem red_nil {p : Int} {U : Nat} : RedE p U [] [] :=
  ⟨fun r hr => by simp at hr, { le := Nat.le_refl _, bnd := fun j b hb => by simp at hb, col := fun i r j b hr hb => by simp at hb, low := fun i r hr _ => by simp at hr, lead := fun i r b hr hb => by simp at hb }, rfl, fun i j hi _ _ => absurd hi (Nat.not_lt_zero _)⟩
theorem allD_eqR {p : Int} {v : List Int} (hp : 0 < p) : ∀ (L : List Eqn), (∀ e, e ∈ L → 0 ≤ e.2 ∧ e.2 < p) → (allD p v (L.map eqR) ↔ L.all (holdsE p v) = true)
  | [], _ => by simp [allD]
  | e :: L, h => by
    have ih := allD_eqR (v := v) hp L (fun x hx => h x (List.mem_cons_of_mem _ hx))
    have he := h e (List.mem_cons_self ..)
    rw [List.all_cons, Bool.and_eq_true, ← ih, holds_rowD (a := e.1) (b := e.2) (y := []) hp he.1 he.2]
    constructor
    · intro hh; exact ⟨hh _ (List.mem_cons_self ..), fun r hr => hh r (List.mem_cons_of_mem _ hr)⟩
    · rintro ⟨h1, h2⟩ r hr
      rcases List.mem_cons.1 hr with rfl | hr
      · exact h1
      · exact h2 r hr
/-- A system with an answer is not contradictory. -/
theorem falseS_ans {s : Sys} (hv : wideS s = true) {v : List Int} (h : s.2.2.all (holdsE s.1 v) = true) : ¬ 0 ≤ falseS s := by
  intro hf
  rw [← reducedW_all hv, reducedF_yes hf] at h
  have hp := (elimW_ok hv).hp
  simp only [List.all_cons, List.all_nil, Bool.and_true] at h
  have h5 : dotI (List.replicate s.2.1.toNat 0) v = 0 := dot_zero _ _ (fun c hc => getD_repl0 _ _)
  simp only [holdsE, h5, decide_eq_true_eq] at h
  simp at h

end Go.Proofs.YthceklaoikeokaaGreatDoor
