import Derived.Test.YtoblfnoaepbhfaaGreatSysBQb
import Derived.Test.YtoblfnoaepbhfaaGreatSolBQb
import Derived.Test.YtoblfnoaepbhfaaGreatRowsBQb
import Derived.Test.YtoblfnoaepbhfaaGreatKeepBQb
import Derived.Test.YtoblfnoaepbhfaaGreatTmplBQb
import Derived.Test.YtoblfnoaepbhfaaGreatKindsQb
set_option linter.unusedSimpArgs false
set_option linter.unusedVariables false
namespace Go.Proofs.YtoblfnoaepbhfaaGreat
open Go.RowKit
def eqR (e : Eqn) : SRow := (e.1, e.2, [])
structure RedE (p : Int) (U : Nat) (L : List Eqn) (bs : List Int) : Prop where
  good : AllG p U 0 (L.map eqR)
  rref : Rref p U (L.map eqR) bs
  len : bs.length = L.length
  sorted : ∀ i j (hi : i < bs.length) (hj : j < bs.length), i < j → bs[i] < bs[j]
theorem false_none {L : List SRow} {d : Nat} (h : d = L.length) : ¬ 0 ≤ falseF L d := by
  unfold falseF
  rw [h, List.drop_length]
  simp
theorem dot_repl0 (n : Nat) : ∀ l : List Int, dotI l (List.replicate n 0) = 0 := by
  intro l
  unfold dotI
  induction l generalizing n with
  | nil => simp
  | cons a l ih =>
    cases n with
    | zero => simp
    | succ n => simp [List.replicate_succ, ih n]
theorem getD_repl0 (n c : Nat) : (List.replicate n (0 : Int)).getD c 0 = 0 := by simp [List.getD, List.getElem?_replicate]; split <;> rfl
theorem red_zero {p : Int} {U n : Nat} (hp : 2 ≤ p) {rows : List SRow} {bs : List Int} (hg : AllG p U n rows) (hr : Rref p U rows bs) (hl : bs.length = rows.length) {x : SRow} {m : Nat} (hx : GoodS p U m x)
    (hz : ∀ j (hj : j < bs.length), x.1.getD bs[j].toNat 0 = 0) (h : ∀ v : List Int, v.length = U → Res p v → allD p v rows → rowD p v x) : (∀ c, c < U → x.1.getD c 0 = 0) ∧ x.2.1 = 0 := by
  have hf : ¬ 0 ≤ falseF rows bs.length := false_none hl
  have key : ∀ t : List Int, t.length = U → Res p t → (∀ j (hj : j < bs.length), t.getD bs[j].toNat 0 = 0) → p ∣ dotI x.1 t - x.2.1 := by
    intro t ht hrt h0
    have h1 := h _ (by rw [fixTo_len]; exact ht) (fixTo_res (by omega) _ _ _ hrt _) (fix_all (by omega) hg hr hf ht h0)
    unfold rowD at h1
    rw [fix_same hr ht h0 _ hz] at h1
    exact h1
  have k0 := key (List.replicate U 0) (by simp) (fun a ha => by have := List.eq_of_mem_replicate ha; omega) (fun j _ => getD_repl0 _ _)
  rw [dot_repl0] at k0
  have hr2 : x.2.1 = 0 := by
    obtain ⟨q, hq⟩ := k0
    have h6 : x.2.1 % p = 0 := by rw [show x.2.1 = p * -q by rw [Int.mul_neg]; omega]; exact Int.mul_emod_right _ _
    rwa [Int.emod_eq_of_lt hx.right.1 hx.right.2] at h6
  refine ⟨fun c hcU => ?_, hr2⟩
  by_cases hb : ∃ j, ∃ hj : j < bs.length, bs[j].toNat = c
  · obtain ⟨j, hj, e1⟩ := hb
    rw [← e1]; exact hz j hj
  · have k1 := key ((List.replicate U 0).set c 1) (by simp) (fun a ha => by
      rcases List.mem_or_eq_of_mem_set ha with h1 | h1
      · have := List.eq_of_mem_replicate h1; omega
      · omega) (fun j hj => by
        have hne : c ≠ bs[j].toNat := fun e1 => hb ⟨j, hj, e1.symm⟩
        simp only [List.getD, List.getElem?_set_ne hne]
        exact getD_repl0 _ _)
    rw [dot_set _ _ _ _ (by simpa using hcU), dot_repl0, getD_repl0, hr2] at k1
    obtain ⟨q, hq⟩ := k1
    have hres := getD_res hx.res c (by rw [hx.len]; exact hcU)
    have h6 : x.1.getD c 0 % p = 0 := by rw [show x.1.getD c 0 = p * q by omega]; exact Int.mul_emod_right _ _
    rwa [Int.emod_eq_of_lt hres.1 hres.2] at h6
theorem dot_congr : ∀ (l v v' : List Int), v.length = v'.length → (∀ c, l.getD c 0 = 0 ∨ v.getD c 0 = v'.getD c 0) → dotI l v = dotI l v'
  | [], v, v', _, _ => by simp [dotI]
  | a :: l, [], [], _, _ => rfl
  | a :: l, [], b :: v', h, _ => by simp at h
  | a :: l, b :: v, [], h, _ => by simp at h
  | a :: l, b :: v, b' :: v', h, hc => by
    have ih := dot_congr l v v' (by simpa using h) (fun c => by have := hc (c + 1); simpa using this)
    have h0 := hc 0
    simp only [List.getD_cons_zero] at h0
    rw [dotI_cons, dotI_cons, ih]
    rcases h0 with h0 | h0
    · rw [h0]; simp
    · rw [h0]
theorem red_det {p : Int} {U n : Nat} (hp : 2 ≤ p) {rows : List SRow} {bs : List Int} (hg : AllG p U n rows) (hr : Rref p U rows bs) {j : Nat} (hj : j < bs.length) {v v' : List Int} (hv : v.length = U) (hv' : v'.length = U) (rv : Res p v) (rv' : Res p v')
    (dv : allD p v rows) (dv' : allD p v' rows) (hs : ∀ c : Nat, (bs[j] : Int) < (c : Int) → v.getD c 0 = v'.getD c 0) : v.getD bs[j].toNat 0 = v'.getD bs[j].toNat 0 := by
  have hjr : j < rows.length := by have := hr.le; omega
  have hb := hr.bnd j _ (List.getElem?_eq_getElem hj)
  have h1 := dv _ (List.getElem_mem hjr)
  have h2 := dv' _ (List.getElem_mem hjr)
  have hc := hr.col j _ j _ (List.getElem?_eq_getElem hjr) (List.getElem?_eq_getElem hj)
  rw [if_pos rfl] at hc
  have hlead := hr.lead j _ _ (List.getElem?_eq_getElem hjr) (List.getElem?_eq_getElem hj)
  have hU : bs[j].toNat < U := by omega
  have e := dot_set rows[j].1 v' bs[j].toNat (v.getD bs[j].toNat 0) (by rw [hv']; exact hU)
  have e2 : dotI rows[j].1 v = dotI rows[j].1 (v'.set bs[j].toNat (v.getD bs[j].toNat 0)) := by
    refine dot_congr _ _ _ (by simp [hv, hv']) (fun c => ?_)
    by_cases hcb : c < bs[j].toNat
    · exact .inl (hlead c (by omega))
    · right
      by_cases hcb2 : bs[j].toNat = c
      · subst hcb2
        simp only [List.getD, List.getElem?_set, hv', hU, if_true, Option.getD_some]
      · rw [hs c (by omega)]
        simp only [List.getD, List.getElem?_set_ne hcb2]
  rw [hc, Int.one_mul] at e
  unfold rowD at h1 h2
  have h3 := Int.dvd_sub h1 h2
  rw [e2, e] at h3
  have r1 := getD_res rv bs[j].toNat (by rw [hv]; exact hU)
  have r2 := getD_res rv' bs[j].toNat (by rw [hv']; exact hU)
  obtain ⟨q, hq⟩ := h3
  have h5 : v.getD bs[j].toNat 0 - v'.getD bs[j].toNat 0 = p * q := by omega
  have h6 : q = 0 := by
    rcases Int.lt_trichotomy q 0 with h | h | h
    · have : p * q ≤ p * -1 := Int.mul_le_mul_of_nonneg_left (by omega) (by omega)
      omega
    · exact h
    · have : p * 1 ≤ p * q := Int.mul_le_mul_of_nonneg_left (by omega) (by omega)
      omega
  rw [h6] at h5
  omega
theorem fixTo_free {p : Int} {U : Nat} {rows : List SRow} {bs t : List Int} (h : Rref p U rows bs) (ht : t.length = U) {c : Nat} (hc : ∀ j (hj : j < bs.length), bs[j].toNat ≠ c) : ∀ j, j ≤ bs.length → (fixTo p rows bs t j).getD c 0 = t.getD c 0
  | 0, _ => rfl
  | j + 1, hj => by
    have hjb : j < bs.length := by omega
    have e : bs.getD j 0 = bs[j] := by simp [List.getD, hjb]
    rw [fixTo, e]
    simp only [List.getD, List.getElem?_set_ne (hc j hjb)]
    simpa [List.getD] using fixTo_free h ht hc j (by omega)
theorem fixTo_piv {p : Int} {U : Nat} {rows : List SRow} {bs t : List Int} (h : Rref p U rows bs) (ht : t.length = U) {k : Nat} (hk : k < bs.length) : ∀ j, k < j → j ≤ bs.length → (fixTo p rows bs t j).getD bs[k].toNat 0 = ((rows.getD k row0).2.1 - dotI (rows.getD k row0).1 t) % p
  | 0, h0, _ => absurd h0 (Nat.not_lt_zero _)
  | j + 1, hkj, hj => by
    have hjb : j < bs.length := by omega
    have e : bs.getD j 0 = bs[j] := by simp [List.getD, hjb]
    have b1 := h.bnd j _ (List.getElem?_eq_getElem hjb)
    have b2 := h.bnd k _ (List.getElem?_eq_getElem hk)
    rw [fixTo, e]
    by_cases hjk : j = k
    · subst hjk
      simp only [List.getD, List.getElem?_set, fixTo_len, ht, show bs[j].toNat < U by omega, if_true, Option.getD_some]
    · have hne : bs[j].toNat ≠ bs[k].toNat := by have := bs_ne h hjb hk hjk; omega
      simp only [List.getD, List.getElem?_set_ne hne]
      simpa [List.getD] using fixTo_piv h ht hk j (by omega) (by omega)
theorem red_free {p : Int} {U n : Nat} (hp : 2 ≤ p) {rows : List SRow} {bs : List Int} (hg : AllG p U n rows) (hr : Rref p U rows bs) (hl : bs.length = rows.length) {c : Nat} (hcU : c < U) (hc : ∀ j (hj : j < bs.length), bs[j].toNat ≠ c) :
    ∃ v v' : List Int, v.length = U ∧ v'.length = U ∧ Res p v ∧ Res p v' ∧ allD p v rows ∧ allD p v' rows ∧ (∀ d, c < d → v.getD d 0 = v'.getD d 0) ∧ v.getD c 0 ≠ v'.getD c 0 := by
  have hf : ¬ 0 ≤ falseF rows bs.length := false_none hl
  have l0 : (List.replicate U (0 : Int)).length = U := by simp
  have l1 : ((List.replicate U (0 : Int)).set c 1).length = U := by simp
  have r0 : Res p (List.replicate U (0 : Int)) := fun a ha => by have := List.eq_of_mem_replicate ha; omega
  have r1 : Res p ((List.replicate U (0 : Int)).set c 1) := fun a ha => by
    rcases List.mem_or_eq_of_mem_set ha with h1 | h1
    · have := List.eq_of_mem_replicate h1; omega
    · omega
  have z0 : ∀ j (hj : j < bs.length), (List.replicate U (0 : Int)).getD bs[j].toNat 0 = 0 := fun j _ => getD_repl0 _ _
  have z1 : ∀ j (hj : j < bs.length), ((List.replicate U (0 : Int)).set c 1).getD bs[j].toNat 0 = 0 := fun j hj => by
    simp only [List.getD, List.getElem?_set_ne (hc j hj).symm]
    exact getD_repl0 _ _
  refine ⟨_, _, by rw [fixTo_len]; exact l0, by rw [fixTo_len]; exact l1, fixTo_res (by omega) rows bs _ r0 bs.length, fixTo_res (by omega) rows bs _ r1 bs.length, fix_all (by omega) hg hr hf l0 z0, fix_all (by omega) hg hr hf l1 z1, fun d hd => ?_, ?_⟩
  · by_cases hb : ∃ j, ∃ hj : j < bs.length, bs[j].toNat = d
    · obtain ⟨j, hj, rfl⟩ := hb
      rw [fixTo_piv hr l0 hj _ hj (Nat.le_refl _), fixTo_piv hr l1 hj _ hj (Nat.le_refl _)]
      have hjr : j < rows.length := by omega
      have er : rows.getD j row0 = rows[j] := by simp [List.getD, hjr]
      have hlead := hr.lead j _ _ (List.getElem?_eq_getElem hjr) (List.getElem?_eq_getElem hj) c (by omega)
      rw [er, dot_set _ _ _ _ (by simpa using hcU), hlead, Int.zero_mul, Int.add_zero]
    · have hfd : ∀ j (hj : j < bs.length), bs[j].toNat ≠ d := fun j hj e => hb ⟨j, hj, e⟩
      rw [fixTo_free hr l0 hfd _ (Nat.le_refl _), fixTo_free hr l1 hfd _ (Nat.le_refl _)]
      simp only [List.getD, List.getElem?_set_ne (Nat.ne_of_lt hd)]
  · rw [fixTo_free hr l0 hc _ (Nat.le_refl _), fixTo_free hr l1 hc _ (Nat.le_refl _), getD_repl0]
    simp only [List.getD, List.getElem?_set, List.length_replicate, hcU, if_true, Option.getD_some]
    decide
theorem sorted_same : ∀ (a b : List Int), (∀ i j (hi : i < a.length) (hj : j < a.length), i < j → a[i] < a[j]) → (∀ i j (hi : i < b.length) (hj : j < b.length), i < j → b[i] < b[j]) → (∀ x, x ∈ a ↔ x ∈ b) → a = b
  | [], [], _, _, _ => rfl
  | [], y :: b, _, _, h => by have := (h y).2 (by simp); cases this
  | x :: a, [], _, _, h => by have := (h x).1 (by simp); cases this
  | x :: a, y :: b, ha, hb, h => by
    have xa : ∀ z, z ∈ a → x < z := fun z hz => by
      obtain ⟨i, hi, rfl⟩ := List.getElem_of_mem hz
      exact ha 0 (i + 1) (by simp) (by simpa using hi) (by omega)
    have yb : ∀ z, z ∈ b → y < z := fun z hz => by
      obtain ⟨i, hi, rfl⟩ := List.getElem_of_mem hz
      exact hb 0 (i + 1) (by simp) (by simpa using hi) (by omega)
    have h1 : x = y := by
      rcases List.mem_cons.1 ((h x).1 (by simp)) with e | e
      · exact e
      · rcases List.mem_cons.1 ((h y).2 (by simp)) with e2 | e2
        · exact e2.symm
        · have := xa y e2; have := yb x e; omega
    subst h1
    congr 1
    refine sorted_same a b (fun i j hi hj hij => ha (i + 1) (j + 1) (by simpa using hi) (by simpa using hj) (by omega)) (fun i j hi hj hij => hb (i + 1) (j + 1) (by simpa using hi) (by simpa using hj) (by omega)) (fun z => ?_)
    constructor
    · intro hz
      rcases List.mem_cons.1 ((h z).1 (List.mem_cons_of_mem _ hz)) with e | e
      · have := xa z hz; omega
      · exact e
    · intro hz
      rcases List.mem_cons.1 ((h z).2 (List.mem_cons_of_mem _ hz)) with e | e
      · have := yb z hz; omega
      · exact e
theorem red_same {p : Int} {U : Nat} (hp : 2 ≤ p) {L M : List Eqn} {bs cs : List Int} (hL : RedE p U L bs) (hM : RedE p U M cs) (h : ∀ v : List Int, v.length = U → Res p v → (allD p v (L.map eqR) ↔ allD p v (M.map eqR))) : L = M := by
  have lL : bs.length = (L.map eqR).length := by simpa using hL.len
  have lM : cs.length = (M.map eqR).length := by simpa using hM.len
  have key : ∀ {L M : List Eqn} {bs cs : List Int}, RedE p U L bs → RedE p U M cs → (∀ v : List Int, v.length = U → Res p v → (allD p v (L.map eqR) ↔ allD p v (M.map eqR))) → ∀ x, x ∈ bs → x ∈ cs := by
    intro L M bs cs hL hM h x hx
    obtain ⟨j, hj, rfl⟩ := List.getElem_of_mem hx
    have hb := hL.rref.bnd j _ (List.getElem?_eq_getElem hj)
    by_cases hc : ∃ k, ∃ hk : k < cs.length, cs[k].toNat = bs[j].toNat
    · obtain ⟨k, hk, e⟩ := hc
      have hb2 := hM.rref.bnd k _ (List.getElem?_eq_getElem hk)
      have : cs[k] = bs[j] := by omega
      rw [← this]
      exact List.getElem_mem hk
    · obtain ⟨v, v', h1, h2, h3, h4, h5, h6, h7, h8⟩ := red_free hp hM.good hM.rref (by simpa using hM.len) (c := bs[j].toNat) (by omega) (fun k hk e => hc ⟨k, hk, e⟩)
      exact absurd (red_det hp hL.good hL.rref hj h1 h2 h3 h4 ((h v h1 h3).2 h5) ((h v' h2 h4).2 h6) (fun c hc => h7 c (by omega))) h8
  have hbc : bs = cs := sorted_same _ _ hL.sorted hM.sorted (fun x => ⟨key hL hM h x, key hM hL (fun v a b => (h v a b).symm) x⟩)
  subst hbc
  have hlen : L.length = M.length := by rw [← hL.len, ← hM.len]
  refine List.ext_getElem hlen (fun i hi hi2 => ?_)
  have hib : i < bs.length := by rw [hL.len]; exact hi
  have eL : (L.map eqR)[i]'(by simpa using hi) = eqR L[i] := by simp
  have eM : (M.map eqR)[i]'(by simpa using hi2) = eqR M[i] := by simp
  have gL : GoodS p U 0 (eqR L[i]) := hL.good _ (List.mem_map.2 ⟨_, List.getElem_mem hi, rfl⟩)
  have gM : GoodS p U 0 (eqR M[i]) := hM.good _ (List.mem_map.2 ⟨_, List.getElem_mem hi2, rfl⟩)
  have gx := goodS_less (p := p) (by omega) 1 gL gM
  have hz := red_zero hp hL.good hL.rref (by simpa using hL.len) gx (fun j hj => by
    have hb := hL.rref.bnd j _ (List.getElem?_eq_getElem hj)
    have c1 := hL.rref.col i _ j _ (List.getElem?_eq_getElem (by simpa using hi)) (List.getElem?_eq_getElem hj)
    have c2 := hM.rref.col i _ j _ (List.getElem?_eq_getElem (by simpa using hi2)) (List.getElem?_eq_getElem hj)
    rw [eL] at c1
    rw [eM] at c2
    show (lessL p 1 (eqR L[i]).1 (eqR M[i]).1).getD _ 0 = 0
    rw [show lessL p = fun k l m => List.zipWith (fun a b => (a - k * b) % p) l m from rfl]
    simp only
    rw [getD_zip _ _ _ _ (by rw [gL.len]; omega) (by rw [gM.len]; omega), c1, c2]
    split <;> rfl) (fun v h1 h2 h3 => by
      have d1 := h3 _ (List.mem_map.2 ⟨_, List.getElem_mem hi, rfl⟩)
      have d2 := (h v h1 h2).1 h3 _ (List.mem_map.2 ⟨_, List.getElem_mem hi2, rfl⟩)
      exact (rowD_less 1 gL gM d2).2 d1)
  show L[i] = M[i]
  have gLl : L[i].1.length = U := gL.len
  have gMl : M[i].1.length = U := gM.len
  refine Prod.ext (List.ext_getElem (by rw [gLl, gMl]) (fun c h1 h2 => ?_)) ?_
  · have hcU : c < U := by omega
    have h3 := hz.1 c hcU
    rw [show (lessS p 1 (eqR L[i]) (eqR M[i])).1 = List.zipWith (fun a b => (a - 1 * b) % p) (eqR L[i]).1 (eqR M[i]).1 from rfl, getD_zip _ _ _ _ (by rw [gL.len]; exact hcU) (by rw [gM.len]; exact hcU)] at h3
    have q1 := gL.res.get c (by rw [gL.len]; exact hcU)
    have q2 := gM.res.get c (by rw [gM.len]; exact hcU)
    simp only [eqR, List.getD, List.getElem?_eq_getElem h1, List.getElem?_eq_getElem h2, Option.getD_some, Int.one_mul] at h3 q1 q2
    obtain ⟨q, hq⟩ := Int.dvd_of_emod_eq_zero h3
    have h6 : q = 0 := by
      rcases Int.lt_trichotomy q 0 with h | h | h
      · have : p * q ≤ p * -1 := Int.mul_le_mul_of_nonneg_left (by omega) (by omega)
        omega
      · exact h
      · have : p * 1 ≤ p * q := Int.mul_le_mul_of_nonneg_left (by omega) (by omega)
        omega
    rw [h6] at hq
    omega
  · have h3 := hz.2
    have q1 := gL.right
    have q2 := gM.right
    simp only [lessS, eqR, Int.one_mul] at h3 q1 q2
    obtain ⟨q, hq⟩ := Int.dvd_of_emod_eq_zero h3
    have h6 : q = 0 := by
      rcases Int.lt_trichotomy q 0 with h | h | h
      · have : p * q ≤ p * -1 := Int.mul_le_mul_of_nonneg_left (by omega) (by omega)
        omega
      · exact h
      · have : p * 1 ≤ p * q := Int.mul_le_mul_of_nonneg_left (by omega) (by omega)
        omega
    rw [h6] at hq
    omega
theorem elim_sorted {p : Int} {U n : Nat} (hp : p = 2 ∨ p = 3) {rows : List SRow} (hg : AllG p U n rows) : ∀ u, u ≤ U → ∀ i j (hi : i < (elimE (opsS p) rows u).2.length) (hj : j < (elimE (opsS p) rows u).2.length), i < j → (elimE (opsS p) rows u).2[i] < (elimE (opsS p) rows u).2[j]
  | 0, _ => fun i j hi _ _ => absurd hi (Nat.not_lt_zero _)
  | u + 1, hu => by
    have ih := elim_sorted hp hg u (by omega)
    have hr := rref_elim hp hg u (by omega)
    have key : (elimE (opsS p) rows (u + 1)).2 = (elimE (opsS p) rows u).2 ∨ (elimE (opsS p) rows (u + 1)).2 = (elimE (opsS p) rows u).2 ++ [(u : Int)] := by
      show (stepE (opsS p) u (elimE (opsS p) rows u)).2 = _ ∨ (stepE (opsS p) u (elimE (opsS p) rows u)).2 = _
      unfold stepE
      split
      · exact .inl rfl
      · exact .inr rfl
    rcases key with e | e
    · rw [e]; exact ih
    · rw [e]
      intro i j hi hj hij
      simp only [List.length_append, List.length_cons, List.length_nil] at hi hj
      rw [List.getElem_append_left (show i < (elimE (opsS p) rows u).2.length by omega)]
      by_cases hju : j < (elimE (opsS p) rows u).2.length
      · rw [List.getElem_append_left hju]
        exact ih i j _ hju hij
      · rw [List.getElem_append_right (by omega)]
        have := (hr.bnd i _ (List.getElem?_eq_getElem (show i < (elimE (opsS p) rows u).2.length by omega))).2
        simp
        omega
theorem red_of {s : Sys} (hv : wideS s = true) (hf : ¬ 0 ≤ falseS s) : RedE s.1 s.2.1.toNat (reducedF s).2.2 (elimS s).2 := by
  have K := elimW_ok hv
  have hp := K.hp
  have hu := K.hu
  rw [reducedF_no hf]
  have hle := K.le
  have hlen := K.len
  have e0 : ∀ i : Nat, ((redTo (elimS s).1 (elimS s).2.length).map eqR)[i]? = if i < (elimS s).2.length then ((elimS s).1[i]?).map (fun r => (r.1, r.2.1, [])) else none := by
    intro i
    unfold redTo
    rw [List.map_map, List.getElem?_map]
    by_cases h : i < (elimS s).2.length
    · rw [if_pos h, List.getElem?_take_of_lt h]; rfl
    · rw [if_neg h, List.getElem?_eq_none (by simp; omega)]; rfl
  have e1 : ∀ i r, ((redTo (elimS s).1 (elimS s).2.length).map eqR)[i]? = some r → i < (elimS s).2.length ∧ ∃ q, (elimS s).1[i]? = some q ∧ r = (q.1, q.2.1, []) := by
    intro i r h
    rw [e0] at h
    split at h
    · rename_i h1
      rw [Option.map_eq_some_iff] at h
      obtain ⟨q, hq, rfl⟩ := h
      exact ⟨h1, q, hq, rfl⟩
    · cases h
  have hrl : (redTo (elimS s).1 (elimS s).2.length).length = (elimS s).2.length := redTo_length _ _ K.rref.le
  refine ⟨fun r hr => ?_, ?_, hrl.symm, ?_⟩
  · obtain ⟨i, hi⟩ := List.mem_iff_getElem?.1 hr
    obtain ⟨_, q, hq, rfl⟩ := e1 i r hi
    have g := K.good q (List.mem_iff_getElem?.2 ⟨i, hq⟩)
    exact ⟨g.len, rfl, g.res, g.right, fun a ha => by cases ha⟩
  · refine ⟨by rw [List.length_map, hrl]; exact Nat.le_refl _, K.rref.bnd, fun i r j b hr hb => ?_, fun i r hr hi => ?_, fun i r b hr hb c hc => ?_⟩
    · obtain ⟨_, q, hq, rfl⟩ := e1 i r hr
      exact K.rref.col i q j b hq hb
    · have := (e1 i r hr).1
      omega
    · obtain ⟨_, q, hq, rfl⟩ := e1 i r hr
      exact K.rref.lead i q b hq hb c hc
  · obtain ⟨p, u, l⟩ := s
    exact elim_sorted hp (sys_good (U := u.toNat) (by omega) (fun e he => by rw [show ((u.toNat : Nat) : Int) = u by simp only at hu; omega]; exact K.he e he)) _ (Nat.le_refl _)
theorem red_nil {p : Int} {U : Nat} : RedE p U [] [] :=
  ⟨fun r hr => by simp at hr, { le := Nat.le_refl _, bnd := fun j b hb => by simp at hb, col := fun i r j b hr hb => by simp at hb, low := fun i r hr _ => by simp at hr, lead := fun i r b hr hb => by simp at hb }, rfl, fun i j hi _ _ => absurd hi (Nat.not_lt_zero _)⟩
theorem allD_eqR {p : Int} {v : List Int} (hp : 0 < p) : ∀ (L : List Eqn), (∀ e, e ∈ L → 0 ≤ e.2 ∧ e.2 < p) → (allD p v (L.map eqR) ↔ L.all (holdsE p v) = true)
  | [], _ => by simp [allD]
  | e :: L, h => by
    have ih := allD_eqR (v := v) hp L (fun x hx => h x (List.mem_cons_of_mem _ hx))
    have he := h e (List.mem_cons_self ..)
    rw [List.all_cons, Bool.and_eq_true, ← ih, holds_rowD (a := e.1) (b := e.2) (y := []) hp he.1 he.2]
    constructor
    · intro hh; exact ⟨hh _ (List.mem_cons_self ..), fun r hr => hh r (List.mem_cons_of_mem _ hr)⟩
    · rintro ⟨h1, h2⟩ r hr
      rcases List.mem_cons.1 hr with rfl | hr
      · exact h1
      · exact h2 r hr
theorem falseS_ans {s : Sys} (hv : wideS s = true) {v : List Int} (h : s.2.2.all (holdsE s.1 v) = true) : ¬ 0 ≤ falseS s := by
  intro hf
  rw [← reducedW_all hv, reducedF_yes hf] at h
  have hp := (elimW_ok hv).hp
  simp only [List.all_cons, List.all_nil, Bool.and_true] at h
  have h5 : dotI (List.replicate s.2.1.toNat 0) v = 0 := dot_zero _ _ (fun c hc => getD_repl0 _ _)
  simp only [holdsE, h5, decide_eq_true_eq] at h
  simp at h
end Go.Proofs.YtoblfnoaepbhfaaGreat
namespace Go.Proofs.YtoblfnoaepbhfaaGreat
open Go.RowKit
def holdA (p : Int) (ts : List (List Int)) (e : Eqn) : Bool := ts.all (fun t => holdsE p t e)
def eqAt (p : Int) (a i : Nat) : Eqn := (digs p a ((i : Int) / p), (i : Int) % p)
def allE (p : Int) (a : Nat) (ts : List (List Int)) (k : Nat) : List Eqn := ((List.range k).map (eqAt p a)).filter (holdA p ts)
theorem allE_yes {p : Int} {a : Nat} {ts : List (List Int)} {k : Nat} (h : holdA p ts (eqAt p a k) = true) : allE p a ts (k + 1) = allE p a ts k ++ [eqAt p a k] := by
  unfold allE
  rw [List.range_succ, List.map_append, List.filter_append]
  simp [h]
theorem allE_no {p : Int} {a : Nat} {ts : List (List Int)} {k : Nat} (h : holdA p ts (eqAt p a k) = false) : allE p a ts (k + 1) = allE p a ts k := by
  unfold allE
  rw [List.range_succ, List.map_append, List.filter_append]
  simp [h]
theorem allE_len (p : Int) (a : Nat) (ts : List (List Int)) (k : Nat) : (allE p a ts k).length ≤ k := by
  unfold allE
  refine Nat.le_trans (List.length_filter_le _ _) ?_
  simp
def eqS (p : Int) (a : Nat) (ts : List (List Int)) (n : Nat) : Eqn := (digs p a (n : Int), dotI (digs p a (n : Int)) (ts.getD 0 []) % p)
def ofTo (p : Int) (a : Nat) (ts : List (List Int)) : Nat → List Eqn
  | 0 => []
  | k + 1 => if holdA p ts (eqS p a ts (k + 1)) = true then (reducedF (p, (a : Int), ofTo p a ts k ++ [eqS p a ts (k + 1)])).2.2 else ofTo p a ts k
theorem ofTo_yes {p : Int} {a : Nat} {ts : List (List Int)} {k : Nat} (h : holdA p ts (eqS p a ts (k + 1)) = true) : reducedF (p, (a : Int), ofTo p a ts k ++ [eqS p a ts (k + 1)]) = (p, (a : Int), ofTo p a ts (k + 1)) := by
  rw [ofTo, if_pos h]
  unfold reducedF
  rfl
theorem ofTo_no {p : Int} {a : Nat} {ts : List (List Int)} {k : Nat} (h : holdA p ts (eqS p a ts (k + 1)) = false) : ofTo p a ts (k + 1) = ofTo p a ts k := by
  rw [ofTo, if_neg (by rw [h]; decide)]
theorem eqnOk_mk {p : Int} {U : Nat} {l : List Int} {b : Int} (h1 : l.length = U) (h2 : Res p l) (h3 : 0 ≤ b ∧ b < p) : eqnOk p (U : Int) (l, b) = true := by
  unfold eqnOk valsOk
  simp only [Bool.and_eq_true, decide_eq_true_eq, List.all_eq_true]
  exact ⟨⟨by rw [h1], fun c hc => inB_mk (by have := h2 c hc; omega)⟩, inB_mk (by omega)⟩
theorem eqAt_ok {p : Int} (hp : 2 ≤ p) (a i : Nat) : eqnOk p (a : Int) (eqAt p a i) = true :=
  eqnOk_mk (by simp) (digs_mem p (by omega) a _) ⟨Int.emod_nonneg _ (by omega), Int.emod_lt_of_pos _ (by omega)⟩
theorem eqS_ok {p : Int} (hp : 2 ≤ p) (a : Nat) (ts : List (List Int)) (n : Nat) : eqnOk p (a : Int) (eqS p a ts n) = true :=
  eqnOk_mk (by simp) (digs_mem p (by omega) a _) ⟨Int.emod_nonneg _ (by omega), Int.emod_lt_of_pos _ (by omega)⟩
theorem allE_ok {p : Int} (hp : 2 ≤ p) (a : Nat) (ts : List (List Int)) (k : Nat) : ∀ e, e ∈ allE p a ts k → eqnOk p (a : Int) e = true := by
  intro e he
  unfold allE at he
  obtain ⟨h1, _⟩ := List.mem_filter.1 he
  obtain ⟨i, _, rfl⟩ := List.mem_map.1 h1
  exact eqAt_ok hp a i
theorem isPr_mk {p : Int} (h : p = 2 ∨ p = 3) : isPr p = true := by rcases h with rfl | rfl <;> decide
theorem wideS_mk {p : Int} {U : Nat} {l : List Eqn} (hp : p = 2 ∨ p = 3) (hU : 1 ≤ U ∧ U ≤ 12) (hl : l.length ≤ 1000) (he : ∀ e, e ∈ l → eqnOk p (U : Int) e = true) : wideS (p, (U : Int), l) = true := by
  simp only [wideS, Bool.and_eq_true, decide_eq_true_eq, List.all_eq_true]
  exact ⟨⟨⟨isPr_mk hp, inB_mk (by omega)⟩, hl⟩, he⟩
theorem validS_mk {p : Int} {U : Nat} {l : List Eqn} (hp : p = 2 ∨ p = 3) (hU : 1 ≤ U ∧ U ≤ 12) (hl : l.length ≤ 24) (he : ∀ e, e ∈ l → eqnOk p (U : Int) e = true) : validS (p, (U : Int), l) = true := by
  simp only [validS, Bool.and_eq_true, decide_eq_true_eq, List.all_eq_true]
  exact ⟨⟨⟨isPr_mk hp, inB_mk (by omega)⟩, hl⟩, he⟩
theorem redE_ok {p : Int} {U : Nat} {L : List Eqn} {bs : List Int} (h : RedE p U L bs) : ∀ e, e ∈ L → eqnOk p (U : Int) e = true := by
  intro e he
  have g := h.good _ (List.mem_map.2 ⟨e, he, rfl⟩)
  exact eqnOk_mk g.len g.res g.right
theorem redE_len {p : Int} {U : Nat} {L : List Eqn} {bs : List Int} (h : RedE p U L bs) : L.length ≤ U := by
  have key : ∀ i (hi : i < bs.length), (i : Int) ≤ bs[i] := by
    intro i
    induction i with
    | zero => intro hi; exact (h.rref.bnd 0 _ (List.getElem?_eq_getElem hi)).1
    | succ i ih =>
      intro hi
      have h1 := ih (by omega)
      have h2 := h.sorted i (i + 1) (by omega) hi (by omega)
      omega
  rw [← h.len]
  rcases Nat.eq_zero_or_pos bs.length with h0 | h0
  · omega
  · have h1 := key (bs.length - 1) (by omega)
    have h2 := (h.rref.bnd (bs.length - 1) _ (List.getElem?_eq_getElem (by omega))).2
    omega
theorem allD_of {p : Int} {U : Nat} {L : List Eqn} {bs : List Int} (h : RedE p U L bs) (hp : 2 ≤ p) (v : List Int) : allD p v (L.map eqR) ↔ L.all (holdsE p v) = true :=
  allD_eqR (by omega) L (fun e he => (h.good _ (List.mem_map.2 ⟨e, he, rfl⟩)).right)
structure OfOk (p : Int) (a : Nat) (ts : List (List Int)) (k : Nat) : Prop where
  red : ∃ bs, RedE p a (ofTo p a ts k) bs
  ans : ∀ v : List Int, (ofTo p a ts k).all (holdsE p v) = true ↔ ∀ n, 1 ≤ n → n ≤ k → holdA p ts (eqS p a ts n) = true → holdsE p v (eqS p a ts n) = true
theorem OfOk.len {p : Int} {a : Nat} {ts : List (List Int)} {k : Nat} (h : OfOk p a ts k) : (ofTo p a ts k).length ≤ a := h.red.elim (fun _ h => redE_len h)
theorem OfOk.ok {p : Int} {a : Nat} {ts : List (List Int)} {k : Nat} (h : OfOk p a ts k) : ∀ e, e ∈ ofTo p a ts k → eqnOk p (a : Int) e = true := h.red.elim (fun _ h => redE_ok h)
theorem OfOk.snoc {p : Int} {a : Nat} {ts : List (List Int)} {k : Nat} (h : OfOk p a ts k) (hp : p = 2 ∨ p = 3) (n : Nat) : ∀ e, e ∈ ofTo p a ts k ++ [eqS p a ts n] → eqnOk p (a : Int) e = true := by
  intro e he
  rcases List.mem_append.1 he with h1 | h1
  · exact h.ok e h1
  · simp only [List.mem_cons, List.not_mem_nil, or_false] at h1
    subst h1
    exact eqS_ok (by omega) a ts n
theorem ofTo_ok {p : Int} {a : Nat} {ts : List (List Int)} (hp : p = 2 ∨ p = 3) (ha : 1 ≤ a ∧ a ≤ 4) (hts : 0 < ts.length) : ∀ k, OfOk p a ts k
  | 0 => ⟨⟨[], red_nil⟩, fun v => by simp only [ofTo, List.all_nil, true_iff]; intro n h1 h2; omega⟩
  | k + 1 => by
    have ih := ofTo_ok hp ha hts k
    cases h : holdA p ts (eqS p a ts (k + 1)) with
    | false =>
      refine ⟨by rw [ofTo_no h]; exact ih.red, fun v => ?_⟩
      rw [ofTo_no h, ih.ans v]
      constructor
      · intro hh n h1 h2 h3
        by_cases hn : n = k + 1
        · subst hn; rw [h] at h3; cases h3
        · exact hh n h1 (by omega) h3
      · intro hh n h1 h2 h3
        exact hh n h1 (by omega) h3
    | true =>
      have hw := wideS_mk (p := p) (U := a) (l := ofTo p a ts k ++ [eqS p a ts (k + 1)]) hp (by omega) (by have := ih.len; simp; omega) (ih.snoc hp _)
      have e := ofTo_yes h
      have hall : ∀ v : List Int, (ofTo p a ts (k + 1)).all (holdsE p v) = true ↔ ∀ n, 1 ≤ n → n ≤ k + 1 → holdA p ts (eqS p a ts n) = true → holdsE p v (eqS p a ts n) = true := by
        intro v
        have h1 := reducedW_all hw v
        rw [e] at h1
        simp only at h1
        rw [h1, List.all_append, Bool.and_eq_true, ih.ans v]
        simp only [List.all_cons, List.all_nil, Bool.and_true]
        constructor
        · rintro ⟨h2, h3⟩ n h4 h5 h6
          by_cases hn : n = k + 1
          · subst hn; exact h3
          · exact h2 n h4 (by omega) h6
        · intro h2
          exact ⟨fun n h4 h5 h6 => h2 n h4 (by omega) h6, h2 (k + 1) (by omega) (Nat.le_refl _) h⟩
      refine ⟨?_, hall⟩
      have hf : ¬ 0 ≤ falseS (p, (a : Int), ofTo p a ts k ++ [eqS p a ts (k + 1)]) := by
        refine falseS_ans hw (v := ts[0]) ?_
        have h1 := reducedW_all hw ts[0]
        rw [← h1, e]
        simp only
        rw [hall]
        intro n _ _ h6
        unfold holdA at h6
        rw [List.all_eq_true] at h6
        exact h6 _ (List.getElem_mem hts)
      have hr := red_of hw hf
      rw [e] at hr
      exact ⟨_, by simpa using hr⟩
theorem digs_zero (p : Int) : ∀ a, digs p a 0 = List.replicate a 0
  | 0 => rfl
  | a + 1 => by rw [digs, Int.zero_ediv, digs_zero p a, Int.zero_emod]; exact List.replicate_succ'.symm
theorem of_same {p : Int} {a N : Nat} {ts : List (List Int)} (hp : p = 2 ∨ p = 3) (ha : 1 ≤ a ∧ a ≤ 4) (hts : 0 < ts.length) (hN : p ^ a = ((N + 1 : Nat) : Int)) (hN2 : N ≤ 80) :
    reducedF (p, (a : Int), allE p a ts ((N + 1) * p.toNat)) = (p, (a : Int), ofTo p a ts N) := by
  have hk := ofTo_ok hp ha hts N
  have hlen := allE_len p a ts ((N + 1) * p.toNat)
  have hb : (N + 1) * p.toNat ≤ 81 * 3 := Nat.mul_le_mul (by omega) (by omega)
  have hw := wideS_mk (p := p) (U := a) (l := allE p a ts ((N + 1) * p.toNat)) hp (by omega) (by omega) (allE_ok (by omega) a ts _)
  have hf : ¬ 0 ≤ falseS (p, (a : Int), allE p a ts ((N + 1) * p.toNat)) := by
    refine falseS_ans hw (v := ts[0]) ?_
    simp only
    rw [List.all_eq_true]
    intro e he
    unfold allE at he
    have h6 := (List.mem_filter.1 he).2
    unfold holdA at h6
    rw [List.all_eq_true] at h6
    exact h6 _ (List.getElem_mem hts)
  have hr := red_of hw hf
  simp only [Int.toNat_natCast] at hr
  obtain ⟨bs, hb2⟩ := hk.red
  have e3 : reducedF (p, (a : Int), allE p a ts ((N + 1) * p.toNat)) = (p, (a : Int), (reducedF (p, (a : Int), allE p a ts ((N + 1) * p.toNat))).2.2) := by unfold reducedF; rfl
  rw [e3]
  congr 2
  refine red_same (by omega) hr hb2 (fun v hv hres => ?_)
  rw [allD_of hr (by omega), allD_of hb2 (by omega), hk.ans v]
  have h1 := reducedW_all hw v
  simp only at h1
  rw [h1]
  have hp0 : p ≠ 0 := by omega
  have ht0 : ∀ e, holdA p ts e = true → dotI e.1 ts[0] % p = e.2 := fun e h => by
    unfold holdA at h
    rw [List.all_eq_true] at h
    have := h _ (List.getElem_mem hts)
    simpa [holdsE] using this
  have e0 : ts.getD 0 [] = ts[0] := by simp [List.getD, hts]
  constructor
  · intro h n hn1 hn2 h3
    rw [List.all_eq_true] at h
    refine h _ ?_
    unfold allE
    refine List.mem_filter.2 ⟨List.mem_map.2 ⟨n * p.toNat + (eqS p a ts n).2.toNat, List.mem_range.2 ?_, ?_⟩, h3⟩
    · have hr2 : (eqS p a ts n).2 < p := Int.emod_lt_of_pos _ (by omega)
      have hr1 : 0 ≤ (eqS p a ts n).2 := Int.emod_nonneg _ (by omega)
      have : (n + 1) * p.toNat ≤ (N + 1) * p.toNat := Nat.mul_le_mul_right _ (by omega)
      rw [Nat.add_mul, Nat.one_mul] at this
      omega
    · have hr2 : (eqS p a ts n).2 < p := Int.emod_lt_of_pos _ (by omega)
      have hr1 : 0 ≤ (eqS p a ts n).2 := Int.emod_nonneg _ (by omega)
      have ec : ((n * p.toNat + (eqS p a ts n).2.toNat : Nat) : Int) = (eqS p a ts n).2 + p * (n : Int) := by
        rw [Int.natCast_add, Int.natCast_mul, Int.toNat_of_nonneg hr1, Int.toNat_of_nonneg (by omega), Int.mul_comm]; omega
      unfold eqAt
      rw [ec, Int.add_mul_ediv_left _ _ hp0, Int.add_mul_emod_self_left, Int.ediv_eq_zero_of_lt hr1 hr2, Int.emod_eq_of_lt hr1 hr2, Int.zero_add]
      rfl
  · intro h
    rw [List.all_eq_true]
    intro e he
    unfold allE at he
    obtain ⟨h4, h5⟩ := List.mem_filter.1 he
    obtain ⟨i, hi, rfl⟩ := List.mem_map.1 h4
    have hi2 := List.mem_range.1 hi
    have hd0 : 0 ≤ (i : Int) / p := Int.ediv_nonneg (by omega) (by omega)
    have hdN : (i : Int) / p < (N + 1 : Nat) := Int.ediv_lt_of_lt_mul (by omega) (by
      have : (i : Int) < (((N + 1) * p.toNat : Nat) : Int) := by omega
      rwa [Int.natCast_mul, Int.toNat_of_nonneg (by omega : 0 ≤ p)] at this)
    have h6 := ht0 _ h5
    have en : (((i : Int) / p).toNat : Int) = (i : Int) / p := Int.toNat_of_nonneg hd0
    have ee : eqAt p a i = eqS p a ts ((i : Int) / p).toNat := by
      unfold eqS
      rw [en, e0]
      unfold eqAt at h6 ⊢
      simp only at h6
      rw [h6]
    by_cases hz : ((i : Int) / p).toNat = 0
    · have hz2 : (i : Int) / p = 0 := by omega
      unfold eqAt at h6 ⊢
      simp only at h6
      rw [hz2, digs_zero] at h6 ⊢
      have d0 : ∀ t : List Int, dotI (List.replicate a 0) t = 0 := fun t => dot_zero _ _ (fun c hc => getD_repl0 _ _)
      rw [d0] at h6
      unfold holdsE
      simp only [d0, decide_eq_true_eq]
      exact h6
    · rw [ee] at h5 ⊢
      exact h _ (by omega) (by omega) h5
def eqsF (p : Int) (r : RelT) : Sys := reducedF (p, r.1, allE p r.1.toNat r.2 (p ^ (r.1.toNat + 1)).toNat)
end Go.Proofs.YtoblfnoaepbhfaaGreat
namespace Go.Proofs.YtoblfnoaepbhfaaGreat
open Go.RowKit
theorem affIs_get {p : Int} {r : RelT} (h : affIs p r = true) : 0 < r.2.length := by
  unfold affIs at h
  rw [Bool.and_eq_true] at h
  exact of_decide_eq_true h.1
theorem eqsF_ok {p : Int} {r : RelT} (hp : isPr p = true) (hr : relOk p r = true) (h : affIs p r = true) :
    ∃ N : Nat, N ≤ 80 ∧ p ^ r.1.toNat = ((N + 1 : Nat) : Int) ∧ eqsF p r = (p, r.1, ofTo p r.1.toNat r.2 N) ∧ (ofTo p r.1.toNat r.2 N).length ≤ 4 ∧ ∀ e, e ∈ ofTo p r.1.toNat r.2 N → eqnOk p r.1 e = true := by
  have hp2 := isPr_true hp
  obtain ⟨hs, ha, ht⟩ := relOk_get hr
  obtain ⟨ar, ts⟩ := r
  simp only at ha ht ⊢
  obtain ⟨a, rfl⟩ : ∃ a : Nat, ar = (a : Int) := ⟨ar.toNat, by omega⟩
  rw [Int.toNat_natCast]
  have ha2 : 1 ≤ a ∧ a ≤ 4 := by omega
  have hpow : ∃ N : Nat, N ≤ 80 ∧ p ^ a = ((N + 1 : Nat) : Int) := by
    have h4 : a = 1 ∨ a = 2 ∨ a = 3 ∨ a = 4 := by omega
    rcases hp2 with rfl | rfl <;> rcases h4 with rfl | rfl | rfl | rfl
    · exact ⟨1, by decide, by decide⟩
    · exact ⟨3, by decide, by decide⟩
    · exact ⟨7, by decide, by decide⟩
    · exact ⟨15, by decide, by decide⟩
    · exact ⟨2, by decide, by decide⟩
    · exact ⟨8, by decide, by decide⟩
    · exact ⟨26, by decide, by decide⟩
    · exact ⟨80, by decide, by decide⟩
  obtain ⟨N, hN, hpN⟩ := hpow
  have hl : 0 < ts.length := affIs_get h
  have hk := ofTo_ok (p := p) (a := a) hp2 ha2 hl N
  refine ⟨N, hN, hpN, ?_, by have := hk.len; omega, hk.ok⟩
  rw [← of_same hp2 ha2 hl hpN hN]
  unfold eqsF
  simp only [Int.toNat_natCast]
  congr 3
  rw [Int.pow_succ, hpN]
  rcases hp2 with rfl | rfl <;> congr 1
def spreadTo (p : Int) (V : Nat) (sc l : List Int) : Nat → List Int
  | 0 => List.replicate V 0
  | i + 1 => (spreadTo p V sc l i).set (sc.getD i 0).toNat (((spreadTo p V sc l i).getD (sc.getD i 0).toNat 0 + l.getD i 0) % p)
@[simp] theorem spreadTo_len (p : Int) (V : Nat) (sc l : List Int) : ∀ i, (spreadTo p V sc l i).length = V
  | 0 => by simp [spreadTo]
  | i + 1 => by simp [spreadTo, spreadTo_len p V sc l i]
theorem spreadTo_res {p : Int} (hp : 0 < p) (V : Nat) (sc l : List Int) : ∀ i, Res p (spreadTo p V sc l i)
  | 0 => fun a ha => by have := List.eq_of_mem_replicate ha; omega
  | i + 1 => fun a ha => by
    rcases List.mem_or_eq_of_mem_set ha with h | h
    · exact spreadTo_res hp V sc l i a h
    · subst h; exact ⟨Int.emod_nonneg _ (by omega), Int.emod_lt_of_pos _ hp⟩
def spreadE (p : Int) (V : Nat) (sc : List Int) (e : Eqn) : Eqn := (spreadTo p V sc e.1 sc.length, e.2)
def relAt (t : Tmpl) (c : OpT) : RelT := t.2.getD c.1.toNat (0, [])
def conE (t : Tmpl) (V : Nat) (c : OpT) : List Eqn := (eqsF t.1 (relAt t c)).2.2.map (spreadE t.1 V c.2)
def sysTo (t : Tmpl) (V : Nat) (cs : List OpT) (k : Nat) : List Eqn := (cs.take k).flatMap (conE t V)
theorem sysTo_zero (t : Tmpl) (V : Nat) (cs : List OpT) : sysTo t V cs 0 = [] := rfl
theorem sysTo_succ (t : Tmpl) (V : Nat) (cs : List OpT) (k : Nat) (h : k < cs.length) : sysTo t V cs (k + 1) = sysTo t V cs k ++ conE t V cs[k] := by
  unfold sysTo
  rw [List.take_succ_eq_append_getElem h, List.flatMap_append]
  simp
def affAll (t : Tmpl) (x : Inst) : Bool := x.2.all (fun c => affIs t.1 (relAt t c))
def sysF (t : Tmpl) (x : Inst) : Sys × Int :=
  if (isPr t.1 && affAll t x) = true then (if 24 < (sysTo t x.1.toNat x.2 x.2.length).length then ((0, 0, []), 3) else ((t.1, x.1, sysTo t x.1.toNat x.2 x.2.length), 0)) else ((0, 0, []), 4)
def systemF (t : Tmpl) (x : Inst) : Sys × Int := if instOk t x = true then sysF t x else ((0, 0, []), 1)
theorem conE_len {t : Tmpl} {V : Nat} {c : OpT} (hp : isPr t.1 = true) (hr : relOk t.1 (relAt t c) = true) (h : affIs t.1 (relAt t c) = true) : (conE t V c).length ≤ 4 := by
  obtain ⟨N, _, _, h3, h4, _⟩ := eqsF_ok hp hr h
  unfold conE
  rw [h3]
  simpa using h4
theorem sysTo_len {t : Tmpl} {V : Nat} {cs : List OpT} (hp : isPr t.1 = true) (hc : ∀ c, c ∈ cs → relOk t.1 (relAt t c) = true ∧ affIs t.1 (relAt t c) = true) : ∀ k, k ≤ cs.length → (sysTo t V cs k).length ≤ 4 * k
  | 0, _ => by simp [sysTo_zero]
  | k + 1, hk => by
    have ih := sysTo_len (V := V) hp hc k (by omega)
    have h1 := hc _ (List.getElem_mem (show k < cs.length by omega))
    have h2 := conE_len (V := V) hp h1.1 h1.2
    rw [sysTo_succ t V cs k (by omega), List.length_append]
    omega
theorem relAt_ok {t : Tmpl} {x : Inst} (h : instOk t x = true) : ∀ c, c ∈ x.2 → relOk t.1 (relAt t c) = true ∧ (0 ≤ c.1 ∧ c.1 < t.2.length) ∧ valsOk x.1 c.2 (relAt t c).1 = true := by
  intro c hc
  have h1 := instOk_get h
  have h2 := h1.2.2.2 c hc
  simp only [conOk, Bool.and_eq_true] at h2
  have h3 := inB_true h2.1
  have h4 : c.1.toNat < t.2.length := by omega
  refine ⟨?_, by omega, h2.2⟩
  unfold relAt
  rw [List.getD, List.getElem?_eq_getElem h4]
  exact (tmplOk_get h1.1).2.2 _ (List.getElem_mem h4)
end Go.Proofs.YtoblfnoaepbhfaaGreat
namespace Go.Proofs.YtoblfnoaepbhfaaGreat
open Go.RowKit Go.Shelf Go.IntWalk
open Rep (Rd Own sz)
theorem ip_take {α : Type} [Rep α] {A : Nat → Prop} {w : World} {a : Option Addr} {n c : Nat} {l : List α} (h : Ip A w [.slice a n c] l) (m : Nat) (hm : m ≤ l.length) (h0 : 0 < m) : Ip A w [.slice a m c] (l.take m) := by
  obtain ⟨ps, ho, hn, hA⟩ := h
  rcases own_list ho with ⟨rfl, _⟩ | ⟨g, o, c', cur, e, pss, hv, hc, hcm, hg, rfl, hp, hel⟩
  · simp at hm; omega
  · simp only [Value.slice.injEq] at hv
    obtain ⟨rfl, -, rfl⟩ := hv
    have hsub : ∀ k, k ∈ List.flatten (pss.take m) → k ∈ List.flatten pss := fun k hk => by
      obtain ⟨q, hq, hkq⟩ := List.mem_flatten.1 hk
      exact List.mem_flatten.2 ⟨q, List.mem_of_mem_take hq, hkq⟩
    refine ⟨g :: List.flatten (pss.take m), ⟨_, rfl, .inr ⟨g, o, _, cur, e, pss.take m, ?_, by rw [List.length_take]; omega, hcm, hg, rfl, by rw [List.length_take, List.length_take, hp], fun i hi => ?_⟩⟩, ?_, ?_⟩
    · rw [List.length_take, Nat.min_eq_left hm]
    · rw [List.length_take] at hi
      obtain ⟨p, vs, h1, h2, h3⟩ := hel i (by omega)
      exact ⟨p, vs, by rw [List.getElem?_take_of_lt (by omega)]; exact h1, by rw [List.getElem_take]; exact h2, h3⟩
    · rw [List.nodup_cons] at hn ⊢
      refine ⟨fun h => hn.1 (hsub g h), ?_⟩
      have e : List.flatten pss = List.flatten (pss.take m) ++ List.flatten (pss.drop m) := by rw [← List.flatten_append, List.take_append_drop]
      rw [e] at hn
      exact (List.nodup_append.1 hn.2).1
    · intro k hk
      rcases List.mem_cons.1 hk with rfl | hk
      · exact hA _ (List.mem_cons_self ..)
      · exact hA _ (List.mem_cons_of_mem _ (hsub k hk))
theorem rel_tuples {p : Int} {r : RelT} (h : relOk p r = true) : ∀ t, t ∈ r.2 → valsOk p t r.1 = true := by
  intro t ht
  obtain ⟨j, hj, rfl⟩ := List.getElem_of_mem ht
  have h1 := tupsOk_get (relOk_get h).2.2 j hj
  unfold tupAt at h1
  rw [Bool.and_eq_true] at h1
  have e : r.2.getD j [] = r.2[j] := by simp [List.getD, hj]
  rw [e] at h1
  exact h1.1
set_option maxHeartbeats 400000 in
theorem equationsOf1_by (p u : Int) (x : Eqn) (pb eb : Nat) (v0 v1 : Value) (w : World) (l : List (List Int)) (hp0 : 1 ≤ p) (hp : p ≤ 3) (hu : u ≤ 1000) (he : eqnOk p u x = true) (hl : ∀ t, t ∈ l → valsOk p t u = true) (hx : Rd w [v0, v1] x)
    (cp : w.cell? ⟨pb, 0, none⟩ = some (.int .i64 p)) (c0 : w.cell? ⟨eb, 0, none⟩ = some v0) (c1 : w.cell? ⟨eb, 1, none⟩ = some v1) :
    PredL 273 #[.pointer (some ⟨pb, 0, none⟩), .pointer (some ⟨eb, 0, none⟩)] w l (fun t => !holdsE p t x) := by
  intro W y u0 hb hy hmem
  have gp := cellL hb cp
  have g0 := cellL hb c0
  have g1 := cellL hb c1
  have HX := Lib.hid (Rd.mono hx hb)
  have HY := Lib.hid hy
  have HE := Lib.hid he
  have HO := Lib.hid (hl y hmem)
  obtain ⟨ay, cy, rfl, _⟩ := rd_list hy
  have z := rd_cons rfl hx
  obtain ⟨a, c, rfl, _⟩ := rd_list z.1
  obtain ⟨rfl, _⟩ := rd_i1 z.2
  clear hx z hy he hl hb hmem cp c0 c1
  show Calls Tryz.prog 273 #[_, .pointer (some ⟨pb, 0, none⟩), .pointer (some ⟨eb, 0, none⟩)] W _
  go_enter Tryz.func273, Tryz.ntmps273
  go_wp2_with fail
  refine (isTrue_c p u x y _ _ _ _ HX.out HY.out hp0 hp hu HE.out HO.out).mono ?_
  rintro e w1 ⟨rfl, hb1⟩
  go_wp2_with fail
  go_ret
  exact ⟨rfl, hb1⟩
set_option maxRecDepth 100000 in
set_option maxHeartbeats 8000000 in
theorem equationsOf_c (p : Int) (r : RelT) (v0 v1 : Value) (w : World) (hr : Rd w [v0, v1] r) (hpr : isPr p = true) (hok : relOk p r = true) (haf : affIs p r = true) :
    Calls Tryz.prog 151 #[.int .i64 p, .agg #[v0, v1]] w fun e w' => ∃ a n c, e = .returned (.agg #[.int .i64 p, .int .i64 r.1, .slice a n c]) ∧ Fresh w.heap.size w' [.int .i64 p, .int .i64 r.1, .slice a n c] (eqsF p r) ∧ Below w.heap.size w w' := by
  have hp2 := isPr_true hpr
  obtain ⟨N, hN, hpN, _, _, _⟩ := eqsF_ok hpr hok haf
  have har := (relOk_get hok).2.1
  have HTU := Lib.hid (rel_tuples hok)
  obtain ⟨ar, ts⟩ := r
  simp only at har hpN HTU
  obtain ⟨U, hU⟩ : ∃ U : Nat, ar = U := ⟨ar.toNat, by omega⟩
  subst hU
  rw [Int.toNat_natCast] at hpN
  have hU4 : 1 ≤ U ∧ U ≤ 4 := by omega
  obtain ⟨M, hM⟩ : ∃ M : Nat, M = (N + 1) * p.toNat := ⟨_, rfl⟩
  have hM2 : M ≤ 243 := by rw [hM]; exact Nat.mul_le_mul (show N + 1 ≤ 81 by omega) (show p.toNat ≤ 3 by omega)
  have hpw : p ^ (U + 1) = (M : Int) := by
    rw [Int.pow_succ, hpN, hM, Int.natCast_mul, Int.toNat_of_nonneg (by omega)]
  have HPW := Lib.hid (show p ^ ((U : Int) + 1).toNat = (M : Int) by rw [show ((U : Int) + 1).toNat = U + 1 by omega]; exact hpw)
  have HEQ := Lib.hid (show eqsF p ((U : Int), ts) = reducedF (p, (U : Int), allE p U ts M) by
    unfold eqsF
    simp only [Int.toNat_natCast]
    rw [hpw, Int.toNat_natCast])
  have HWD := Lib.hid (wideS_mk (p := p) (U := U) (l := allE p U ts M) hp2 (by omega) (by have := allE_len p U ts M; omega) (allE_ok (by omega) U ts M))
  rw [HEQ.out]
  have HR := Lib.hid hr
  have zr := rd_cons rfl hr
  obtain ⟨rfl, _⟩ := rd_i1 zr.1
  have HTS := Lib.hid zr.2
  obtain ⟨at0, ct0, rfl, _⟩ := rd_list zr.2
  have eg : ∀ args w, (callFunc 273 args).run Tryz.prog w = .ok (.enter 273 args) w := enters_of Tryz.func273 (by kernel_rfl) rfl
  have hIp : I64 p := i64_of _ (by omega) (by omega)
  have hIU : I64 (U : Int) := i64_of _ (by omega) (by omega)
  clear hr zr hok haf hpr hpN hpw har hM
  have hs1 := (St.start w).alloc #[.int .i64 p] 2 (n := w.heap.size) (by simp)
  have k0_0 := hs1.cellAt 0 rfl 0 rfl
  have hs2 := hs1.alloc #[.int .i64 U, .slice at0 ts.length ct0] 118 (n := w.heap.size + 1) (by simp)
  clear k0_0
  have k0_0 := hs2.cellAt 0 rfl 0 rfl
  have k1_0 := hs2.cellAt 1 rfl 0 rfl
  have k1_1 := hs2.cellAt 1 rfl 1 rfl
  have hs3 := hs2.alloc #[.int .i64 0, .int .i64 0, .slice none 0 0] 61 (n := w.heap.size + 1 + 1) (by simp)
  clear k0_0 k1_0 k1_1
  have k0_0 := hs3.cellAt 0 rfl 0 rfl
  have k1_0 := hs3.cellAt 1 rfl 0 rfl
  have k1_1 := hs3.cellAt 1 rfl 1 rfl
  have k2_0 := hs3.cellAt 2 rfl 0 rfl
  have k2_1 := hs3.cellAt 2 rfl 1 rfl
  have k2_2 := hs3.cellAt 2 rfl 2 rfl
  have hs4 := hs3.alloc #[.int .i64 p, .int .i64 U, .slice none 0 0] 61 (n := w.heap.size + 1 + 1 + 1) (by simp)
  clear k0_0 k1_0 k1_1 k2_0 k2_1 k2_2
  have k0_0 := hs4.cellAt 0 rfl 0 rfl
  have k1_0 := hs4.cellAt 1 rfl 0 rfl
  have k1_1 := hs4.cellAt 1 rfl 1 rfl
  have k2_0 := hs4.cellAt 2 rfl 0 rfl
  have k2_1 := hs4.cellAt 2 rfl 1 rfl
  have k2_2 := hs4.cellAt 2 rfl 2 rfl
  have k3_0 := hs4.cellAt 3 rfl 0 rfl
  have k3_1 := hs4.cellAt 3 rfl 1 rfl
  have k3_2 := hs4.cellAt 3 rfl 2 rfl
  have HS1 := Lib.hid hs4
  go_enter Tryz.func151, Tryz.ntmps151
  go_wp2_with fail
  refine (power_c p ((U : Int) + 1) _ (by omega) (by omega) (by omega) (by rw [HPW.out]; omega)).mono ?_
  rintro e w1 ⟨rfl, rfl⟩
  rw [HPW.out]
  go_wp2_with fail
  go_loopw [18] (fun iv wl => ∃ (k : Nat) (va : Option Addr) (vc : Nat), k ≤ M ∧ iv = .int .i64 k ∧ Hid (St w (w.heap.size + 1 + 1 + 1 + 1) wl [(w.heap.size, #[.int .i64 p], 2), (w.heap.size + 1, #[.int .i64 U, .slice at0 ts.length ct0], 118), (w.heap.size + 1 + 1, #[.int .i64 0, .int .i64 0, .slice none 0 0], 61), (w.heap.size + 1 + 1 + 1, #[.int .i64 p, .int .i64 U, .slice va (allE p U ts k).length vc], 61)]) ∧ Hid (AccP (fun z => w.heap.size + 1 + 1 + 1 + 1 ≤ z ∧ z < wl.heap.size) 200 wl (.slice va (allE p U ts k).length vc) (allE p U ts k))) (fun iv _ => M - (intOf iv).toNat)
  case atStart => exact ⟨0, none, 0, Nat.zero_le _, rfl, HS1.out, AccP.nil _ _ _⟩
  case round =>
    clear HS1 hs1 k0_0 k1_0 k1_1 k2_0 k2_1 k2_2 k3_0 k3_1 k3_2
    obtain ⟨k, va, vc, hk, rfl, hst, hac⟩ := hrel
    have hs2 := hst.out
    have hlo := hs2.hi
    have hlen := allE_len p U ts k
    have k0_0 := hs2.cellAt 0 rfl 0 rfl
    have k1_0 := hs2.cellAt 1 rfl 0 rfl
    have k1_1 := hs2.cellAt 1 rfl 1 rfl
    have k2_0 := hs2.cellAt 2 rfl 0 rfl
    have k2_1 := hs2.cellAt 2 rfl 1 rfl
    have k2_2 := hs2.cellAt 2 rfl 2 rfl
    have k3_0 := hs2.cellAt 3 rfl 0 rfl
    have k3_1 := hs2.cellAt 3 rfl 1 rfl
    have k3_2 := hs2.cellAt 3 rfl 2 rfl
    by_cases hlt : k < M
    · have hkI : (k : Int) < M := by omega
      have HACC := hac
      clear hac
      go_wp2_with fail
      refine (listOf_c p ((U : Int) + 1) (k : Int) _ (by omega) (by omega) (by omega) (by omega) (by omega) (by omega)).mono ?_
      rintro e w5 ⟨vv, rfl, fr, hbw5⟩
      have hz_w5 : wr.heap.size ≤ w5.heap.size := by have h9 := hbw5.size; (try simp at h9); omega
      have hs6 := hs2.step hbw5
      have HACC_7 := Lib.hid (AccP.mono HACC.out hbw5)
      clear HACC
      clear k0_0 k1_0 k1_1 k2_0 k2_1 k2_2 k3_0 k3_1 k3_2
      have k0_0 := hs6.cellAt 0 rfl 0 rfl
      have k1_0 := hs6.cellAt 1 rfl 0 rfl
      have k1_1 := hs6.cellAt 1 rfl 1 rfl
      have k2_0 := hs6.cellAt 2 rfl 0 rfl
      have k2_1 := hs6.cellAt 2 rfl 1 rfl
      have k2_2 := hs6.cellAt 2 rfl 2 rfl
      have k3_0 := hs6.cellAt 3 rfl 0 rfl
      have k3_1 := hs6.cellAt 3 rfl 1 rfl
      have k3_2 := hs6.cellAt 3 rfl 2 rfl
      rw [show ((U : Int) + 1).toNat = U + 1 by omega] at fr
      obtain ⟨al, cl, el, hrl⟩ := rd_list fr.rd
      rw [digs_length] at el
      subst el
      have hcl := (rdSl_len hrl).1
      rw [digs_length] at hcl
      obtain ⟨bl, ol, rfl, ql, hIl⟩ := rd_int_at fr.rd U (by rw [digs_length]; omega)
      have hke : (digs p (U + 1) (k : Int))[U]'(by rw [digs_length]; omega) = (k : Int) % p := by
        simp only [digs]
        rw [List.getElem_append_right (by simp)]
        simp
      rw [hke] at ql hIl
      have HV := Lib.hid (show Ip _ w5 [.slice (some ⟨bl, ol, none⟩) U cl] (digs p U ((k : Int) / p)) from by
        have h := ip_take (Fresh.ip fr) U (by rw [digs_length]; omega) hU4.1
        rw [show (digs p (U + 1) (k : Int)).take U = digs p U ((k : Int) / p) by simp only [digs]; rw [List.take_append_of_le_length (by simp), List.take_of_length_le (by simp)]] at h
        exact h)
      have HIL := Lib.hid hIl
      have hUc : (U : Int) ≤ cl := by omega
      have hUl : (U : Int) < (U : Int) + 1 := by omega
      clear fr hrl hke hIl
      generalize hKR : (k : Int) % p = KR at *
      go_upto_region 6 with fail
      refine wp_region_noPanic (wp_region_tree4 (fun w' => w'.cell? ⟨w.heap.size, 0, none⟩ = some (.int .i64 p) ∧ w'.cell? ⟨w.heap.size + 1, 0, none⟩ = some (.int .i64 U) ∧ w'.cell? ⟨w.heap.size + 1, 1, none⟩ = some (.slice at0 ts.length ct0) ∧ w'.cell? ⟨w.heap.size + 1 + 1, 0, none⟩ = some (.int .i64 0) ∧ w'.cell? ⟨w.heap.size + 1 + 1, 1, none⟩ = some (.int .i64 0) ∧ w'.cell? ⟨w.heap.size + 1 + 1, 2, none⟩ = some (.slice none 0 0) ∧ w'.cell? ⟨w.heap.size + 1 + 1 + 1, 0, none⟩ = some (.int .i64 p) ∧ w'.cell? ⟨w.heap.size + 1 + 1 + 1, 1, none⟩ = some (.int .i64 U) ∧ w'.cell? ⟨w.heap.size + 1 + 1 + 1, 2, none⟩ = some (.slice va (allE p U ts k).length vc) ∧ w'.cell? ⟨bl, ol + U, none⟩ = some (.int .i64 KR)) (.float 0 (.float 1 (.float 2 (.float 3 (.float 4 (.float 5 (.float 6 (.float 7 (.float 8 (.float 9 (.hard 10 (.last 11 .nil)))))))))))) (by kernel_rfl) (by kernel_rfl) (by kernel_rfl) rfl ?_ (fun _ _ _ _ _ h => h) ?_)
      · exact ⟨(hs6.drew).cellAt 0 rfl 0 rfl, (hs6.drew).cellAt 1 rfl 0 rfl, (hs6.drew).cellAt 1 rfl 1 rfl, (hs6.drew).cellAt 2 rfl 0 rfl, (hs6.drew).cellAt 2 rfl 1 rfl, (hs6.drew).cellAt 2 rfl 2 rfl, (hs6.drew).cellAt 3 rfl 0 rfl, (hs6.drew).cellAt 3 rfl 1 rfl, (hs6.drew).cellAt 3 rfl 2 rfl, cellL (belowD _) ql⟩
      have hs8 := hs6.drew
      have ql_9 := cellL (belowD _) ql
      clear ql
      have HACC_10 := Lib.hid (AccP.mono HACC_7.out (belowD _))
      clear HACC_7
      have HV_11 := Lib.hid (Ip.mono HV.out (belowD _))
      clear HV
      clear k0_0 k1_0 k1_1 k2_0 k2_1 k2_2 k3_0 k3_1 k3_2
      have hz_wd12 : w5.heap.size ≤ (w5.drew).heap.size := by simp
      generalize hgen_wd12 : w5.drew = wd12 at *
      have HG_wd12 := Lib.hid hgen_wd12
      clear hgen_wd12
      (repeat (first | (apply t4_skip rfl (by rfl); try simp only [Act.put, sI, sZ, sS]) | (apply t4_float rfl (by rfl); (· (intro w' hS; go_simp <;> with_reducible rfl)); (try simp only [Act.put, sI, sZ, sS]))))
      refine t4_hard rfl (by rfl) (fun K hK => ?_)
      go_wp2_with fail
      have hs13 := hs8.alloc #[.slice none 0 0, .int .i64 0] 200 (n := wd12.heap.size) (by simp)
      have ql_14 := cellL (belowA _ (.cells #[.slice none 0 0, .int .i64 0] 200)) ql_9
      clear ql_9
      have HACC_15 := Lib.hid (AccP.mono HACC_10.out (belowA _ (.cells #[.slice none 0 0, .int .i64 0] 200)))
      clear HACC_10
      have HV_16 := Lib.hid (Ip.mono HV_11.out (belowA _ (.cells #[.slice none 0 0, .int .i64 0] 200)))
      clear HV_11
      have hz_wA : wd12.heap.size + 1 ≤ ((wd12.alloc (.cells #[.slice none 0 0, .int .i64 0] 200))).heap.size := by simp
      generalize hgen_wA : (wd12.alloc (.cells #[.slice none 0 0, .int .i64 0] 200)) = wA at *
      clear hgen_wA
      refine ⟨⟨hs13.cellAt 0 rfl 0 rfl, hs13.cellAt 1 rfl 0 rfl, hs13.cellAt 1 rfl 1 rfl, hs13.cellAt 2 rfl 0 rfl, hs13.cellAt 2 rfl 1 rfl, hs13.cellAt 2 rfl 2 rfl, hs13.cellAt 3 rfl 0 rfl, hs13.cellAt 3 rfl 1 rfl, hs13.cellAt 3 rfl 2 rfl, ql_14⟩, ?_⟩
      (repeat (first | (apply t4_skip rfl (by rfl); try simp only [Act.put, sI, sZ, sS]) | (apply t4_float rfl (by rfl); (· (intro w' hS; go_simp <;> with_reducible rfl)); (try simp only [Act.put, sI, sZ, sS]))))
      refine t4_last rfl (by rfl) (fun K hK => ?_)
      have k0_0 := hs13.cellAt 0 rfl 0 rfl
      have k1_0 := hs13.cellAt 1 rfl 0 rfl
      have k1_1 := hs13.cellAt 1 rfl 1 rfl
      have k2_0 := hs13.cellAt 2 rfl 0 rfl
      have k2_1 := hs13.cellAt 2 rfl 1 rfl
      have k2_2 := hs13.cellAt 2 rfl 2 rfl
      have k3_0 := hs13.cellAt 3 rfl 0 rfl
      have k3_1 := hs13.cellAt 3 rfl 1 rfl
      have k3_2 := hs13.cellAt 3 rfl 2 rfl
      have k4_0 := hs13.cellAt 4 rfl 0 rfl
      have k4_1 := hs13.cellAt 4 rfl 1 rfl
      have f4_0 := hs13.freeAt 4 rfl 0
      have f4_1 := hs13.freeAt 4 rfl 1
      go_wp2_with fail
      refine t4_nil (NoPanic.normal ?_)
      clear k0_0 k1_0 k1_1 k2_0 k2_1 k2_2 k3_0 k3_1 k3_2 k4_0 k4_1
      clear ql_14
      have hs17 := hs13.set (p := [_, _, _, _]) (by simp <;> omega) 0 (.slice (some ⟨bl, ol, none⟩) U cl)
      have hs18 := hs17.set (p := [_, _, _, _]) (by simp <;> omega) 1 (.int .i64 KR)
      have HACC_19 := Lib.hid (AccP.setCell (b := wd12.heap.size) (o := 1) (AccP.setCell (b := wd12.heap.size) (o := 0) HACC_15.out (.slice (some ⟨bl, ol, none⟩) U cl) (by intro hA9; (try simp only at hA9); omega)) (.int .i64 KR) (by intro hA9; (try simp only at hA9); omega))
      clear HACC_15
      have HV_20 := Lib.hid (Ip.setCell (b := wd12.heap.size) (o := 1) (Ip.setCell (b := wd12.heap.size) (o := 0) HV_16.out (.slice (some ⟨bl, ol, none⟩) U cl) (by intro hA9; (try simp only at hA9); omega)) (.int .i64 KR) (by intro hA9; (try simp only at hA9); omega))
      clear HV_16
      have hz_wE : wA.heap.size ≤ (((wA.setCell ⟨wd12.heap.size, 0, none⟩ (.slice (some ⟨bl, ol, none⟩) U cl)).setCell ⟨wd12.heap.size, 1, none⟩ (.int .i64 KR))).heap.size := by simp [World.setCell]
      generalize hgen_wE : ((wA.setCell ⟨wd12.heap.size, 0, none⟩ (.slice (some ⟨bl, ol, none⟩) U cl)).setCell ⟨wd12.heap.size, 1, none⟩ (.int .i64 KR)) = wE at *
      clear hgen_wE
      have k0_0 := hs18.cellAt 0 rfl 0 rfl
      have k1_0 := hs18.cellAt 1 rfl 0 rfl
      have k1_1 := hs18.cellAt 1 rfl 1 rfl
      have k2_0 := hs18.cellAt 2 rfl 0 rfl
      have k2_1 := hs18.cellAt 2 rfl 1 rfl
      have k2_2 := hs18.cellAt 2 rfl 2 rfl
      have k3_0 := hs18.cellAt 3 rfl 0 rfl
      have k3_1 := hs18.cellAt 3 rfl 1 rfl
      have k3_2 := hs18.cellAt 3 rfl 2 rfl
      have k4_0 := hs18.cellAt 4 rfl 0 rfl
      have k4_1 := hs18.cellAt 4 rfl 1 rfl
      have HEE := Lib.hid (show (digs p U ((k : Int) / p), KR) = eqAt p U k by unfold eqAt; rw [hKR])
      have HXR := Lib.hid (show Rd wE [.slice (some ⟨bl, ol, none⟩) U cl, .int .i64 KR] (digs p U ((k : Int) / p), KR) from ⟨[_], [_], rfl, HV_20.out.rd, ⟨rfl, HIL.out⟩⟩)
      have HEO := Lib.hid (eqAt_ok (p := p) (by omega) U k)
      rw [← HEE.out] at HEO
      go_wp2_with fail
      refine (containsLists_c ts _ 273 _ _ _ (Rd.mono HTS.out hs18.bel) eg (equationsOf1_by p (U : Int) (digs p U ((k : Int) / p), KR) w.heap.size wd12.heap.size _ _ _ ts (by omega) (by omega) (by omega) HEO.out HTU.out HXR.out (hs18.cellAt 0 rfl 0 rfl) (hs18.cellAt 4 rfl 0 rfl) (hs18.cellAt 4 rfl 1 rfl))).mono ?_
      rintro e w5 ⟨rfl, hb5⟩
      have hall := all_of_any ts (fun t => holdsE p t (digs p U ((k : Int) / p), KR))
      have hz_w5 : wE.heap.size ≤ w5.heap.size := by have h9 := hb5.size; (try simp at h9); omega
      have hs21 := hs18.step hb5
      have HACC_22 := Lib.hid (AccP.mono HACC_19.out hb5)
      clear HACC_19
      have HV_23 := Lib.hid (Ip.mono HV_20.out hb5)
      clear HV_20
      clear k0_0 k1_0 k1_1 k2_0 k2_1 k2_2 k3_0 k3_1 k3_2 k4_0 k4_1
      have k0_0 := hs21.cellAt 0 rfl 0 rfl
      have k1_0 := hs21.cellAt 1 rfl 0 rfl
      have k1_1 := hs21.cellAt 1 rfl 1 rfl
      have k2_0 := hs21.cellAt 2 rfl 0 rfl
      have k2_1 := hs21.cellAt 2 rfl 1 rfl
      have k2_2 := hs21.cellAt 2 rfl 2 rfl
      have k3_0 := hs21.cellAt 3 rfl 0 rfl
      have k3_1 := hs21.cellAt 3 rfl 1 rfl
      have k3_2 := hs21.cellAt 3 rfl 2 rfl
      have k4_0 := hs21.cellAt 4 rfl 0 rfl
      have k4_1 := hs21.cellAt 4 rfl 1 rfl
      have hall2 : (!ts.any fun t => !holdsE p t (digs p U ((k : Int) / p), KR)) = holdA p ts (eqAt p U k) := by rw [hall, ← HEE.out]; rfl
      cases hq : ts.any (fun t => !holdsE p t (digs p U ((k : Int) / p), KR)) with
      | true =>
        rw [hq] at hall2
        have HSU := Lib.hid (allE_no (p := p) (a := U) (ts := ts) (k := k) (by rw [← hall2]; rfl))
        clear hall hall2 hq
        go_wp2_with fail
        have hs24 := hs21.low (B' := w.heap.size + 1 + 1 + 1 + 1) (bx' := [(w.heap.size, #[.int .i64 p], 2), (w.heap.size + 1, #[.int .i64 U, .slice at0 ts.length ct0], 118), (w.heap.size + 1 + 1, #[.int .i64 0, .int .i64 0, .slice none 0 0], 61), (w.heap.size + 1 + 1 + 1, #[.int .i64 p, .int .i64 U, .slice va (allE p U ts k).length vc], 61)]) (by omega) (by (try simp) <;> omega) (fun x hx => by simp only [List.mem_cons, List.not_mem_nil, or_false] at hx; rcases hx with rfl | rfl | rfl | rfl <;> (refine ⟨?_, ?_⟩ <;> (try simp) <;> (try omega)))
        refine ⟨⟨k + 1, va, vc, hlt, by go_num, ?_, ?_⟩, by simp [intOf]; omega⟩
        · rw [HSU.out]; exact hs24
        · rw [HSU.out]; exact HACC_22.out.wk (fun z hz => ⟨hz.1, by omega⟩)
      | false =>
        rw [hq] at hall2
        have HSU := Lib.hid (allE_yes (p := p) (a := U) (ts := ts) (k := k) (by rw [← hall2]; rfl))
        rw [← HEE.out] at HSU
        clear hall hall2 hq
        have HKE := Lib.hid (show Ip _ w5 [.slice (some ⟨bl, ol, none⟩) U cl, .int .i64 KR] ((digs p U ((k : Int) / p), KR) : Eqn) from ip_cons (B := fun _ => False) HV_23.out ⟨[], ⟨rfl, rfl, HIL.out⟩, by simp, by simp⟩ (fun k _ h => h) (fun k h => h) (fun k h => h.elim))
        clear HV_23
        have hs25 := hs21.low (B' := w.heap.size + 1 + 1 + 1 + 1) (bx' := [(w.heap.size, #[.int .i64 p], 2), (w.heap.size + 1, #[.int .i64 U, .slice at0 ts.length ct0], 118), (w.heap.size + 1 + 1, #[.int .i64 0, .int .i64 0, .slice none 0 0], 61), (w.heap.size + 1 + 1 + 1, #[.int .i64 p, .int .i64 U, .slice va (allE p U ts k).length vc], 61)]) (by omega) (by (try simp) <;> omega) (fun x hx => by simp only [List.mem_cons, List.not_mem_nil, or_false] at hx; rcases hx with rfl | rfl | rfl | rfl <;> (refine ⟨?_, ?_⟩ <;> (try simp) <;> (try omega)))
        have hb9 := belowA w5 (.cells #[.slice (some ⟨bl, ol, none⟩) U cl, .int .i64 KR] 200)
        have HS9 := Lib.hid (hs25.step hb9)
        go_wp2_with (at_builtin; refine wpList_append_accP _ rfl _ _ _ rfl E_eqns rfl (AccP.mono HACC_22.out (belowA _ _)) (Ip.mono HKE.out (belowA _ _)) (fun z h1 h2 => by (try simp only at h1 h2); omega) ⟨w5.heap.size, 0, none⟩ 1 rfl (news2 (cell_at_block (heap_alloc_new _ _)) (cell_at_block (heap_alloc_new _ _))) (by omega) ?_; intro a7 c7 w7 hA7 hB7; have hs8 := HS9.out.stepB (hB7.below (B := w.heap.size + 1 + 1 + 1 + 1) (fun z hz => hz.1) (by (try simp) <;> omega)); have q2 := hs8.cellAt 3 rfl 2 rfl; have f2 := hs8.freeAt 3 rfl 2)
        have hz7 := hB7.size
        have HA8 := Lib.hid (AccP.wk hA7.tight (C := fun z => w.heap.size + 1 + 1 + 1 + 1 ≤ z ∧ z < w7.heap.size) (fun z hz => ⟨by
          rcases hz.1 with h | h | h
          · exact h.1
          · (try simp only at h); omega
          · simp at h; omega, hz.2⟩))
        clear hA7 hB7
        have HQ9 := Lib.hid (hs8.set (p := [_, _, _]) (by simp <;> omega) 2 (.slice a7 ((allE p U ts k).length + 1) c7))
        have HA9 := Lib.hid (AccP.setCell (b := w.heap.size + 1 + 1 + 1) (o := 2) HA8.out (.slice a7 ((allE p U ts k).length + 1) c7) (by intro hA9; (try simp only at hA9); omega))
        have HZ9 := Lib.hid (show w7.heap.size ≤ (w7.setCell ⟨w.heap.size + 1 + 1 + 1, 2, none⟩ (.slice a7 ((allE p U ts k).length + 1) c7)).heap.size by simp [World.setCell])
        go_roundw
        case measure => simp [intOf]; omega
        refine ⟨k + 1, a7, c7, hlt, by go_num, ?_, ?_⟩
        · rw [HSU.out, List.length_append]; exact HQ9.out
        · rw [HSU.out, List.length_append]; exact HA9.out.wk (fun z hz => ⟨hz.1, Nat.lt_of_lt_of_le hz.2 HZ9.out⟩)
    · obtain rfl : k = M := by omega
      have hnl : ¬ ((k : Int) < k) := by omega
      have HXS := Lib.hid (show Rd wr [.int .i64 p, .int .i64 U, .slice va (allE p U ts k).length vc] ((p, (U : Int), allE p U ts k) : Sys) from ⟨[_], [_, _], rfl, ⟨rfl, hIp⟩, [_], [_], rfl, ⟨rfl, hIU⟩, hac.out.rd⟩)
      go_wp2_with fail
      refine (reducedSystemW_c (p, (U : Int), allE p U ts k) _ _ _ _ HXS.out HWD.out).mono ?_
      rintro e w5 ⟨a9, n9, c9, rfl, fr9, hb5⟩
      have HFR := Lib.hid fr9
      clear fr9
      have hz_w5 : wr.heap.size ≤ w5.heap.size := by have h9 := hb5.size; (try simp at h9); omega
      have hs26 := hs2.step hb5
      clear k0_0 k1_0 k1_1 k2_0 k2_1 k2_2 k3_0 k3_1 k3_2
      have k0_0 := hs26.cellAt 0 rfl 0 rfl
      have k1_0 := hs26.cellAt 1 rfl 0 rfl
      have k1_1 := hs26.cellAt 1 rfl 1 rfl
      have k2_0 := hs26.cellAt 2 rfl 0 rfl
      have k2_1 := hs26.cellAt 2 rfl 1 rfl
      have k2_2 := hs26.cellAt 2 rfl 2 rfl
      have k3_0 := hs26.cellAt 3 rfl 0 rfl
      have k3_1 := hs26.cellAt 3 rfl 1 rfl
      have k3_2 := hs26.cellAt 3 rfl 2 rfl
      have f0 := (hs26.freeAt 2 rfl 0)
      have f1 := (hs26.freeAt 2 rfl 1)
      have f2 := (hs26.freeAt 2 rfl 2)
      have hq9 := ((hs26.set (p := [_, _]) (by simp <;> omega) 0 (.int .i64 p)).set (p := [_, _]) (by simp <;> omega) 1 (.int .i64 U)).set (p := [_, _]) (by simp <;> omega) 2 (.slice a9 n9 c9)
      have x0 := hq9.cellAt 2 rfl 0 rfl
      have x1 := hq9.cellAt 2 rfl 1 rfl
      have x2 := hq9.cellAt 2 rfl 2 rfl
      go_wp2_with fail
      refine bodyPost_ret (v := .agg #[.int .i64 p, .int .i64 U, .slice a9 n9 c9]) (by simp [results, Tryz.results151, go_sem, x0, x1, x2]) rfl ⟨_, _, _, rfl, ?_, hq9.bel⟩
      exact (((HFR.out.setCell (a := ⟨w.heap.size + 1 + 1, 0, none⟩) (by (try simp) <;> omega) _).setCell (a := ⟨w.heap.size + 1 + 1, 1, none⟩) (by (try simp) <;> omega) _).setCell (a := ⟨w.heap.size + 1 + 1, 2, none⟩) (by (try simp) <;> omega) _).lower (by omega)
end Go.Proofs.YtoblfnoaepbhfaaGreat
namespace Go.Proofs.YtoblfnoaepbhfaaGreat
open Go.RowKit Go.Shelf Go.IntWalk
open Rep (Rd Own sz)
theorem mul_le4 {a b : Int} (ha : 0 ≤ a ∧ a ≤ 2) (hb : 0 ≤ b ∧ b ≤ 2) : 0 ≤ a * b ∧ a * b ≤ 4 :=
  ⟨Int.mul_nonneg ha.1 hb.1, Int.le_trans (Int.mul_le_mul ha.2 hb.2 hb.1 (by omega)) (by decide)⟩
theorem dotI_succ2 {l v : List Int} {k : Nat} (h1 : k < l.length) (h2 : k < v.length) : dotI (l.take (k + 1)) (v.take (k + 1)) = dotI (l.take k) (v.take k) + l[k] * v[k] := by
  rw [List.take_succ_eq_append_getElem h1, List.take_succ_eq_append_getElem h2]
  unfold dotI
  rw [List.zipWith_append (by simp; omega), List.sum_append]
  simp
set_option maxRecDepth 100000 in
set_option maxHeartbeats 8000000 in
theorem l07Of_c (p : Int) (U : Nat) (ts : List (List Int)) (vt : Value) (N : Nat) (w : World) (ht : Rd w [vt] ts) (hp : p = 2 ∨ p = 3) (hU : 1 ≤ U ∧ U ≤ 4) (hN : N ≤ 80) (hpN : p ^ U = ((N + 1 : Nat) : Int)) (hts : 0 < ts.length) (hok : ∀ t, t ∈ ts → valsOk p t (U : Int) = true) :
    Calls Tryz.prog 141 #[.int .i64 p, .int .i64 U, vt] w fun e w' => ∃ a n c, e = .returned (.agg #[.int .i64 p, .int .i64 U, .slice a n c]) ∧ AccP (fun z => w.heap.size ≤ z) 200 w' (.slice a n c) (ofTo p U ts N) ∧ n = (ofTo p U ts N).length ∧ Below w.heap.size w w' := by
  have HOF := Lib.hid (ofTo_ok (p := p) (a := U) (ts := ts) hp hU hts)
  have HTU := Lib.hid hok
  have HPW := Lib.hid (show p ^ (U : Int).toNat = (N : Int) + 1 by rw [Int.toNat_natCast, hpN]; rfl)
  have HTS := Lib.hid ht
  obtain ⟨at0, ct0, rfl, hrt⟩ := rd_list ht
  have htl := (rdSl_len hrt).2
  unfold maxLen at htl
  obtain ⟨b0, o0, vt0, rfl, qt0, hr0⟩ := rdSl_one rfl hrt 0 hts
  rw [Nat.add_zero] at qt0
  have h0 := valsOk_get (hok _ (List.getElem_mem hts))
  have HT0 := Lib.hid hr0
  obtain ⟨a00, c00, rfl, _⟩ := rd_list hr0
  have e00 : ts.getD 0 [] = ts[0] := by simp [List.getD, hts]
  have HEQ := Lib.hid (fun k : Nat => show eqS p U ts (k + 1) = (digs p U ((k : Int) + 1), dotI (digs p U ((k : Int) + 1)) ts[0] % p) by unfold eqS; rw [e00]; rfl)
  have HL0 := Lib.hid (show ts[0].length = U by have := h0.1; omega)
  have HV0 := Lib.hid h0.2
  clear ht hrt hr0 h0 hok e00 hpN
  generalize ts[0] = T0 at *
  obtain ⟨bT, oT, rfl, _, _⟩ := rd_int_at HT0.out 0 (by rw [HL0.out]; omega)
  have qt0_ := cellL (St.start w).bel qt0
  have hs27 := (St.start w).alloc #[.int .i64 0, .int .i64 0, .slice none 0 0] 61 (n := w.heap.size) (by simp)
  clear qt0_
  have k0_0 := hs27.cellAt 0 rfl 0 rfl
  have k0_1 := hs27.cellAt 0 rfl 1 rfl
  have k0_2 := hs27.cellAt 0 rfl 2 rfl
  have qt0_ := cellL hs27.bel qt0
  have hs28 := hs27.alloc #[] 200 (n := w.heap.size + 1) (by simp)
  clear k0_0 k0_1 k0_2 qt0_
  have k0_0 := hs28.cellAt 0 rfl 0 rfl
  have k0_1 := hs28.cellAt 0 rfl 1 rfl
  have k0_2 := hs28.cellAt 0 rfl 2 rfl
  have qt0_ := cellL hs28.bel qt0
  have HA0 := Lib.hid (show AccP (fun z => w.heap.size + 1 ≤ z ∧ z ≠ w.heap.size + 1 + 1 ∧ z < w.heap.size + 1 + 1) 200 ((w.alloc (.cells #[.int .i64 0, .int .i64 0, .slice none 0 0] 61)).alloc (.cells #[] 200)) (.slice (some ⟨w.heap.size + 1, 0, none⟩) 0 0) ([] : List Eqn) from by
    have h := accP_made (α := Eqn) (w.alloc (.cells #[.int .i64 0, .int .i64 0, .slice none 0 0] 61)) 200
    have e9 : (w.alloc (.cells #[.int .i64 0, .int .i64 0, .slice none 0 0] 61)).heap.size = w.heap.size + 1 := by simp
    rw [e9] at h
    exact h.wk (fun z hz => by subst hz; omega))
  have HB0 := Lib.hid (AccP.mono HA0.out (belowA ((w.alloc (.cells #[.int .i64 0, .int .i64 0, .slice none 0 0] 61)).alloc (.cells #[] 200)) (.cells #[.int .i64 p, .int .i64 U, .slice (some ⟨w.heap.size + 1, 0, none⟩) 0 0] 61)))
  clear HA0
  have hs29 := hs28.alloc #[.int .i64 p, .int .i64 U, .slice (some ⟨w.heap.size + 1, 0, none⟩) 0 0] 61 (n := w.heap.size + 1 + 1) (by simp)
  clear k0_0 k0_1 k0_2 qt0_
  have k0_0 := hs29.cellAt 0 rfl 0 rfl
  have k0_1 := hs29.cellAt 0 rfl 1 rfl
  have k0_2 := hs29.cellAt 0 rfl 2 rfl
  have k2_0 := hs29.cellAt 2 rfl 0 rfl
  have k2_1 := hs29.cellAt 2 rfl 1 rfl
  have k2_2 := hs29.cellAt 2 rfl 2 rfl
  have qt0_ := cellL hs29.bel qt0
  have HS1 := Lib.hid (hs29.sub (bx' := [(w.heap.size, #[.int .i64 0, .int .i64 0, .slice none 0 0], 61), (w.heap.size + 1 + 1, #[.int .i64 p, .int .i64 U, .slice (some ⟨w.heap.size + 1, 0, none⟩) 0 0], 61)]) (fun x hx => by simp at hx ⊢; rcases hx with rfl | rfl <;> simp))
  go_enter Tryz.func141, Tryz.ntmps141
  go_wp2_with fail
  go_loopw [8] (fun nv wl => ∃ (k : Nat) (va : Option Addr) (vc : Nat), k ≤ N ∧ nv = .int .i64 ((k : Int) + 1) ∧ Hid (St w (w.heap.size + 1 + 1 + 1) wl [(w.heap.size, #[.int .i64 0, .int .i64 0, .slice none 0 0], 61), (w.heap.size + 1 + 1, #[.int .i64 p, .int .i64 U, .slice va (ofTo p U ts k).length vc], 61)]) ∧ Hid (AccP (fun z => w.heap.size + 1 ≤ z ∧ z ≠ w.heap.size + 1 + 1 ∧ z < wl.heap.size) 200 wl (.slice va (ofTo p U ts k).length vc) (ofTo p U ts k))) (fun nv _ => N + 1 - (intOf nv).toNat)
  case atStart => exact ⟨0, some ⟨w.heap.size + 1, 0, none⟩, 0, Nat.zero_le _, rfl, HS1.out, HB0.out.wk (fun z hz => ⟨hz.1, hz.2.1, by have := hz.2.2; simp; omega⟩)⟩
  case round =>
    clear HS1 HB0
    obtain ⟨k, va, vc, hk, rfl, hst, hac⟩ := hrel
    have hs2 := hst.out
    have hlo := hs2.hi
    have hlen := (HOF.out k).len
    have k0_0 := hs2.cellAt 0 rfl 0 rfl
    have k0_1 := hs2.cellAt 0 rfl 1 rfl
    have k0_2 := hs2.cellAt 0 rfl 2 rfl
    have k1_0 := hs2.cellAt 1 rfl 0 rfl
    have k1_1 := hs2.cellAt 1 rfl 1 rfl
    have k1_2 := hs2.cellAt 1 rfl 2 rfl
    have qt0_ := cellL hs2.bel qt0
    go_wp2_with fail
    refine (l01Power_c p (U : Int) _ (by omega) (by omega) (by omega) (by rw [HPW.out]; omega)).mono ?_
    rintro e w30 ⟨rfl, rfl⟩
    rw [HPW.out]
    by_cases hlt : k < N
    · have hkI : (k : Int) + 1 < (N : Int) + 1 := by omega
      have HACC := hac
      clear hac
      go_wp2_with fail
      refine (l01Digits_c p (U : Int) ((k : Int) + 1) _ (by omega) (by omega) (by omega) (by omega) (by omega) (by omega)).mono ?_
      rintro e w31 ⟨vv, rfl, fr, hbw31⟩
      have hz_w31 : wr.heap.size ≤ w31.heap.size := by have h9 := hbw31.size; (try simp at h9); omega
      have hs32 := hs2.step hbw31
      have HACC_33 := Lib.hid (AccP.mono HACC.out hbw31)
      clear HACC
      clear k0_0 k0_1 k0_2 k1_0 k1_1 k1_2 qt0_
      have k0_0 := hs32.cellAt 0 rfl 0 rfl
      have k0_1 := hs32.cellAt 0 rfl 1 rfl
      have k0_2 := hs32.cellAt 0 rfl 2 rfl
      have k1_0 := hs32.cellAt 1 rfl 0 rfl
      have k1_1 := hs32.cellAt 1 rfl 1 rfl
      have k1_2 := hs32.cellAt 1 rfl 2 rfl
      have qt0_ := cellL hs32.bel qt0
      rw [Int.toNat_natCast] at fr
      have HEK := Lib.hid (HEQ.out k)
      have hmem := digs_mem p (by omega) U ((k : Int) + 1)
      have HDL := Lib.hid (digs_length p U ((k : Int) + 1))
      generalize digs p U ((k : Int) + 1) = D at *
      have HDM := Lib.hid (show ∀ a, a ∈ D → 0 ≤ a ∧ a ≤ 2 from fun a ha => by have := hmem a ha; omega)
      obtain ⟨al, cl, el, _⟩ := rd_list fr.rd
      rw [HDL.out] at el
      subst el
      have HV := Lib.hid (Fresh.ip fr)
      clear fr hmem
      have hz_wD : w31.heap.size ≤ (w31).heap.size := by simp
      generalize hgen_wD : w31 = wD at *
      clear hgen_wD
      obtain ⟨bD, oD, rfl, _, _⟩ := rd_int_at HV.out.rd 0 (by rw [HDL.out]; omega)
      have hlD := hs32.hi
      have HACD := Lib.hid HACC_33.out
      have HVD := Lib.hid HV.out
      clear HACC_33
      clear HV
      have hs34 := hs32.alloc #[.slice (some ⟨bD, oD, none⟩) U cl, .int .i64 0] 200 (n := wD.heap.size) (by simp)
      clear k0_0 k0_1 k0_2 k1_0 k1_1 k1_2 qt0_
      have k0_0 := hs34.cellAt 0 rfl 0 rfl
      have k0_1 := hs34.cellAt 0 rfl 1 rfl
      have k0_2 := hs34.cellAt 0 rfl 2 rfl
      have k1_0 := hs34.cellAt 1 rfl 0 rfl
      have k1_1 := hs34.cellAt 1 rfl 1 rfl
      have k1_2 := hs34.cellAt 1 rfl 2 rfl
      have k2_0 := hs34.cellAt 2 rfl 0 rfl
      have k2_1 := hs34.cellAt 2 rfl 1 rfl
      have qt0_ := cellL hs34.bel qt0
      have HSE := Lib.hid hs34
      have HBE := Lib.hid (belowA wD (.cells #[.slice (some ⟨bD, oD, none⟩) U cl, .int .i64 0] 200))
      go_wp2_with fail
      go_loopw [10] (fun iv wl => ∃ (i : Nat) (Z : Int), i ≤ U ∧ iv = .int .i64 i ∧ 0 ≤ Z ∧ Z ≤ 4 * i ∧ Hid (St w (wD.heap.size + 1) wl [(w.heap.size, #[.int .i64 0, .int .i64 0, .slice none 0 0], 61), (w.heap.size + 1 + 1, #[.int .i64 p, .int .i64 U, .slice va (ofTo p U ts k).length vc], 61), (wD.heap.size, #[.slice (some ⟨bD, oD, none⟩) U cl, .int .i64 Z], 200)]) ∧ Hid (Below wD.heap.size wD wl) ∧ Hid (Z = dotI (D.take i) (T0.take i))) (fun iv _ => U - (intOf iv).toNat)
      case atStart => exact ⟨0, 0, Nat.zero_le _, rfl, by omega, by omega, HSE.out, HBE.out, by simp [Hid, dotI]⟩
      case round =>
        clear HSE HBE
        obtain ⟨i, Z, hi, rfl, Z0, Z1, hst2, hbl2, hZ⟩ := hrel
        have HB2 := hbl2
        have k0_0 := hst2.out.cellAt 0 rfl 0 rfl
        have k0_1 := hst2.out.cellAt 0 rfl 1 rfl
        have k0_2 := hst2.out.cellAt 0 rfl 2 rfl
        have k1_0 := hst2.out.cellAt 1 rfl 0 rfl
        have k1_1 := hst2.out.cellAt 1 rfl 1 rfl
        have k1_2 := hst2.out.cellAt 1 rfl 2 rfl
        have k2_0 := hst2.out.cellAt 2 rfl 0 rfl
        have k2_1 := hst2.out.cellAt 2 rfl 1 rfl
        have qt0_ := cellL hst2.out.bel qt0
        by_cases hlt2 : i < U
        · have hiI : (i : Int) < U := by omega
          have hiD : i < D.length := by rw [HDL.out]; exact hlt2
          have hiT : i < T0.length := by rw [HL0.out]; exact hlt2
          have hiTI : (i : Int) < T0.length := by omega
          have HVR := Lib.hid (Rd.mono HVD.out.rd HB2.out)
          have HTR := Lib.hid (Rd.mono HT0.out hst2.out.bel)
          obtain ⟨b1, o1, e1, g1, _⟩ := rd_int_at HVR.out i hiD
          obtain ⟨b2, o2, e2, g2, _⟩ := rd_int_at HTR.out i hiT
          simp only [Option.some.injEq, Addr.mk.injEq, and_true] at e1 e2
          obtain ⟨rfl, rfl⟩ := e1
          obtain ⟨rfl, rfl⟩ := e2
          have hA := HDM.out _ (List.getElem_mem hiD)
          have hB := HV0.out i hiT
          have hZS := Lib.hid (dotI_succ2 hiD hiT)
          generalize D[i] = A at *
          generalize T0[i] = B at *
          have hm := mul_le4 hA (show 0 ≤ B ∧ B ≤ 2 by omega)
          have hw1 : IntKind.i64.wrap (A * B) = A * B := i64_in _ (by omega)
          have hw2 : IntKind.i64.wrap (Z + A * B) = Z + A * B := i64_in _ (by omega)
          have HT9 := Lib.hid (And.intro hm (And.intro hA hB))
          clear hA hB
          go_upto_region 9 with fail
          refine wp_region_noPanic (wp_region_tree4 (fun w' => w'.cell? ⟨w.heap.size, 0, none⟩ = some (.int .i64 0) ∧ w'.cell? ⟨w.heap.size, 1, none⟩ = some (.int .i64 0) ∧ w'.cell? ⟨w.heap.size, 2, none⟩ = some (.slice none 0 0) ∧ w'.cell? ⟨w.heap.size + 1 + 1, 0, none⟩ = some (.int .i64 p) ∧ w'.cell? ⟨w.heap.size + 1 + 1, 1, none⟩ = some (.int .i64 U) ∧ w'.cell? ⟨w.heap.size + 1 + 1, 2, none⟩ = some (.slice va (ofTo p U ts k).length vc) ∧ w'.cell? ⟨wD.heap.size, 0, none⟩ = some (.slice (some ⟨bD, oD, none⟩) U cl) ∧ w'.cell? ⟨wD.heap.size, 1, none⟩ = some (.int .i64 Z) ∧ w'.cell? ⟨b0, o0, none⟩ = some (.slice (some ⟨bT, oT, none⟩) T0.length c00) ∧ w'.cell? ⟨bD, oD + i, none⟩ = some (.int .i64 A) ∧ w'.cell? ⟨bT, oT + i, none⟩ = some (.int .i64 B)) (.float 0 (.float 1 (.float 2 (.float 3 (.float 4 (.float 5 (.float 6 (.float 7 (.float 8 (.float 9 (.float 10 (.float 11 (.float 12 (.float 13 (.float 14 (.float 15 (.last 16 .nil))))))))))))))))) (by kernel_rfl) (by kernel_rfl) (by kernel_rfl) rfl ?_ (fun _ _ _ _ _ h => h) ?_)
          · exact ⟨(hst2.out.drew).cellAt 0 rfl 0 rfl, (hst2.out.drew).cellAt 0 rfl 1 rfl, (hst2.out.drew).cellAt 0 rfl 2 rfl, (hst2.out.drew).cellAt 1 rfl 0 rfl, (hst2.out.drew).cellAt 1 rfl 1 rfl, (hst2.out.drew).cellAt 1 rfl 2 rfl, (hst2.out.drew).cellAt 2 rfl 0 rfl, (hst2.out.drew).cellAt 2 rfl 1 rfl, cellL (hst2.out.drew).bel qt0, cellL (belowD _) g1, cellL (belowD _) g2⟩
          have hs35 := hst2.out.drew
          have g1_36 := cellL (belowD _) g1
          clear g1
          have g2_37 := cellL (belowD _) g2
          clear g2
          have HB2_38 := Lib.hid (HB2.out.trans (((belowD _)).mono HB2.out.size))
          clear HB2
          clear k0_0 k0_1 k0_2 k1_0 k1_1 k1_2 k2_0 k2_1 qt0_
          have hz_wd39 : wr.heap.size ≤ (wr.drew).heap.size := by simp
          generalize hgen_wd39 : wr.drew = wd39 at *
          have HG_wd39 := Lib.hid hgen_wd39
          clear hgen_wd39
          (repeat (first | (apply t4_skip rfl (by rfl); try simp only [Act.put, sI, sZ, sS]) | (apply t4_float rfl (by rfl); (· (intro w' hS; go_simp <;> with_reducible rfl)); (try simp only [Act.put, sI, sZ, sS]))))
          refine t4_last rfl (by rfl) (fun K hK => ?_)
          have k0_0 := hs35.cellAt 0 rfl 0 rfl
          have k0_1 := hs35.cellAt 0 rfl 1 rfl
          have k0_2 := hs35.cellAt 0 rfl 2 rfl
          have k1_0 := hs35.cellAt 1 rfl 0 rfl
          have k1_1 := hs35.cellAt 1 rfl 1 rfl
          have k1_2 := hs35.cellAt 1 rfl 2 rfl
          have k2_0 := hs35.cellAt 2 rfl 0 rfl
          have k2_1 := hs35.cellAt 2 rfl 1 rfl
          have qt0_ := cellL hs35.bel qt0
          clear k0_0 k0_1 k0_2 k1_0 k1_1 k1_2 k2_0 k2_1 qt0_
          have k0_0 := hs35.cellAt 0 rfl 0 rfl
          have k0_1 := hs35.cellAt 0 rfl 1 rfl
          have k0_2 := hs35.cellAt 0 rfl 2 rfl
          have k1_0 := hs35.cellAt 1 rfl 0 rfl
          have k1_1 := hs35.cellAt 1 rfl 1 rfl
          have k1_2 := hs35.cellAt 1 rfl 2 rfl
          have k2_0 := hs35.cellAt 2 rfl 0 rfl
          have k2_1 := hs35.cellAt 2 rfl 1 rfl
          have qt0_ := cellL hs35.bel qt0
          have f2_0 := hs35.freeAt 2 rfl 0
          have f2_1 := hs35.freeAt 2 rfl 1
          go_wp2_with fail
          refine t4_nil (NoPanic.normal ?_)
          clear k0_0 k0_1 k0_2 k1_0 k1_1 k1_2 k2_0 k2_1 qt0_
          clear g1_36
          clear g2_37
          have hs40 := hs35.set (p := [_, _]) (by simp <;> omega) 1 (.int .i64 (Z + A * B))
          have HB2_41 := Lib.hid (HB2_38.out.setCell (p := ⟨wD.heap.size, 1, none⟩) (by (try simp) <;> omega) (.int .i64 (Z + A * B)))
          clear HB2_38
          have hz_wE : wd39.heap.size ≤ ((wd39.setCell ⟨wD.heap.size, 1, none⟩ (.int .i64 (Z + A * B)))).heap.size := by simp [World.setCell]
          generalize hgen_wE : (wd39.setCell ⟨wD.heap.size, 1, none⟩ (.int .i64 (Z + A * B))) = wE at *
          clear hgen_wE
          have k0_0 := hs40.cellAt 0 rfl 0 rfl
          have k0_1 := hs40.cellAt 0 rfl 1 rfl
          have k0_2 := hs40.cellAt 0 rfl 2 rfl
          have k1_0 := hs40.cellAt 1 rfl 0 rfl
          have k1_1 := hs40.cellAt 1 rfl 1 rfl
          have k1_2 := hs40.cellAt 1 rfl 2 rfl
          have k2_0 := hs40.cellAt 2 rfl 0 rfl
          have k2_1 := hs40.cellAt 2 rfl 1 rfl
          have qt0_ := cellL hs40.bel qt0
          go_wp2_with fail
          go_roundw
          case rel => exact ⟨i + 1, Z + A * B, hlt2, by go_num, by omega, by omega, hs40, HB2_41.out, by simp only [Hid]; rw [hZS.out, ← hZ.out]⟩
          case measure => simp [intOf]; omega
        · obtain rfl : i = U := by omega
          have hni : ¬ ((i : Int) < i) := by omega
          have HZE := Lib.hid (show (D, Z % p) = eqS p i ts (k + 1) by
            rw [HEK.out, hZ.out, List.take_of_length_le (by rw [HDL.out]; exact Nat.le_refl _), List.take_of_length_le (by rw [HL0.out]; exact Nat.le_refl _)])
          have HEO := Lib.hid (eqS_ok (p := p) (by omega) i ts (k + 1))
          rw [← HZE.out] at HEO
          have HZI := Lib.hid (show I64 (Z % p) from i64_of _ (by have := Int.emod_nonneg Z (show p ≠ 0 by omega); omega) (by have := Int.emod_lt_of_pos Z (show 0 < p by omega); omega))
          have f2_0 := hst2.out.freeAt 2 rfl 0
          have f2_1 := hst2.out.freeAt 2 rfl 1
          go_wp2_with fail
          refine (l07Mod_c Z p _ (by omega) (by omega)).mono ?_
          rintro e w5 ⟨rfl, rfl⟩
          clear hZ
          generalize Z % p = ZP at *
          go_wp2_with fail
          have hs42 := hst2.out.set (p := [_, _]) (by simp <;> omega) 1 (.int .i64 ZP)
          have HB2_43 := Lib.hid (HB2.out.setCell (p := ⟨wD.heap.size, 1, none⟩) (by (try simp) <;> omega) (.int .i64 ZP))
          clear HB2
          clear k0_0 k0_1 k0_2 k1_0 k1_1 k1_2 k2_0 k2_1 qt0_
          have hz_wE : wr.heap.size ≤ ((wr.setCell ⟨wD.heap.size, 1, none⟩ (.int .i64 ZP))).heap.size := by simp [World.setCell]
          generalize hgen_wE : (wr.setCell ⟨wD.heap.size, 1, none⟩ (.int .i64 ZP)) = wE at *
          clear hgen_wE
          have k0_0 := hs42.cellAt 0 rfl 0 rfl
          have k0_1 := hs42.cellAt 0 rfl 1 rfl
          have k0_2 := hs42.cellAt 0 rfl 2 rfl
          have k1_0 := hs42.cellAt 1 rfl 0 rfl
          have k1_1 := hs42.cellAt 1 rfl 1 rfl
          have k1_2 := hs42.cellAt 1 rfl 2 rfl
          have k2_0 := hs42.cellAt 2 rfl 0 rfl
          have k2_1 := hs42.cellAt 2 rfl 1 rfl
          have qt0_ := cellL hs42.bel qt0
          have HSE := Lib.hid hs42
          have HBE := Lib.hid HB2_43.out
          clear HB2_43
          go_loopw [11, 12] (fun bv iv wl => ∃ (j : Nat), j ≤ ts.length ∧ iv = .int .i64 j ∧ bv = .bool ((ts.take j).all (fun t => holdsE p t (D, ZP))) ∧ Hid (Below wE.heap.size wE wl)) (fun _ iv _ => ts.length - (intOf iv).toNat)
          case atStart => exact ⟨0, Nat.zero_le _, rfl, by simp, Below.refl _ _⟩
          case round =>
            obtain ⟨j, hj, rfl, rfl, hbl3⟩ := hrel
            have HB3 := hbl3
            have hs5 := HSE.out.step hbl3.out
            have k0_0 := hs5.cellAt 0 rfl 0 rfl
            have k0_1 := hs5.cellAt 0 rfl 1 rfl
            have k0_2 := hs5.cellAt 0 rfl 2 rfl
            have k1_0 := hs5.cellAt 1 rfl 0 rfl
            have k1_1 := hs5.cellAt 1 rfl 1 rfl
            have k1_2 := hs5.cellAt 1 rfl 2 rfl
            have k2_0 := hs5.cellAt 2 rfl 0 rfl
            have k2_1 := hs5.cellAt 2 rfl 1 rfl
            have qt0_ := cellL hs5.bel qt0
            have HVR := Lib.hid (Rd.mono HVD.out.rd (HBE.out.trans (HB3.out.mono HBE.out.size)))
            have HXR := Lib.hid (show Rd wr [.slice (some ⟨bD, oD, none⟩) i cl, .int .i64 ZP] (D, ZP) from ⟨[_], [_], rfl, HVR.out, ⟨rfl, HZI.out⟩⟩)
            by_cases hlt3 : j < ts.length
            · have hjI : (j : Int) < ts.length := by omega
              have HTR := Lib.hid (Rd.mono HTS.out hs5.bel)
              obtain ⟨_, _, e1, hrt⟩ := rd_list HTR.out
              simp only [Value.slice.injEq] at e1
              obtain ⟨rfl, -, rfl⟩ := e1
              obtain ⟨b3, o3, vj, e3, qj, hrj⟩ := rdSl_one rfl hrt j hlt3
              simp only [Option.some.injEq, Addr.mk.injEq, and_true] at e3
              obtain ⟨rfl, rfl⟩ := e3
              have HTJ := Lib.hid (HTU.out _ (List.getElem_mem hlt3))
              have hall : (ts.take (j + 1)).all (fun t => holdsE p t (D, ZP)) = ((ts.take j).all (fun t => holdsE p t (D, ZP)) && holdsE p ts[j] (D, ZP)) := by
                rw [List.take_succ_eq_append_getElem hlt3, List.all_append]; simp
              have HALL := Lib.hid hall
              obtain ⟨aj, cj, rfl, _⟩ := rd_list hrj
              have HRJ := Lib.hid hrj
              clear hrt hrj hall
              generalize ts[j] = TJ at *
              cases hb : (ts.take j).all (fun t => holdsE p t (D, ZP)) with
              | false =>
                have H9 := Lib.hid (show (ts.take (j + 1)).all (fun t => holdsE p t (D, ZP)) = false by rw [HALL.out, hb]; rfl)
                clear hb
                go_wp2_with fail
                go_roundw
                case rel => exact ⟨j + 1, hlt3, by go_num, by rw [H9.out], HB3.out⟩
                case measure => simp [intOf]; omega
              | true =>
                have H9 := Lib.hid (show (ts.take (j + 1)).all (fun t => holdsE p t (D, ZP)) = holdsE p TJ (D, ZP) by rw [HALL.out, hb]; rfl)
                clear hb
                go_wp2_with fail
                refine (l07Holds_c p (i : Int) (D, ZP) TJ (wD.heap.size) 0 _ _ _ _ HXR.out HRJ.out (hs5.cellAt 2 rfl 0 rfl) (hs5.cellAt 2 rfl 1 rfl) (by omega) (by omega) (by omega) HEO.out HTJ.out).mono ?_
                rintro e w44 ⟨rfl, nw44, rfl⟩
                have hs45 := hs5.drewN nw44
                have qj_46 := cellL (drewN_below _ nw44) qj
                clear qj
                have HB3_47 := Lib.hid (HB3.out.trans (((drewN_below _ nw44)).mono HB3.out.size))
                clear HB3
                have HXR_48 := Lib.hid (Rd.mono HXR.out (drewN_below _ nw44))
                clear HXR
                have HRJ_49 := Lib.hid (Rd.mono HRJ.out (drewN_below _ nw44))
                clear HRJ
                clear k0_0 k0_1 k0_2 k1_0 k1_1 k1_2 k2_0 k2_1 qt0_
                have k0_0 := hs45.cellAt 0 rfl 0 rfl
                have k0_1 := hs45.cellAt 0 rfl 1 rfl
                have k0_2 := hs45.cellAt 0 rfl 2 rfl
                have k1_0 := hs45.cellAt 1 rfl 0 rfl
                have k1_1 := hs45.cellAt 1 rfl 1 rfl
                have k1_2 := hs45.cellAt 1 rfl 2 rfl
                have k2_0 := hs45.cellAt 2 rfl 0 rfl
                have k2_1 := hs45.cellAt 2 rfl 1 rfl
                have qt0_ := cellL hs45.bel qt0
                go_wp2_with fail
                go_roundw
                case rel => exact ⟨j + 1, hlt3, by go_num, by rw [H9.out], HB3_47.out⟩
                case measure => simp [intOf]; omega
            · obtain rfl : j = ts.length := by omega
              have hnj : ¬ ((ts.length : Int) < ts.length) := by omega
              have hqa : (ts.take ts.length).all (fun t => holdsE p t (D, ZP)) = holdA p ts (eqS p i ts (k + 1)) := by rw [List.take_length, ← HZE.out]; rfl
              rw [hqa]
              cases hq : holdA p ts (eqS p i ts (k + 1)) with
              | false =>
                have HSU := Lib.hid (ofTo_no hq)
                clear hq hqa
                have HAX := Lib.hid (HACD.out.mono (HBE.out.trans (HB3.out.mono HBE.out.size)))
                have hzx := (HBE.out.trans (HB3.out.mono HBE.out.size)).size
                go_wp2_with fail
                have hs50 := hs5.low (B' := w.heap.size + 1 + 1 + 1) (bx' := [(w.heap.size, #[.int .i64 0, .int .i64 0, .slice none 0 0], 61), (w.heap.size + 1 + 1, #[.int .i64 p, .int .i64 i, .slice va (ofTo p i ts k).length vc], 61)]) (by omega) (by (try simp) <;> omega) (fun x hx => by simp only [List.mem_cons, List.not_mem_nil, or_false] at hx; rcases hx with rfl | rfl <;> (refine ⟨?_, ?_⟩ <;> (try simp) <;> (try omega)))
                go_roundw
                case rel =>
                  refine ⟨k + 1, va, vc, hlt, by go_num, ?_, ?_⟩
                  · rw [HSU.out]; exact hs50
                  · rw [HSU.out]; exact HAX.out.wk (fun z hz => ⟨hz.1, hz.2.1, by have := hz.2.2; omega⟩)
                case measure => simp [intOf]; omega
              | true =>
                have HSU := Lib.hid (ofTo_yes hq)
                clear hq hqa
                have hbX := HBE.out.trans (HB3.out.mono HBE.out.size)
                have hzx := hbX.size
                have HAX := Lib.hid (HACD.out.mono hbX)
                have HKE := Lib.hid (show Ip _ wr [.slice (some ⟨bD, oD, none⟩) i cl, .int .i64 ZP] ((D, ZP) : Eqn) from ip_cons (B := fun _ => False) (HVD.out.mono hbX) ⟨[], ⟨rfl, rfl, HZI.out⟩, by simp, by simp⟩ (fun k _ h => h) (fun k h => h) (fun k h => h.elim))
                have hb9 := belowA wr (.cells #[.slice (some ⟨bD, oD, none⟩) i cl, .int .i64 ZP] 200)
                have HS9 := Lib.hid (hs5.step hb9)
                clear hbX
                go_wp2_with (at_builtin; refine wpList_append_accP _ rfl _ _ _ rfl E_eqns rfl (AccP.mono HAX.out (belowA _ _)) (Ip.mono HKE.out (belowA _ _)) (fun z h1 h2 => by (try simp only at h1 h2); omega) ⟨wr.heap.size, 0, none⟩ 1 rfl (news2 (cell_at_block (heap_alloc_new _ _)) (cell_at_block (heap_alloc_new _ _))) (by omega) ?_; intro a7 c7 w7 hA7 hB7; have hs8 := HS9.out.butP hB7 (fun z hz => by have := hz.1; omega) (fun x hx hA => by have h1 := hA.1; have h2 := hA.2; simp at hx; rcases hx with rfl | rfl | rfl <;> (try simp only at h1 h2) <;> omega); have q2 := hs8.cellAt 1 rfl 2 rfl; have f2 := hs8.freeAt 1 rfl 2; have g0 := hs8.freeAt 1 rfl 0; have g1 := hs8.freeAt 1 rfl 1)
                have hz7 := hB7.size
                have hz9 : wr.heap.size < w7.heap.size := by (try simp at hz7); omega
                have HA8 := Lib.hid (AccP.setCell (b := w.heap.size + 1 + 1) (o := 2) hA7 (.slice a7 ((ofTo p i ts k).length + 1) c7) (by intro hA9; (try simp at hA9); omega))
                have hs9 := hs8.set (p := [_]) (by simp <;> omega) 2 (.slice a7 ((ofTo p i ts k).length + 1) c7)
                have HSZ := Lib.hid (show (w7.setCell ⟨w.heap.size + 1 + 1, 2, none⟩ (.slice a7 ((ofTo p i ts k).length + 1) c7)).heap.size = w7.heap.size by simp [World.setCell])
                have HII := Lib.hid (show I64 p ∧ I64 (i : Int) from ⟨i64_of _ (by omega) (by omega), i64_of _ (by omega) (by omega)⟩)
                have HXS := Lib.hid (show Rd (w7.setCell ⟨w.heap.size + 1 + 1, 2, none⟩ (.slice a7 ((ofTo p i ts k).length + 1) c7)) [.int .i64 p, .int .i64 i, .slice a7 ((ofTo p i ts k).length + 1) c7] ((p, (i : Int), ofTo p i ts k ++ [(D, ZP)]) : Sys) from ⟨[_], [_, _], rfl, ⟨rfl, HII.out.1⟩, [_], [_], rfl, ⟨rfl, HII.out.2⟩, HA8.out.rd⟩)
                have HVS := Lib.hid (show validS (p, (i : Int), ofTo p i ts k ++ [(D, ZP)]) = true from validS_mk hp (by omega) (by simp; omega) (by rw [HZE.out]; exact (HOF.out k).snoc hp (k + 1)))
                have x0 := hs9.cellAt 1 rfl 0 rfl
                have x1 := hs9.cellAt 1 rfl 1 rfl
                have x2 := hs9.cellAt 1 rfl 2 rfl
                clear hA7 hB7
                go_wp2_with fail
                refine (l07ReducedA_c (p, (i : Int), ofTo p i ts k ++ [(D, ZP)]) (w.heap.size + 1 + 1) _ _ _ _ HXS.out x0 x1 x2 HVS.out).mono ?_
                rintro e w9 ⟨a9, n9, c9, rfl, hA9, hn9, hb9⟩
                have hzA := hb9.size
                rw [HSZ.out] at hzA
                rw [HZE.out, HSU.out] at hA9 hn9
                simp only at hA9 hn9
                subst hn9
                have hs10 := hs9.step hb9
                have y0 := hs10.freeAt 1 rfl 0
                have y1 := hs10.freeAt 1 rfl 1
                have y2 := hs10.freeAt 1 rfl 2
                have z0 := hs10.cellAt 1 rfl 0 rfl
                have z1 := hs10.cellAt 1 rfl 1 rfl
                have z2 := hs10.cellAt 1 rfl 2 rfl
                have HA10 := Lib.hid (((hA9.setCell (b := w.heap.size + 1 + 1) (o := 0) (.int .i64 p) (by (try simp); omega)).setCell (b := w.heap.size + 1 + 1) (o := 1) (.int .i64 i) (by (try simp); omega)).setCell (b := w.heap.size + 1 + 1) (o := 2) (.slice a9 (ofTo p i ts (k + 1)).length c9) (by (try simp); omega))
                have hs11 := ((hs10.set (p := [_]) (by simp <;> omega) 0 (.int .i64 p)).set (p := [_]) (by simp <;> omega) 1 (.int .i64 i)).set (p := [_]) (by simp <;> omega) 2 (.slice a9 (ofTo p i ts (k + 1)).length c9)
                have HS11 := Lib.hid (hs11.low (B' := w.heap.size + 1 + 1 + 1) (bx' := [(w.heap.size, #[.int .i64 0, .int .i64 0, .slice none 0 0], 61), (w.heap.size + 1 + 1, #[.int .i64 p, .int .i64 i, .slice a9 (ofTo p i ts (k + 1)).length c9], 61)]) (by omega) (by omega) (fun x hx => by simp at hx; rcases hx with rfl | rfl <;> (refine ⟨?_, ?_⟩ <;> (try simp) <;> (try omega))))
                clear hA9 hs11
                go_wp2_with fail
                go_roundw
                case rel => exact ⟨k + 1, a9, c9, hlt, by go_num, HS11.out, HA10.out.tight.wk (fun z hz => ⟨by have := hz.1; rw [HSZ.out] at this; omega, by have := hz.1; rw [HSZ.out] at this; omega, hz.2⟩)⟩
                case measure => simp [intOf]; omega
    · obtain rfl : k = N := by omega
      have hnl : ¬ ((k : Int) + 1 < (k : Int) + 1) := by omega
      have f0 := (hs2.freeAt 0 rfl 0)
      have f1 := (hs2.freeAt 0 rfl 1)
      have f2 := (hs2.freeAt 0 rfl 2)
      have hq9 := ((hs2.set (p := []) (by simp <;> omega) 0 (.int .i64 p)).set (p := []) (by simp <;> omega) 1 (.int .i64 U)).set (p := []) (by simp <;> omega) 2 (.slice va (ofTo p U ts k).length vc)
      have x0 := hq9.cellAt 0 rfl 0 rfl
      have x1 := hq9.cellAt 0 rfl 1 rfl
      have x2 := hq9.cellAt 0 rfl 2 rfl
      have HAF := Lib.hid (((hac.out.setCell (b := w.heap.size) (o := 0) (.int .i64 p) (by intro hA9; (try simp only at hA9); omega)).setCell (b := w.heap.size) (o := 1) (.int .i64 U) (by intro hA9; (try simp only at hA9); omega)).setCell (b := w.heap.size) (o := 2) (.slice va (ofTo p U ts k).length vc) (by intro hA9; (try simp only at hA9); omega))
      go_wp2_with fail
      refine bodyPost_ret (v := .agg #[.int .i64 p, .int .i64 U, .slice va (ofTo p U ts k).length vc]) (by simp [results, Tryz.results141, go_sem, x0, x1, x2]) rfl ⟨_, _, _, rfl, HAF.out.wk (fun z hz => by have := hz.1; omega), rfl, hq9.bel⟩
end Go.Proofs.YtoblfnoaepbhfaaGreat
namespace Go.Proofs.YtoblfnoaepbhfaaGreat
open Go.RowKit Go.Shelf Go.IntWalk
open Rep (Rd Own sz)
end Go.Proofs.YtoblfnoaepbhfaaGreat

