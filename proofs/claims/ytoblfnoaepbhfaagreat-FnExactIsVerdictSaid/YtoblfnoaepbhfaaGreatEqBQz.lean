import Derived.Test.YtoblfnoaepbhfaaGreatSysBQz
import Derived.Test.YtoblfnoaepbhfaaGreatSolBQz
import Derived.Test.YtoblfnoaepbhfaaGreatRowsBQz
import Derived.Test.YtoblfnoaepbhfaaGreatKeepBQz
import Derived.Test.YtoblfnoaepbhfaaGreatTmplBQz
import Derived.Test.YtoblfnoaepbhfaaGreatKindsQz
set_option linter.unusedSimpArgs false
set_option linter.unusedVariables false
set_option maxHeartbeats 8000000
set_option maxRecDepth 100000
namespace Go.Proofs.YtoblfnoaepbhfaaGreat
open Go.Proofs.Tryz
open Go.RowKit
def Fp (e : nG) : dF := (e.1, e.2, [])
structure Kz (p : Int) (U : Nat) (L : List nG) (bs : List Int) : Prop where
 good : qI p U 0 (L.map Fp)
 yG : zL p U (L.map Fp) bs
 len : bs.length = L.length
 sorted : ∀ i j (hi : i < bs.length) (hj : j < bs.length), i < j → bs[i] < bs[j]
theorem Je {L : List dF} {d : Nat} (h : d = L.length) : ¬ 0 ≤ iI L d := by
 unfold iI
 rw [h, List.drop_length]
 simp
theorem MB (n : Nat) : ∀ l : List Int, dX l (List.replicate n 0) = 0 := by
 intro l
 unfold dX
 induction l generalizing n with
 | nil => simp
 | cons a l ih =>
  cases n with
  | zero => simp
  | succ n => simp [List.replicate_succ, ih n]
theorem mP (n c : Nat) : (List.replicate n (0 : Int)).getD c 0 = 0 := by simp [List.getD, List.getElem?_replicate]; split <;> rfl
theorem aaM {p : Int} {U n : Nat} (hp : 2 ≤ p) {rows : List dF} {bs : List Int} (hg : qI p U n rows) (hr : zL p U rows bs) (hl : bs.length = rows.length) {x : dF} {m : Nat} (hx : GoodS p U m x)
 (hz : ∀ j (hj : j < bs.length), x.1.getD bs[j].toNat 0 = 0) (h : ∀ v : List Int, v.length = U → wz p v → tV p v rows → uI p v x) : (∀ c, c < U → x.1.getD c 0 = 0) ∧ x.2.1 = 0 := by
 have hf : ¬ 0 ≤ iI rows bs.length := Je hl
 have key : ∀ t : List Int, t.length = U → wz p t → (∀ j (hj : j < bs.length), t.getD bs[j].toNat 0 = 0) → p ∣ dX x.1 t - x.2.1 := by
  intro t ht hrt h0
  have h1 := h _ (by rw [uh]; exact ht) (Az (by omega) _ _ _ hrt _) (Ob (by omega) hg hr hf ht h0)
  unfold uI at h1
  rw [ZX hr ht h0 _ hz] at h1
  exact h1
 have k0 := key (List.replicate U 0) (by simp) (fun a ha => by have := List.eq_of_mem_replicate ha; omega) (fun j _ => mP _ _)
 rw [MB] at k0
 have hr2 : x.2.1 = 0 := by
  obtain ⟨q, hq⟩ := k0
  have h6 : x.2.1 % p = 0 := by rw [show x.2.1 = p * -q by rw [Int.mul_neg]; omega]; exact Int.mul_emod_right _ _
  rwa [Int.emod_eq_of_lt hx.right.1 hx.right.2] at h6
 refine ⟨fun c hcU => ?_, hr2⟩
 by_cases hb : ∃ j, ∃ hj : j < bs.length, bs[j].toNat = c
 · obtain ⟨j, hj, e1⟩ := hb
   rw [← e1]; exact hz j hj
 have k1 := key ((List.replicate U 0).set c 1) (by simp) (fun a ha => by
  rcases List.mem_or_eq_of_mem_set ha with h1 | h1
  · have := List.eq_of_mem_replicate h1; omega
  · omega) (fun j hj => by
    have hne : c ≠ bs[j].toNat := fun e1 => hb ⟨j, hj, e1.symm⟩
    simp only [List.getD, List.getElem?_set_ne hne]
    exact mP _ _)
 rw [Dk _ _ _ _ (by simpa using hcU), MB, mP, hr2] at k1
 obtain ⟨q, hq⟩ := k1
 have hres := uH hx.res c (by rw [hx.len]; exact hcU)
 have h6 : x.1.getD c 0 % p = 0 := by rw [show x.1.getD c 0 = p * q by omega]; exact Int.mul_emod_right _ _
 rwa [Int.emod_eq_of_lt hres.1 hres.2] at h6
theorem MC : ∀ (l v v' : List Int), v.length = v'.length → (∀ c, l.getD c 0 = 0 ∨ v.getD c 0 = v'.getD c 0) → dX l v = dX l v'
 | [], v, v', _, _ => by simp [dX]
 | a :: l, [], [], _, _ => rfl
 | a :: l, [], b :: v', h, _ => by simp at h
 | a :: l, b :: v, [], h, _ => by simp at h
 | a :: l, b :: v, b' :: v', h, hc => by
  have ih := MC l v v' (by simpa using h) (fun c => by have := hc (c + 1); simpa using this)
  have h0 := hc 0
  simp only [List.getD_cons_zero] at h0
  rw [lN, lN, ih]
  rcases h0 with h0 | h0
  · rw [h0]; simp
  · rw [h0]
theorem aed {p : Int} {U n : Nat} (hp : 2 ≤ p) {rows : List dF} {bs : List Int} (hg : qI p U n rows) (hr : zL p U rows bs) {j : Nat} (hj : j < bs.length) {v v' : List Int} (hv : v.length = U) (hv' : v'.length = U) (rv : wz p v) (rv' : wz p v')
 (dv : tV p v rows) (dv' : tV p v' rows) (hs : ∀ c : Nat, (bs[j] : Int) < (c : Int) → v.getD c 0 = v'.getD c 0) : v.getD bs[j].toNat 0 = v'.getD bs[j].toNat 0 := by
 have hjr : j < rows.length := by have := hr.le; omega
 have hb := hr.bnd j _ (List.getElem?_eq_getElem hj)
 have h1 := dv _ (List.getElem_mem hjr)
 have h2 := dv' _ (List.getElem_mem hjr)
 have hc := hr.col j _ j _ (List.getElem?_eq_getElem hjr) (List.getElem?_eq_getElem hj)
 rw [if_pos rfl] at hc
 have hlead := hr.lead j _ _ (List.getElem?_eq_getElem hjr) (List.getElem?_eq_getElem hj)
 have hU : bs[j].toNat < U := by omega
 have e := Dk rows[j].1 v' bs[j].toNat (v.getD bs[j].toNat 0) (by rw [hv']; exact hU)
 have e2 : dX rows[j].1 v = dX rows[j].1 (v'.set bs[j].toNat (v.getD bs[j].toNat 0)) := by
  refine MC _ _ _ (by simp [hv, hv']) (fun c => ?_)
  by_cases hcb : c < bs[j].toNat
  · exact .inl (hlead c (by omega))
  right
  by_cases hcb2 : bs[j].toNat = c
  · subst hcb2
    simp only [List.getD, List.getElem?_set, hv', hU, if_true, Option.getD_some]
  rw [hs c (by omega)]
  simp only [List.getD, List.getElem?_set_ne hcb2]
 rw [hc, Int.one_mul] at e
 unfold uI at h1 h2
 have h3 := Int.dvd_sub h1 h2
 rw [e2, e] at h3
 have r1 := uH rv bs[j].toNat (by rw [hv]; exact hU)
 have r2 := uH rv' bs[j].toNat (by rw [hv']; exact hU)
 obtain ⟨q, hq⟩ := h3
 have h5 : v.getD bs[j].toNat 0 - v'.getD bs[j].toNat 0 = p * q := by omega
 have h6 : q = 0 := by
  rcases Int.lt_trichotomy q 0 with h | h | h
  · have : p * q ≤ p * -1 := Int.mul_le_mul_of_nonneg_left (by omega) (by omega)
    omega
  · exact h
  have : p * 1 ≤ p * q := Int.mul_le_mul_of_nonneg_left (by omega) (by omega)
  omega
 rw [h6] at h5
 omega
theorem uQ {p : Int} {U : Nat} {rows : List dF} {bs t : List Int} (h : zL p U rows bs) (ht : t.length = U) {c : Nat} (hc : ∀ j (hj : j < bs.length), bs[j].toNat ≠ c) : ∀ j, j ≤ bs.length → (sQ p rows bs t j).getD c 0 = t.getD c 0
 | 0, _ => rfl
 | j + 1, hj => by
  have hjb : j < bs.length := by omega
  have e : bs.getD j 0 = bs[j] := by simp [List.getD, hjb]
  rw [sQ, e]
  simp only [List.getD, List.getElem?_set_ne (hc j hjb)]
  simpa [List.getD] using uQ h ht hc j (by omega)
theorem EF {p : Int} {U : Nat} {rows : List dF} {bs t : List Int} (h : zL p U rows bs) (ht : t.length = U) {k : Nat} (hk : k < bs.length) : ∀ j, k < j → j ≤ bs.length → (sQ p rows bs t j).getD bs[k].toNat 0 = ((rows.getD k row0).2.1 - dX (rows.getD k row0).1 t) % p
 | 0, h0, _ => absurd h0 (Nat.not_lt_zero _)
 | j + 1, hkj, hj => by
  have hjb : j < bs.length := by omega
  have e : bs.getD j 0 = bs[j] := by simp [List.getD, hjb]
  have b1 := h.bnd j _ (List.getElem?_eq_getElem hjb)
  have b2 := h.bnd k _ (List.getElem?_eq_getElem hk)
  rw [sQ, e]
  by_cases hjk : j = k
  · subst hjk
    simp only [List.getD, List.getElem?_set, uh, ht, show bs[j].toNat < U by omega, if_true, Option.getD_some]
  · have hne : bs[j].toNat ≠ bs[k].toNat := by have := afo h hjb hk hjk; omega
    simp only [List.getD, List.getElem?_set_ne hne]
    simpa [List.getD] using EF h ht hk j (by omega) (by omega)
theorem aaO {p : Int} {U n : Nat} (hp : 2 ≤ p) {rows : List dF} {bs : List Int} (hg : qI p U n rows) (hr : zL p U rows bs) (hl : bs.length = rows.length) {c : Nat} (hcU : c < U) (hc : ∀ j (hj : j < bs.length), bs[j].toNat ≠ c) :
 ∃ v v' : List Int, v.length = U ∧ v'.length = U ∧ wz p v ∧ wz p v' ∧ tV p v rows ∧ tV p v' rows ∧ (∀ d, c < d → v.getD d 0 = v'.getD d 0) ∧ v.getD c 0 ≠ v'.getD c 0 := by
 have hf : ¬ 0 ≤ iI rows bs.length := Je hl
 have l0 : (List.replicate U (0 : Int)).length = U := by simp
 have l1 : ((List.replicate U (0 : Int)).set c 1).length = U := by simp
 have r0 : wz p (List.replicate U (0 : Int)) := fun a ha => by have := List.eq_of_mem_replicate ha; omega
 have r1 : wz p ((List.replicate U (0 : Int)).set c 1) := fun a ha => by
  rcases List.mem_or_eq_of_mem_set ha with h1 | h1
  · have := List.eq_of_mem_replicate h1; omega
  · omega
 have z0 : ∀ j (hj : j < bs.length), (List.replicate U (0 : Int)).getD bs[j].toNat 0 = 0 := fun j _ => mP _ _
 have z1 : ∀ j (hj : j < bs.length), ((List.replicate U (0 : Int)).set c 1).getD bs[j].toNat 0 = 0 := fun j hj => by
  simp only [List.getD, List.getElem?_set_ne (hc j hj).symm]
  exact mP _ _
 refine ⟨_, _, by rw [uh]; exact l0, by rw [uh]; exact l1, Az (by omega) rows bs _ r0 bs.length, Az (by omega) rows bs _ r1 bs.length, Ob (by omega) hg hr hf l0 z0, Ob (by omega) hg hr hf l1 z1, fun d hd => ?_, ?_⟩
 · by_cases hb : ∃ j, ∃ hj : j < bs.length, bs[j].toNat = d
   · obtain ⟨j, hj, rfl⟩ := hb
     rw [EF hr l0 hj _ hj (Nat.le_refl _), EF hr l1 hj _ hj (Nat.le_refl _)]
     have hjr : j < rows.length := by omega
     have er : rows.getD j row0 = rows[j] := by simp [List.getD, hjr]
     have hlead := hr.lead j _ _ (List.getElem?_eq_getElem hjr) (List.getElem?_eq_getElem hj) c (by omega)
     rw [er, Dk _ _ _ _ (by simpa using hcU), hlead, Int.zero_mul, Int.add_zero]
   have hfd : ∀ j (hj : j < bs.length), bs[j].toNat ≠ d := fun j hj e => hb ⟨j, hj, e⟩
   rw [uQ hr l0 hfd _ (Nat.le_refl _), uQ hr l1 hfd _ (Nat.le_refl _)]
   simp only [List.getD, List.getElem?_set_ne (Nat.ne_of_lt hd)]
 rw [uQ hr l0 hc _ (Nat.le_refl _), uQ hr l1 hc _ (Nat.le_refl _), mP]
 simp only [List.getD, List.getElem?_set, List.length_replicate, hcU, if_true, Option.getD_some]
 decide
theorem Fq : ∀ (a b : List Int), (∀ i j (hi : i < a.length) (hj : j < a.length), i < j → a[i] < a[j]) → (∀ i j (hi : i < b.length) (hj : j < b.length), i < j → b[i] < b[j]) → (∀ x, x ∈ a ↔ x ∈ b) → a = b
 | [], [], _, _, _ => rfl
 | [], y :: b, _, _, h => by have := (h y).2 (by simp); cases this
 | x :: a, [], _, _, h => by have := (h x).1 (by simp); cases this
 | x :: a, y :: b, ha, hb, h => by
  have xa : ∀ z, z ∈ a → x < z := fun z hz => by
   obtain ⟨i, hi, rfl⟩ := List.getElem_of_mem hz
   exact ha 0 (i + 1) (by simp) (by simpa using hi) (by omega)
  have yb : ∀ z, z ∈ b → y < z := fun z hz => by
   obtain ⟨i, hi, rfl⟩ := List.getElem_of_mem hz
   exact hb 0 (i + 1) (by simp) (by simpa using hi) (by omega)
  have h1 : x = y := by
   rcases List.mem_cons.1 ((h x).1 (by simp)) with e | e
   · exact e
   · rcases List.mem_cons.1 ((h y).2 (by simp)) with e2 | e2
     · exact e2.symm
     · have := xa y e2; have := yb x e; omega
  subst h1
  congr 1
  refine Fq a b (fun i j hi hj hij => ha (i + 1) (j + 1) (by simpa using hi) (by simpa using hj) (by omega)) (fun i j hi hj hij => hb (i + 1) (j + 1) (by simpa using hi) (by simpa using hj) (by omega)) (fun z => ?_)
  constructor
  · intro hz
    rcases List.mem_cons.1 ((h z).1 (List.mem_cons_of_mem _ hz)) with e | e
    · have := xa z hz; omega
    · exact e
  · intro hz
    rcases List.mem_cons.1 ((h z).2 (List.mem_cons_of_mem _ hz)) with e | e
    · have := yb z hz; omega
    · exact e
theorem aaP {p : Int} {U : Nat} (hp : 2 ≤ p) {L M : List nG} {bs cs : List Int} (hL : Kz p U L bs) (hM : Kz p U M cs) (h : ∀ v : List Int, v.length = U → wz p v → (tV p v (L.map Fp) ↔ tV p v (M.map Fp))) : L = M := by
 have lL : bs.length = (L.map Fp).length := by simpa using hL.len
 have lM : cs.length = (M.map Fp).length := by simpa using hM.len
 have key : ∀ {L M : List nG} {bs cs : List Int}, Kz p U L bs → Kz p U M cs → (∀ v : List Int, v.length = U → wz p v → (tV p v (L.map Fp) ↔ tV p v (M.map Fp))) → ∀ x, x ∈ bs → x ∈ cs := by
  intro L M bs cs hL hM h x hx
  obtain ⟨j, hj, rfl⟩ := List.getElem_of_mem hx
  have hb := hL.yG.bnd j _ (List.getElem?_eq_getElem hj)
  by_cases hc : ∃ k, ∃ hk : k < cs.length, cs[k].toNat = bs[j].toNat
  · obtain ⟨k, hk, e⟩ := hc
    have hb2 := hM.yG.bnd k _ (List.getElem?_eq_getElem hk)
    have : cs[k] = bs[j] := by omega
    rw [← this]
    exact List.getElem_mem hk
  obtain ⟨v, v', h1, h2, h3, h4, h5, h6, h7, h8⟩ := aaO hp hM.good hM.yG (by simpa using hM.len) (c := bs[j].toNat) (by omega) (fun k hk e => hc ⟨k, hk, e⟩)
  exact absurd (aed hp hL.good hL.yG hj h1 h2 h3 h4 ((h v h1 h3).2 h5) ((h v' h2 h4).2 h6) (fun c hc => h7 c (by omega))) h8
 have hbc : bs = cs := Fq _ _ hL.sorted hM.sorted (fun x => ⟨key hL hM h x, key hM hL (fun v a b => (h v a b).symm) x⟩)
 subst hbc
 have hlen : L.length = M.length := by rw [← hL.len, ← hM.len]
 refine List.ext_getElem hlen (fun i hi hi2 => ?_)
 have hib : i < bs.length := by rw [hL.len]; exact hi
 have eL : (L.map Fp)[i]'(by simpa using hi) = Fp L[i] := by simp
 have eM : (M.map Fp)[i]'(by simpa using hi2) = Fp M[i] := by simp
 have gL : GoodS p U 0 (Fp L[i]) := hL.good _ (List.mem_map.2 ⟨_, List.getElem_mem hi, rfl⟩)
 have gM : GoodS p U 0 (Fp M[i]) := hM.good _ (List.mem_map.2 ⟨_, List.getElem_mem hi2, rfl⟩)
 have gx := yB (p := p) (by omega) 1 gL gM
 have hz := aaM hp hL.good hL.yG (by simpa using hL.len) gx (fun j hj => by
  have hb := hL.yG.bnd j _ (List.getElem?_eq_getElem hj)
  have c1 := hL.yG.col i _ j _ (List.getElem?_eq_getElem (by simpa using hi)) (List.getElem?_eq_getElem hj)
  have c2 := hM.yG.col i _ j _ (List.getElem?_eq_getElem (by simpa using hi2)) (List.getElem?_eq_getElem hj)
  rw [eL] at c1
  rw [eM] at c2
  show (uF p 1 (Fp L[i]).1 (Fp M[i]).1).getD _ 0 = 0
  rw [show uF p = fun k l m => List.zipWith (fun a b => (a - k * b) % p) l m from rfl]
  simp only
  rw [Dh _ _ _ _ (by rw [gL.len]; omega) (by rw [gM.len]; omega), c1, c2]
  split <;> rfl) (fun v h1 h2 h3 => by
   have d1 := h3 _ (List.mem_map.2 ⟨_, List.getElem_mem hi, rfl⟩)
   have d2 := (h v h1 h2).1 h3 _ (List.mem_map.2 ⟨_, List.getElem_mem hi2, rfl⟩)
   exact (LQ 1 gL gM d2).2 d1)
 show L[i] = M[i]
 have gLl : L[i].1.length = U := gL.len
 have gMl : M[i].1.length = U := gM.len
 refine Prod.ext (List.ext_getElem (by rw [gLl, gMl]) (fun c h1 h2 => ?_)) ?_
 · have hcU : c < U := by omega
   have h3 := hz.1 c hcU
   rw [show (rP p 1 (Fp L[i]) (Fp M[i])).1 = List.zipWith (fun a b => (a - 1 * b) % p) (Fp L[i]).1 (Fp M[i]).1 from rfl, Dh _ _ _ _ (by rw [gL.len]; exact hcU) (by rw [gM.len]; exact hcU)] at h3
   have q1 := gL.res.get c (by rw [gL.len]; exact hcU)
   have q2 := gM.res.get c (by rw [gM.len]; exact hcU)
   simp only [Fp, List.getD, List.getElem?_eq_getElem h1, List.getElem?_eq_getElem h2, Option.getD_some, Int.one_mul] at h3 q1 q2
   obtain ⟨q, hq⟩ := Int.dvd_of_emod_eq_zero h3
   have h6 : q = 0 := by
    rcases Int.lt_trichotomy q 0 with h | h | h
    · have : p * q ≤ p * -1 := Int.mul_le_mul_of_nonneg_left (by omega) (by omega)
      omega
    · exact h
    have : p * 1 ≤ p * q := Int.mul_le_mul_of_nonneg_left (by omega) (by omega)
    omega
   rw [h6] at hq
   omega
 have h3 := hz.2
 have q1 := gL.right
 have q2 := gM.right
 simp only [rP, Fp, Int.one_mul] at h3 q1 q2
 obtain ⟨q, hq⟩ := Int.dvd_of_emod_eq_zero h3
 have h6 : q = 0 := by
  rcases Int.lt_trichotomy q 0 with h | h | h
  · have : p * q ≤ p * -1 := Int.mul_le_mul_of_nonneg_left (by omega) (by omega)
    omega
  · exact h
  have : p * 1 ≤ p * q := Int.mul_le_mul_of_nonneg_left (by omega) (by omega)
  omega
 rw [h6] at hq
 omega
theorem Fv {p : Int} {U n : Nat} (hp : p = 2 ∨ p = 3) {rows : List dF} (hg : qI p U n rows) : ∀ u, u ≤ U → ∀ i j (hi : i < (dK (bJ p) rows u).2.length) (hj : j < (dK (bJ p) rows u).2.length), i < j → (dK (bJ p) rows u).2[i] < (dK (bJ p) rows u).2[j]
 | 0, _ => fun i j hi _ _ => absurd hi (Nat.not_lt_zero _)
 | u + 1, hu => by
  have ih := Fv hp hg u (by omega)
  have hr := wZ hp hg u (by omega)
  have key : (dK (bJ p) rows (u + 1)).2 = (dK (bJ p) rows u).2 ∨ (dK (bJ p) rows (u + 1)).2 = (dK (bJ p) rows u).2 ++ [(u : Int)] := by
   show (jV (bJ p) u (dK (bJ p) rows u)).2 = _ ∨ (jV (bJ p) u (dK (bJ p) rows u)).2 = _
   unfold jV
   split
   · exact .inl rfl
   · exact .inr rfl
  rcases key with e | e
  · rw [e]; exact ih
  · rw [e]
    intro i j hi hj hij
    simp only [List.length_append, List.length_cons, List.length_nil] at hi hj
    rw [List.getElem_append_left (show i < (dK (bJ p) rows u).2.length by omega)]
    by_cases hju : j < (dK (bJ p) rows u).2.length
    · rw [List.getElem_append_left hju]
      exact ih i j _ hju hij
    · rw [List.getElem_append_right (by omega)]
      have := (hr.bnd i _ (List.getElem?_eq_getElem (show i < (dK (bJ p) rows u).2.length by omega))).2
      simp
      omega
theorem aaQ {s : Sys} (hv : yY s = true) (hf : ¬ 0 ≤ oH s) : Kz s.1 s.2.1.toNat (fO s).2.2 (aT s).2 := by
 have K := zQ hv
 have hp := K.hp
 have hu := K.hu
 rw [zT hf]
 have hle := K.le
 have hlen := K.len
 have e0 : ∀ i : Nat, ((sU (aT s).1 (aT s).2.length).map Fp)[i]? = if i < (aT s).2.length then ((aT s).1[i]?).map (fun r => (r.1, r.2.1, [])) else none := by
  intro i
  unfold sU
  rw [List.map_map, List.getElem?_map]
  by_cases h : i < (aT s).2.length
  · rw [if_pos h, List.getElem?_take_of_lt h]; rfl
  rw [if_neg h, List.getElem?_eq_none (by simp; omega)]; rfl
 have e1 : ∀ i r, ((sU (aT s).1 (aT s).2.length).map Fp)[i]? = some r → i < (aT s).2.length ∧ ∃ q, (aT s).1[i]? = some q ∧ r = (q.1, q.2.1, []) := by
  intro i r h
  rw [e0] at h
  split at h
  · rename_i h1
    rw [Option.map_eq_some_iff] at h
    obtain ⟨q, hq, rfl⟩ := h
    exact ⟨h1, q, hq, rfl⟩
  cases h
 have hrl : (sU (aT s).1 (aT s).2.length).length = (aT s).2.length := tY _ _ K.yG.le
 refine ⟨fun r hr => ?_, ?_, hrl.symm, ?_⟩
 · obtain ⟨i, hi⟩ := List.mem_iff_getElem?.1 hr
   obtain ⟨_, q, hq, rfl⟩ := e1 i r hi
   have g := K.good q (List.mem_iff_getElem?.2 ⟨i, hq⟩)
   exact ⟨g.len, rfl, g.res, g.right, fun a ha => by cases ha⟩
 · refine ⟨by rw [List.length_map, hrl]; exact Nat.le_refl _, K.yG.bnd, fun i r j b hr hb => ?_, fun i r hr hi => ?_, fun i r b hr hb c hc => ?_⟩
   · obtain ⟨_, q, hq, rfl⟩ := e1 i r hr
     exact K.yG.col i q j b hq hb
   · have := (e1 i r hr).1
     omega
   obtain ⟨_, q, hq, rfl⟩ := e1 i r hr
   exact K.yG.lead i q b hq hb c hc
 obtain ⟨p, u, l⟩ := s
 exact Fv hp (xg (U := u.toNat) (by omega) (fun e he => by rw [show ((u.toNat : Nat) : Int) = u by simp only at hu; omega]; exact K.he e he)) _ (Nat.le_refl _)
theorem aee {p : Int} {U : Nat} : Kz p U [] [] :=
 ⟨fun r hr => by simp at hr, { le := Nat.le_refl _, bnd := fun j b hb => by simp at hb, col := fun i r j b hr hb => by simp at hb, low := fun i r hr _ => by simp at hr, lead := fun i r b hr hb => by simp at hb }, rfl, fun i j hi _ _ => absurd hi (Nat.not_lt_zero _)⟩
theorem QT {p : Int} {v : List Int} (hp : 0 < p) : ∀ (L : List nG), (∀ e, e ∈ L → 0 ≤ e.2 ∧ e.2 < p) → (tV p v (L.map Fp) ↔ L.all (fA p v) = true)
 | [], _ => by simp [tV]
 | e :: L, h => by
  have ih := QT (v := v) hp L (fun x hx => h x (List.mem_cons_of_mem _ hx))
  have he := h e (List.mem_cons_self ..)
  rw [List.all_cons, Bool.and_eq_true, ← ih, yH (a := e.1) (b := e.2) (y := []) hp he.1 he.2]
  constructor
  · intro hh; exact ⟨hh _ (List.mem_cons_self ..), fun r hr => hh r (List.mem_cons_of_mem _ hr)⟩
  · rintro ⟨h1, h2⟩ r hr
    rcases List.mem_cons.1 hr with rfl | hr
    · exact h1
    · exact h2 r hr
theorem Jf {s : Sys} (hv : yY s = true) {v : List Int} (h : s.2.2.all (fA s.1 v) = true) : ¬ 0 ≤ oH s := by
 intro hf
 rw [← tX hv, yI hf] at h
 have hp := (zQ hv).hp
 simp only [List.all_cons, List.all_nil, Bool.and_true] at h
 have h5 : dX (List.replicate s.2.1.toNat 0) v = 0 := uJ _ _ (fun c hc => mP _ _)
 simp only [fA, h5, decide_eq_true_eq] at h
 simp at h
def holdA (p : Int) (ts : List (List Int)) (e : nG) : Bool := ts.all (fun t => fA p t e)
def Gg (p : Int) (a i : Nat) : nG := (eu p a ((i : Int) / p), (i : Int) % p)
def nO (p : Int) (a : Nat) (ts : List (List Int)) (k : Nat) : List nG := ((List.range k).map (Gg p a)).filter (holdA p ts)
theorem aaR {p : Int} {a : Nat} {ts : List (List Int)} {k : Nat} (h : holdA p ts (Gg p a k) = true) : nO p a ts (k + 1) = nO p a ts k ++ [Gg p a k] := by
 unfold nO
 rw [List.range_succ, List.map_append, List.filter_append]
 simp [h]
theorem aef {p : Int} {a : Nat} {ts : List (List Int)} {k : Nat} (h : holdA p ts (Gg p a k) = false) : nO p a ts (k + 1) = nO p a ts k := by
 unfold nO
 rw [List.range_succ, List.map_append, List.filter_append]
 simp [h]
theorem Jg (p : Int) (a : Nat) (ts : List (List Int)) (k : Nat) : (nO p a ts k).length ≤ k := by
 unfold nO
 refine Nat.le_trans (List.length_filter_le _ _) ?_
 simp
def eqS (p : Int) (a : Nat) (ts : List (List Int)) (n : Nat) : nG := (eu p a (n : Int), dX (eu p a (n : Int)) (ts.getD 0 []) % p)
def jO (p : Int) (a : Nat) (ts : List (List Int)) : Nat → List nG
 | 0 => []
 | k + 1 => if holdA p ts (eqS p a ts (k + 1)) = true then (fO (p, (a : Int), jO p a ts k ++ [eqS p a ts (k + 1)])).2.2 else jO p a ts k
theorem QU {p : Int} {a : Nat} {ts : List (List Int)} {k : Nat} (h : holdA p ts (eqS p a ts (k + 1)) = true) : fO (p, (a : Int), jO p a ts k ++ [eqS p a ts (k + 1)]) = (p, (a : Int), jO p a ts (k + 1)) := by
 rw [jO, if_pos h]
 unfold fO
 rfl
theorem OG {p : Int} {a : Nat} {ts : List (List Int)} {k : Nat} (h : holdA p ts (eqS p a ts (k + 1)) = false) : jO p a ts (k + 1) = jO p a ts k := by
 rw [jO, if_neg (by rw [h]; decide)]
theorem Jh {p : Int} {U : Nat} {l : List Int} {b : Int} (h1 : l.length = U) (h2 : wz p l) (h3 : 0 ≤ b ∧ b < p) : gK p (U : Int) (l, b) = true := by
 unfold gK bG
 simp only [Bool.and_eq_true, decide_eq_true_eq, List.all_eq_true]
 exact ⟨⟨by rw [h1], fun c hc => Ec (by have := h2 c hc; omega)⟩, Ec (by omega)⟩
theorem Xo {p : Int} (hp : 2 ≤ p) (a i : Nat) : gK p (a : Int) (Gg p a i) = true :=
 Jh (by simp) (kK p (by omega) a _) ⟨Int.emod_nonneg _ (by omega), Int.emod_lt_of_pos _ (by omega)⟩
theorem aaS {p : Int} (hp : 2 ≤ p) (a : Nat) (ts : List (List Int)) (n : Nat) : gK p (a : Int) (eqS p a ts n) = true :=
 Jh (by simp) (kK p (by omega) a _) ⟨Int.emod_nonneg _ (by omega), Int.emod_lt_of_pos _ (by omega)⟩
theorem Xp {p : Int} (hp : 2 ≤ p) (a : Nat) (ts : List (List Int)) (k : Nat) : ∀ e, e ∈ nO p a ts k → gK p (a : Int) e = true := by
 intro e he
 unfold nO at he
 obtain ⟨h1, _⟩ := List.mem_filter.1 he
 obtain ⟨i, _, rfl⟩ := List.mem_map.1 h1
 exact Xo hp a i
theorem Xq {p : Int} (h : p = 2 ∨ p = 3) : sW p = true := by rcases h with rfl | rfl <;> decide
theorem Ji {p : Int} {U : Nat} {l : List nG} (hp : p = 2 ∨ p = 3) (hU : 1 ≤ U ∧ U ≤ 12) (hl : l.length ≤ 1000) (he : ∀ e, e ∈ l → gK p (U : Int) e = true) : yY (p, (U : Int), l) = true := by
 simp only [yY, Bool.and_eq_true, decide_eq_true_eq, List.all_eq_true]
 exact ⟨⟨⟨Xq hp, Ec (by omega)⟩, hl⟩, he⟩
theorem Yy {p : Int} {U : Nat} {l : List nG} (hp : p = 2 ∨ p = 3) (hU : 1 ≤ U ∧ U ≤ 12) (hl : l.length ≤ 24) (he : ∀ e, e ∈ l → gK p (U : Int) e = true) : jo (p, (U : Int), l) = true := by
 simp only [jo, Bool.and_eq_true, decide_eq_true_eq, List.all_eq_true]
 exact ⟨⟨⟨Xq hp, Ec (by omega)⟩, hl⟩, he⟩
theorem aeg {p : Int} {U : Nat} {L : List nG} {bs : List Int} (h : Kz p U L bs) : ∀ e, e ∈ L → gK p (U : Int) e = true := by
 intro e he
 have g := h.good _ (List.mem_map.2 ⟨e, he, rfl⟩)
 exact Jh g.len g.res g.right
theorem aaT {p : Int} {U : Nat} {L : List nG} {bs : List Int} (h : Kz p U L bs) : L.length ≤ U := by
 have key : ∀ i (hi : i < bs.length), (i : Int) ≤ bs[i] := by
  intro i
  induction i with
  | zero => intro hi; exact (h.yG.bnd 0 _ (List.getElem?_eq_getElem hi)).1
  | succ i ih =>
   intro hi
   have h1 := ih (by omega)
   have h2 := h.sorted i (i + 1) (by omega) hi (by omega)
   omega
 rw [← h.len]
 rcases Nat.eq_zero_or_pos bs.length with h0 | h0
 · omega
 have h1 := key (bs.length - 1) (by omega)
 have h2 := (h.yG.bnd (bs.length - 1) _ (List.getElem?_eq_getElem (by omega))).2
 omega
theorem Xr {p : Int} {U : Nat} {L : List nG} {bs : List Int} (h : Kz p U L bs) (hp : 2 ≤ p) (v : List Int) : tV p v (L.map Fp) ↔ L.all (fA p v) = true :=
 QT (by omega) L (fun e he => (h.good _ (List.mem_map.2 ⟨e, he, rfl⟩)).right)
structure UG (p : Int) (a : Nat) (ts : List (List Int)) (k : Nat) : Prop where
 red : ∃ bs, Kz p a (jO p a ts k) bs
 ans : ∀ v : List Int, (jO p a ts k).all (fA p v) = true ↔ ∀ n, 1 ≤ n → n ≤ k → holdA p ts (eqS p a ts n) = true → fA p v (eqS p a ts n) = true
theorem UG.len {p : Int} {a : Nat} {ts : List (List Int)} {k : Nat} (h : UG p a ts k) : (jO p a ts k).length ≤ a := h.red.elim (fun _ h => aaT h)
theorem UG.ok {p : Int} {a : Nat} {ts : List (List Int)} {k : Nat} (h : UG p a ts k) : ∀ e, e ∈ jO p a ts k → gK p (a : Int) e = true := h.red.elim (fun _ h => aeg h)
theorem UG.snoc {p : Int} {a : Nat} {ts : List (List Int)} {k : Nat} (h : UG p a ts k) (hp : p = 2 ∨ p = 3) (n : Nat) : ∀ e, e ∈ jO p a ts k ++ [eqS p a ts n] → gK p (a : Int) e = true := by
 intro e he
 rcases List.mem_append.1 he with h1 | h1
 · exact h.ok e h1
 simp only [List.mem_cons, List.not_mem_nil, or_false] at h1
 subst h1
 exact aaS (by omega) a ts n
theorem GK {p : Int} {a : Nat} {ts : List (List Int)} (hp : p = 2 ∨ p = 3) (ha : 1 ≤ a ∧ a ≤ 4) (hts : 0 < ts.length) : ∀ k, UG p a ts k
 | 0 => ⟨⟨[], aee⟩, fun v => by simp only [jO, List.all_nil, true_iff]; intro n h1 h2; omega⟩
 | k + 1 => by
  have ih := GK hp ha hts k
  cases h : holdA p ts (eqS p a ts (k + 1)) with
  | false =>
   refine ⟨by rw [OG h]; exact ih.red, fun v => ?_⟩
   rw [OG h, ih.ans v]
   constructor
   · intro hh n h1 h2 h3
     by_cases hn : n = k + 1
     · subst hn; rw [h] at h3; cases h3
     · exact hh n h1 (by omega) h3
   · intro hh n h1 h2 h3
     exact hh n h1 (by omega) h3
  | true =>
   have hw := Ji (p := p) (U := a) (l := jO p a ts k ++ [eqS p a ts (k + 1)]) hp (by omega) (by have := ih.len; simp; omega) (ih.snoc hp _)
   have e := QU h
   have hall : ∀ v : List Int, (jO p a ts (k + 1)).all (fA p v) = true ↔ ∀ n, 1 ≤ n → n ≤ k + 1 → holdA p ts (eqS p a ts n) = true → fA p v (eqS p a ts n) = true := by
    intro v
    have h1 := tX hw v
    rw [e] at h1
    simp only at h1
    rw [h1, List.all_append, Bool.and_eq_true, ih.ans v]
    simp only [List.all_cons, List.all_nil, Bool.and_true]
    constructor
    · rintro ⟨h2, h3⟩ n h4 h5 h6
      by_cases hn : n = k + 1
      · subst hn; exact h3
      · exact h2 n h4 (by omega) h6
    · intro h2
      exact ⟨fun n h4 h5 h6 => h2 n h4 (by omega) h6, h2 (k + 1) (by omega) (Nat.le_refl _) h⟩
   refine ⟨?_, hall⟩
   have hf : ¬ 0 ≤ oH (p, (a : Int), jO p a ts k ++ [eqS p a ts (k + 1)]) := by
    refine Jf hw (v := ts[0]) ?_
    have h1 := tX hw ts[0]
    rw [← h1, e]
    simp only
    rw [hall]
    intro n _ _ h6
    unfold holdA at h6
    rw [List.all_eq_true] at h6
    exact h6 _ (List.getElem_mem hts)
   have hr := aaQ hw hf
   rw [e] at hr
   exact ⟨_, by simpa using hr⟩
theorem MF (p : Int) : ∀ a, eu p a 0 = List.replicate a 0
 | 0 => rfl
 | a + 1 => by rw [eu, Int.zero_ediv, MF p a, Int.zero_emod]; exact List.replicate_succ'.symm
theorem of_same {p : Int} {a N : Nat} {ts : List (List Int)} (hp : p = 2 ∨ p = 3) (ha : 1 ≤ a ∧ a ≤ 4) (hts : 0 < ts.length) (hN : p ^ a = ((N + 1 : Nat) : Int)) (Ug : N ≤ 80) :
 fO (p, (a : Int), nO p a ts ((N + 1) * p.toNat)) = (p, (a : Int), jO p a ts N) := by
 have hk := GK hp ha hts N
 have hlen := Jg p a ts ((N + 1) * p.toNat)
 have hb : (N + 1) * p.toNat ≤ 81 * 3 := Nat.mul_le_mul (by omega) (by omega)
 have hw := Ji (p := p) (U := a) (l := nO p a ts ((N + 1) * p.toNat)) hp (by omega) (by omega) (Xp (by omega) a ts _)
 have hf : ¬ 0 ≤ oH (p, (a : Int), nO p a ts ((N + 1) * p.toNat)) := by
  refine Jf hw (v := ts[0]) ?_
  simp only
  rw [List.all_eq_true]
  intro e he
  unfold nO at he
  have h6 := (List.mem_filter.1 he).2
  unfold holdA at h6
  rw [List.all_eq_true] at h6
  exact h6 _ (List.getElem_mem hts)
 have hr := aaQ hw hf
 simp only [Int.toNat_natCast] at hr
 obtain ⟨bs, hb2⟩ := hk.red
 have e3 : fO (p, (a : Int), nO p a ts ((N + 1) * p.toNat)) = (p, (a : Int), (fO (p, (a : Int), nO p a ts ((N + 1) * p.toNat))).2.2) := by unfold fO; rfl
 rw [e3]
 congr 2
 refine aaP (by omega) hr hb2 (fun v hv hres => ?_)
 rw [Xr hr (by omega), Xr hb2 (by omega), hk.ans v]
 have h1 := tX hw v
 simp only at h1
 rw [h1]
 have hp0 : p ≠ 0 := by omega
 have ht0 : ∀ e, holdA p ts e = true → dX e.1 ts[0] % p = e.2 := fun e h => by
  unfold holdA at h
  rw [List.all_eq_true] at h
  have := h _ (List.getElem_mem hts)
  simpa [fA] using this
 have e0 : ts.getD 0 [] = ts[0] := by simp [List.getD, hts]
 constructor
 · intro h n hn1 hn2 h3
   rw [List.all_eq_true] at h
   refine h _ ?_
   unfold nO
   refine List.mem_filter.2 ⟨List.mem_map.2 ⟨n * p.toNat + (eqS p a ts n).2.toNat, List.mem_range.2 ?_, ?_⟩, h3⟩
   · have hr2 : (eqS p a ts n).2 < p := Int.emod_lt_of_pos _ (by omega)
     have hr1 : 0 ≤ (eqS p a ts n).2 := Int.emod_nonneg _ (by omega)
     have : (n + 1) * p.toNat ≤ (N + 1) * p.toNat := Nat.mul_le_mul_right _ (by omega)
     rw [Nat.add_mul, Nat.one_mul] at this
     omega
   have hr2 : (eqS p a ts n).2 < p := Int.emod_lt_of_pos _ (by omega)
   have hr1 : 0 ≤ (eqS p a ts n).2 := Int.emod_nonneg _ (by omega)
   have ec : ((n * p.toNat + (eqS p a ts n).2.toNat : Nat) : Int) = (eqS p a ts n).2 + p * (n : Int) := by
    rw [Int.natCast_add, Int.natCast_mul, Int.toNat_of_nonneg hr1, Int.toNat_of_nonneg (by omega), Int.mul_comm]; omega
   unfold Gg
   rw [ec, Int.add_mul_ediv_left _ _ hp0, Int.add_mul_emod_self_left, Int.ediv_eq_zero_of_lt hr1 hr2, Int.emod_eq_of_lt hr1 hr2, Int.zero_add]
   rfl
 intro h
 rw [List.all_eq_true]
 intro e he
 unfold nO at he
 obtain ⟨h4, h5⟩ := List.mem_filter.1 he
 obtain ⟨i, hi, rfl⟩ := List.mem_map.1 h4
 have hi2 := List.mem_range.1 hi
 have hd0 : 0 ≤ (i : Int) / p := Int.ediv_nonneg (by omega) (by omega)
 have hdN : (i : Int) / p < (N + 1 : Nat) := Int.ediv_lt_of_lt_mul (by omega) (by
  have : (i : Int) < (((N + 1) * p.toNat : Nat) : Int) := by omega
  rwa [Int.natCast_mul, Int.toNat_of_nonneg (by omega : 0 ≤ p)] at this)
 have h6 := ht0 _ h5
 have en : (((i : Int) / p).toNat : Int) = (i : Int) / p := Int.toNat_of_nonneg hd0
 have ee : Gg p a i = eqS p a ts ((i : Int) / p).toNat := by
  unfold eqS
  rw [en, e0]
  unfold Gg at h6 ⊢
  simp only at h6
  rw [h6]
 by_cases hz : ((i : Int) / p).toNat = 0
 · have hz2 : (i : Int) / p = 0 := by omega
   unfold Gg at h6 ⊢
   simp only at h6
   rw [hz2, MF] at h6 ⊢
   have d0 : ∀ t : List Int, dX (List.replicate a 0) t = 0 := fun t => uJ _ _ (fun c hc => mP _ _)
   rw [d0] at h6
   unfold fA
   simp only [d0, decide_eq_true_eq]
   exact h6
 rw [ee] at h5 ⊢
 exact h _ (by omega) (by omega) h5
def QV (p : Int) (r : bH) : Sys := fO (p, r.1, nO p r.1.toNat r.2 (p ^ (r.1.toNat + 1)).toNat)
theorem MG {p : Int} {r : bH} (h : kN p r = true) : 0 < r.2.length := by
 unfold kN at h
 rw [Bool.and_eq_true] at h
 exact of_decide_eq_true h.1
theorem GL {p : Int} {r : bH} (hp : sW p = true) (hr : fJ p r = true) (h : kN p r = true) :
 ∃ N : Nat, N ≤ 80 ∧ p ^ r.1.toNat = ((N + 1 : Nat) : Int) ∧ QV p r = (p, r.1, jO p r.1.toNat r.2 N) ∧ (jO p r.1.toNat r.2 N).length ≤ 4 ∧ ∀ e, e ∈ jO p r.1.toNat r.2 N → gK p r.1 e = true := by
 have hp2 := lH hp
 obtain ⟨hs, ha, ht⟩ := gV hr
 obtain ⟨ar, ts⟩ := r
 simp only at ha ht ⊢
 obtain ⟨a, rfl⟩ : ∃ a : Nat, ar = (a : Int) := ⟨ar.toNat, by omega⟩
 rw [Int.toNat_natCast]
 have ha2 : 1 ≤ a ∧ a ≤ 4 := by omega
 have arf : ∃ N : Nat, N ≤ 80 ∧ p ^ a = ((N + 1 : Nat) : Int) := by
  have h4 : a = 1 ∨ a = 2 ∨ a = 3 ∨ a = 4 := by omega
  rcases hp2 with rfl | rfl <;> rcases h4 with rfl | rfl | rfl | rfl
  · exact ⟨1, by decide, by decide⟩
  · exact ⟨3, by decide, by decide⟩
  · exact ⟨7, by decide, by decide⟩
  · exact ⟨15, by decide, by decide⟩
  · exact ⟨2, by decide, by decide⟩
  · exact ⟨8, by decide, by decide⟩
  · exact ⟨26, by decide, by decide⟩
  exact ⟨80, by decide, by decide⟩
 obtain ⟨N, hN, Tj⟩ := arf
 have hl : 0 < ts.length := MG h
 have hk := GK (p := p) (a := a) hp2 ha2 hl N
 refine ⟨N, hN, Tj, ?_, by have := hk.len; omega, hk.ok⟩
 rw [← of_same hp2 ha2 hl Tj hN]
 unfold QV
 simp only [Int.toNat_natCast]
 congr 3
 rw [Int.pow_succ, Tj]
 rcases hp2 with rfl | rfl <;> congr 1
def dG (p : Int) (V : Nat) (sc l : List Int) : Nat → List Int
 | 0 => List.replicate V 0
 | i + 1 => (dG p V sc l i).set (sc.getD i 0).toNat (((dG p V sc l i).getD (sc.getD i 0).toNat 0 + l.getD i 0) % p)
@[simp] theorem yO (p : Int) (V : Nat) (sc l : List Int) : ∀ i, (dG p V sc l i).length = V
 | 0 => by simp [dG]
 | i + 1 => by simp [dG, yO p V sc l i]
theorem yP {p : Int} (hp : 0 < p) (V : Nat) (sc l : List Int) : ∀ i, wz p (dG p V sc l i)
 | 0 => fun a ha => by have := List.eq_of_mem_replicate ha; omega
 | i + 1 => fun a ha => by
  rcases List.mem_or_eq_of_mem_set ha with h | h
  · exact yP hp V sc l i a h
  · subst h; exact ⟨Int.emod_nonneg _ (by omega), Int.emod_lt_of_pos _ hp⟩
def vX (p : Int) (V : Nat) (sc : List Int) (e : nG) : nG := (dG p V sc e.1 sc.length, e.2)
def lC (t : dB) (c : nI) : bH := t.2.getD c.1.toNat (0, [])
def QX (t : dB) (V : Nat) (c : nI) : List nG := (QV t.1 (lC t c)).2.2.map (vX t.1 V c.2)
def fK (t : dB) (V : Nat) (cs : List nI) (k : Nat) : List nG := (cs.take k).flatMap (QX t V)
theorem UH (t : dB) (V : Nat) (cs : List nI) : fK t V cs 0 = [] := rfl
theorem Cb (t : dB) (V : Nat) (cs : List nI) (k : Nat) (h : k < cs.length) : fK t V cs (k + 1) = fK t V cs k ++ QX t V cs[k] := by
 unfold fK
 rw [List.take_succ_eq_append_getElem h, List.flatMap_append]
 simp
def Cc (t : dB) (x : Inst) : Bool := x.2.all (fun c => kN t.1 (lC t c))
def pq (t : dB) (x : Inst) : Sys × Int :=
 if (sW t.1 && Cc t x) = true then (if 24 < (fK t x.1.toNat x.2 x.2.length).length then ((0, 0, []), 3) else ((t.1, x.1, fK t x.1.toNat x.2 x.2.length), 0)) else ((0, 0, []), 4)
theorem aaU {t : dB} {V : Nat} {c : nI} (hp : sW t.1 = true) (hr : fJ t.1 (lC t c) = true) (h : kN t.1 (lC t c) = true) : (QX t V c).length ≤ 4 := by
 obtain ⟨N, _, _, h3, h4, _⟩ := GL hp hr h
 unfold QX
 rw [h3]
 simpa using h4
theorem EG {t : dB} {V : Nat} {cs : List nI} (hp : sW t.1 = true) (hc : ∀ c, c ∈ cs → fJ t.1 (lC t c) = true ∧ kN t.1 (lC t c) = true) : ∀ k, k ≤ cs.length → (fK t V cs k).length ≤ 4 * k
 | 0, _ => by simp [UH]
 | k + 1, hk => by
  have ih := EG (V := V) hp hc k (by omega)
  have h1 := hc _ (List.getElem_mem (show k < cs.length by omega))
  have h2 := aaU (V := V) hp h1.1 h1.2
  rw [Cb t V cs k (by omega), List.length_append]
  omega
theorem Jj {t : dB} {x : Inst} (h : cu t x = true) : ∀ c, c ∈ x.2 → fJ t.1 (lC t c) = true ∧ (0 ≤ c.1 ∧ c.1 < t.2.length) ∧ bG x.1 c.2 (lC t c).1 = true := by
 intro c hc
 have h1 := aX h
 have h2 := h1.2.2.2 c hc
 simp only [sV, Bool.and_eq_true] at h2
 have h3 := bQ h2.1
 have h4 : c.1.toNat < t.2.length := by omega
 refine ⟨?_, by omega, h2.2⟩
 unfold lC
 rw [List.getD, List.getElem?_eq_getElem h4]
 exact (dV h1.1).2.2 _ (List.getElem_mem h4)
open Go.Shelf Go.IntWalk
open Rep (Rd Own sz)
theorem aeh {α : Type} [Rep α] {A : Nat → Prop} {w : World} {a : Option Addr} {n c : Nat} {l : List α} (h : Ip A w [.slice a n c] l) (m : Nat) (hm : m ≤ l.length) (h0 : 0 < m) : Ip A w [.slice a m c] (l.take m) := by
 obtain ⟨ps, ho, hn, hA⟩ := h
 rcases jS ho with ⟨rfl, _⟩ | ⟨g, o, c', cur, e, cZ, hv, hc, hcm, hg, rfl, hp, hel⟩
 · simp at hm; omega
 simp only [Value.slice.injEq] at hv
 obtain ⟨rfl, -, rfl⟩ := hv
 have hsub : ∀ k, k ∈ List.flatten (cZ.take m) → k ∈ List.flatten cZ := fun k hk => by
  obtain ⟨q, hq, hkq⟩ := List.mem_flatten.1 hk
  exact List.mem_flatten.2 ⟨q, List.mem_of_mem_take hq, hkq⟩
 refine ⟨g :: List.flatten (cZ.take m), ⟨_, rfl, .inr ⟨g, o, _, cur, e, cZ.take m, ?_, by rw [List.length_take]; omega, hcm, hg, rfl, by rw [List.length_take, List.length_take, hp], fun i hi => ?_⟩⟩, ?_, ?_⟩
 · rw [List.length_take, Nat.min_eq_left hm]
 · rw [List.length_take] at hi
   obtain ⟨p, vs, h1, h2, h3⟩ := hel i (by omega)
   exact ⟨p, vs, by rw [List.getElem?_take_of_lt (by omega)]; exact h1, by rw [List.getElem_take]; exact h2, h3⟩
 · rw [List.nodup_cons] at hn ⊢
   refine ⟨fun h => hn.1 (hsub g h), ?_⟩
   have e : List.flatten cZ = List.flatten (cZ.take m) ++ List.flatten (cZ.drop m) := by rw [← List.flatten_append, List.take_append_drop]
   rw [e] at hn
   exact (List.nodup_append.1 hn.2).1
 intro k hk
 rcases List.mem_cons.1 hk with rfl | hk
 · exact hA _ (List.mem_cons_self ..)
 exact hA _ (List.mem_cons_of_mem _ (hsub k hk))
theorem Jk {p : Int} {r : bH} (h : fJ p r = true) : ∀ t, t ∈ r.2 → bG p t r.1 = true := by
 intro t ht
 obtain ⟨j, hj, rfl⟩ := List.getElem_of_mem ht
 have h1 := BU (gV h).2.2 j hj
 unfold nX at h1
 rw [Bool.and_eq_true] at h1
 have e : r.2.getD j [] = r.2[j] := by simp [List.getD, hj]
 rw [e] at h1
 exact h1.1
theorem Gh (p u : Int) (x : nG) (pb eb : Nat) (v0 v1 : Value) (w : World) (l : List (List Int)) (hp0 : 1 ≤ p) (hp : p ≤ 3) (hu : u ≤ 1000) (he : gK p u x = true) (hl : ∀ t, t ∈ l → bG p t u = true) (hx : Rd w [v0, v1] x)
 (cp : w.cell? ⟨pb, 0, none⟩ = some (.int .i64 p)) (c0 : w.cell? ⟨eb, 0, none⟩ = some v0) (c1 : w.cell? ⟨eb, 1, none⟩ = some v1) :
 IX 273 #[.pointer (some ⟨pb, 0, none⟩), .pointer (some ⟨eb, 0, none⟩)] w l (fun t => !fA p t x) := by
 intro W y u0 hb hy hmem
 obtain ⟨gp, g0, g1⟩ := fQ hb cp c0 c1
 have HX := qH (Rd.mono hx hb)
 have HY := qH hy
 have HE := qH he
 have HO := qH (hl y hmem)
 obtain ⟨ay, cy, rfl, _⟩ := ah hy
 have z := au rfl hx
 obtain ⟨a, c, rfl, _⟩ := ah z.1
 obtain ⟨rfl, _⟩ := aG z.2
 clear hx z hy he hl hb hmem cp c0 c1
 show Calls prog 273 #[_, .pointer (some ⟨pb, 0, none⟩), .pointer (some ⟨eb, 0, none⟩)] W _
 go_enter func273, ntmps273
 go_wp2_with fail
 refine (ZR p u x y _ _ _ _ HX.out HY.out hp0 hp hu HE.out HO.out).mono ?_
 rintro e w1 ⟨rfl, hb1⟩
 go_wp2_with fail
 go_ret
 exact ⟨rfl, hb1⟩
theorem KA (p : Int) (r : bH) (v0 v1 : Value) (w : World) (hr : Rd w [v0, v1] r) (hpr : sW p = true) (hok : fJ p r = true) (UJ : kN p r = true) :
 Calls prog 151 #[.int .i64 p, .agg #[v0, v1]] w fun e w' => ∃ a n c, e = .returned (.agg #[.int .i64 p, .int .i64 r.1, .slice a n c]) ∧ aQ w.heap.size w' [.int .i64 p, .int .i64 r.1, .slice a n c] (QV p r) ∧ Below w.heap.size w w' := by
 have hp2 := lH hpr
 obtain ⟨N, hN, Tj, _, _, _⟩ := GL hpr hok UJ
 have har := (gV hok).2.1
 have HTU := qH (Jk hok)
 obtain ⟨ar, ts⟩ := r
 simp only at har Tj HTU
 obtain ⟨U, hU⟩ : ∃ U : Nat, ar = U := ⟨ar.toNat, by omega⟩
 subst hU
 rw [Int.toNat_natCast] at Tj
 have hU4 : 1 ≤ U ∧ U ≤ 4 := by omega
 obtain ⟨M, hM⟩ : ∃ M : Nat, M = (N + 1) * p.toNat := ⟨_, rfl⟩
 have hM2 : M ≤ 243 := by rw [hM]; exact Nat.mul_le_mul (show N + 1 ≤ 81 by omega) (show p.toNat ≤ 3 by omega)
 have hpw : p ^ (U + 1) = (M : Int) := by
  rw [Int.pow_succ, Tj, hM, Int.natCast_mul, Int.toNat_of_nonneg (by omega)]
 have HPW := qH (show p ^ ((U : Int) + 1).toNat = (M : Int) by rw [show ((U : Int) + 1).toNat = U + 1 by omega]; exact hpw)
 have HEQ := qH (show QV p ((U : Int), ts) = fO (p, (U : Int), nO p U ts M) by
  unfold QV
  simp only [Int.toNat_natCast]
  rw [hpw, Int.toNat_natCast])
 have HWD := qH (Ji (p := p) (U := U) (l := nO p U ts M) hp2 (by omega) (by have := Jg p U ts M; omega) (Xp (by omega) U ts M))
 rw [HEQ.out]
 have zr := au rfl hr
 obtain ⟨rfl, _⟩ := aG zr.1
 have Tm := qH zr.2
 obtain ⟨at0, ct0, rfl, _⟩ := ah zr.2
 have eg : ∀ args w, (callFunc 273 args).run prog w = .ok (.enter 273 args) w := enters_of func273 (by kernel_rfl) rfl
 have hIp : I64 p := jf _ (by omega) (by omega)
 have hIU : I64 (U : Int) := jf _ (by omega) (by omega)
 clear hr zr hok UJ hpr Tj hpw har hM
 have hs1 := (St.start w).alloc #[.int .i64 p] 2 (n := w.heap.size) (by simp)
 have hs2 := hs1.alloc #[.int .i64 U, .slice at0 ts.length ct0] 118 (n := w.heap.size + 1) (by simp)
 have hs3 := hs2.alloc #[.int .i64 0, .int .i64 0, .slice none 0 0] 61 (n := w.heap.size + 1 + 1) (by simp)
 have hs4 := hs3.alloc #[.int .i64 p, .int .i64 U, .slice none 0 0] 61 (n := w.heap.size + 1 + 1 + 1) (by simp)
 obtain ⟨aF, aJ, aK, aW, aY, bn, dM, fF⟩ := hs4.c8 0 0 1 0 1 1 2 0 2 1 2 2 3 0 3 1
 have gY := hs4.c 3 2
 have HS1 := qH hs4
 go_enter func151, ntmps151
 go_wp2_with fail
 refine (Ar p ((U : Int) + 1) _ (by omega) (by omega) (by omega) (by rw [HPW.out]; omega)).mono ?_
 rintro e w1 ⟨rfl, rfl⟩
 rw [HPW.out]
 go_wp2_with fail
 go_loopw [18] (fun iv wl => ∃ (k : Nat) (va : Option Addr) (vc : Nat), k ≤ M ∧ iv = .int .i64 k ∧ Hid (St w (w.heap.size + 1 + 1 + 1 + 1) wl [(w.heap.size, #[.int .i64 p], 2), (w.heap.size + 1, #[.int .i64 U, .slice at0 ts.length ct0], 118), (w.heap.size + 1 + 1, #[.int .i64 0, .int .i64 0, .slice none 0 0], 61), (w.heap.size + 1 + 1 + 1, #[.int .i64 p, .int .i64 U, .slice va (nO p U ts k).length vc], 61)]) ∧ Hid (bM (fun z => w.heap.size + 1 + 1 + 1 + 1 ≤ z ∧ z < wl.heap.size) 200 wl (.slice va (nO p U ts k).length vc) (nO p U ts k))) (fun iv _ => M - (intOf iv).toNat)
 case atStart => exact ⟨0, none, 0, Nat.zero_le _, rfl, HS1.out, bM.nil _ _ _⟩
 clear HS1 hs1 aF aJ aK aW aY bn dM fF gY
 obtain ⟨k, va, vc, hk, rfl, hst, hac⟩ := hrel
 have hs2 := hst.out
 have hlo := hs2.hi
 have hlen := Jg p U ts k
 obtain ⟨aF, aJ, aK, aW, aY, bn, dM, fF⟩ := hs2.c8 0 0 1 0 1 1 2 0 2 1 2 2 3 0 3 1
 have gY := hs2.c 3 2
 by_cases hlt : k < M
 rotate_left
 · obtain rfl : k = M := by omega
   have hnl : ¬ ((k : Int) < k) := by omega
   have HXS := qH (show Rd wr [.int .i64 p, .int .i64 U, .slice va (nO p U ts k).length vc] ((p, (U : Int), nO p U ts k) : Sys) from ⟨[_], [_, _], rfl, ⟨rfl, hIp⟩, [_], [_], rfl, ⟨rfl, hIU⟩, hac.out.rd⟩)
   go_wp2_with fail
   refine (Es (p, (U : Int), nO p U ts k) _ _ _ _ HXS.out HWD.out).mono ?_
   rintro e w5 ⟨a9, n9, c9, rfl, yQ, hb5⟩
   have D8 := qH yQ
   clear yQ
   have Fz : wr.heap.size ≤ w5.heap.size := hZ hb5
   have y9 := hs2.step hb5
   clear aF aJ aK aW aY bn dM fF gY
   obtain ⟨aF, aJ, aK, aW, aY, bn, dM, fF⟩ := y9.c8 0 0 1 0 1 1 2 0 2 1 2 2 3 0 3 1
   have gY := y9.c 3 2
   have f0 := (y9.aC 2 rfl 0)
   have f1 := (y9.aC 2 rfl 1)
   have f2 := (y9.aC 2 rfl 2)
   have hq9 := ((y9.set (p := [_, _]) (by simp <;> omega) 0 (.int .i64 p)).set (p := [_, _]) (by simp <;> omega) 1 (.int .i64 U)).set (p := [_, _]) (by simp <;> omega) 2 (.slice a9 n9 c9)
   obtain ⟨x0, x1, x2⟩ := hq9.c3 2 0 2 1 2 2
   go_wp2_with fail
   refine bodyPost_ret (v := .agg #[.int .i64 p, .int .i64 U, .slice a9 n9 c9]) (by simp [results, results151, go_sem, x0, x1, x2]) rfl ⟨_, _, _, rfl, ?_, hq9.bel⟩
   exact (((D8.out.setCell (a := ⟨w.heap.size + 1 + 1, 0, none⟩) (by (try simp) <;> omega) _).setCell (a := ⟨w.heap.size + 1 + 1, 1, none⟩) (by (try simp) <;> omega) _).setCell (a := ⟨w.heap.size + 1 + 1, 2, none⟩) (by (try simp) <;> omega) _).lower (by omega)
 have QH : (k : Int) < M := by omega
 have QY := hac
 clear hac
 go_wp2_with fail
 refine (Di p ((U : Int) + 1) (k : Int) _ (by omega) (by omega) (by omega) (by omega) (by omega) (by omega)).mono ?_
 rintro e w5 ⟨vv, rfl, fr, AZ⟩
 have Fz : wr.heap.size ≤ w5.heap.size := hZ AZ
 have hs6 := hs2.step AZ
 have aaV := qH (bM.mono QY.out AZ)
 clear QY
 clear aF aJ aK aW aY bn dM fF gY
 obtain ⟨aF, aJ, aK, aW, aY, bn, dM, fF⟩ := hs6.c8 0 0 1 0 1 1 2 0 2 1 2 2 3 0 3 1
 have gY := hs6.c 3 2
 rw [show ((U : Int) + 1).toNat = U + 1 by omega] at fr
 obtain ⟨al, cl, el, hrl⟩ := ah fr.rd
 rw [iH] at el
 subst el
 have hcl := (aN hrl).1
 rw [iH] at hcl
 obtain ⟨bl, ol, rfl, ql, hIl⟩ := aI fr.rd U (by rw [iH]; omega)
 have hke : (eu p (U + 1) (k : Int))[U]'(by rw [iH]; omega) = (k : Int) % p := by
  simp only [eu]
  rw [List.getElem_append_right (by simp)]
  simp
 rw [hke] at ql hIl
 have HV := qH (show Ip _ w5 [.slice (some ⟨bl, ol, none⟩) U cl] (eu p U ((k : Int) / p)) from by
  have h := aeh (aQ.ip fr) U (by rw [iH]; omega) hU4.1
  rw [show (eu p (U + 1) (k : Int)).take U = eu p U ((k : Int) / p) by simp only [eu]; rw [List.take_append_of_le_length (by simp), List.take_of_length_le (by simp)]] at h
  exact h)
 have HIL := qH hIl
 have hUc : (U : Int) ≤ cl := by omega
 have hUl : (U : Int) < (U : Int) + 1 := by omega
 clear fr hrl hke hIl
 generalize hKR : (k : Int) % p = KR at *
 go_upto_region 6 with fail
 refine iT (fun w' => cI w' w.heap.size 0 p ∧ cI w' (w.heap.size + 1) 0 U ∧ cV w' (w.heap.size + 1) 1 (.slice at0 ts.length ct0) ∧ cI w' (w.heap.size + 1 + 1) 0 0 ∧ cI w' (w.heap.size + 1 + 1) 1 0 ∧ cV w' (w.heap.size + 1 + 1) 2 (.slice none 0 0) ∧ cI w' (w.heap.size + 1 + 1 + 1) 0 p ∧ cI w' (w.heap.size + 1 + 1 + 1) 1 U ∧ cV w' (w.heap.size + 1 + 1 + 1) 2 (.slice va (nO p U ts k).length vc) ∧ cI w' bl (ol + U) KR) (.z [0,1,2,3,4,5,6,7,8,9] (.hard 10 (.last 11 .nil))) ?_ ?_
 · exact ⟨(hs6.drew).c 0 0, (hs6.drew).c 1 0, (hs6.drew).c 1 1, (hs6.drew).c 2 0, (hs6.drew).c 2 1, (hs6.drew).c 2 2, (hs6.drew).c 3 0, (hs6.drew).c 3 1, (hs6.drew).c 3 2, qC (belowD _) ql⟩
 have hs8 := hs6.drew
 have amb := qC (belowD _) ql
 clear ql
 have Xt := qH (bM.mono aaV.out (belowD _))
 clear aaV
 have afO := qH (Ip.mono HV.out (belowD _))
 clear HV
 clear aF aJ aK aW aY bn dM fF gY
 have Xu : w5.heap.size ≤ (w5.drew).heap.size := by simp
 generalize w5.drew = zZ at *
 refine aV ?_
 refine gX fun K hK => ?_
 go_wp2_with fail
 have fV := hs8.alloc #[.slice none 0 0, .int .i64 0] 200 (n := zZ.heap.size) (by simp)
 have afP := qC (aB _ (.cells #[.slice none 0 0, .int .i64 0] 200)) amb
 clear amb
 have Xv := qH (bM.mono Xt.out (aB _ (.cells #[.slice none 0 0, .int .i64 0] 200)))
 clear Xt
 have afQ := qH (Ip.mono afO.out (aB _ (.cells #[.slice none 0 0, .int .i64 0] 200)))
 clear afO
 have QA : zZ.heap.size + 1 ≤ ((zZ.alloc (.cells #[.slice none 0 0, .int .i64 0] 200))).heap.size := by simp
 generalize (zZ.alloc (.cells #[.slice none 0 0, .int .i64 0] 200)) = wA at *
 refine ⟨⟨fV.c 0 0, fV.c 1 0, fV.c 1 1, fV.c 2 0, fV.c 2 1, fV.c 2 2, fV.c 3 0, fV.c 3 1, fV.c 3 2, afP⟩, ?_⟩
 refine aV ?_
 refine JY fun K hK => ?_
 obtain ⟨aF, aJ, aK, aW, aY, bn, dM, fF⟩ := fV.c8 0 0 1 0 1 1 2 0 2 1 2 2 3 0 3 1
 obtain ⟨gY, nP, qQ⟩ := fV.c3 3 2 4 0 4 1
 have axK := fV.aC 4 rfl 0
 have axL := fV.aC 4 rfl 1
 go_wp2_with fail
 refine iF ?_
 clear aF aJ aK aW aY bn dM fF gY nP qQ
 clear afP
 have Eu := fV.set (p := [_, _, _, _]) (by simp <;> omega) 0 (.slice (some ⟨bl, ol, none⟩) U cl)
 have jP := Eu.set (p := [_, _, _, _]) (by simp <;> omega) 1 (.int .i64 KR)
 have Xw := qH (bM.setCell (b := zZ.heap.size) (o := 1) (bM.setCell (b := zZ.heap.size) (o := 0) Xv.out (.slice (some ⟨bl, ol, none⟩) U cl) (by intro jG; (try simp only at jG); omega)) (.int .i64 KR) (by intro jG; (try simp only at jG); omega))
 clear Xv
 have aaW := qH (Ip.setCell (b := zZ.heap.size) (o := 1) (Ip.setCell (b := zZ.heap.size) (o := 0) afQ.out (.slice (some ⟨bl, ol, none⟩) U cl) (by intro jG; (try simp only at jG); omega)) (.int .i64 KR) (by intro jG; (try simp only at jG); omega))
 clear afQ
 have afR : wA.heap.size ≤ (((wA.setCell ⟨zZ.heap.size, 0, none⟩ (.slice (some ⟨bl, ol, none⟩) U cl)).setCell ⟨zZ.heap.size, 1, none⟩ (.int .i64 KR))).heap.size := by simp [World.setCell]
 generalize ((wA.setCell ⟨zZ.heap.size, 0, none⟩ (.slice (some ⟨bl, ol, none⟩) U cl)).setCell ⟨zZ.heap.size, 1, none⟩ (.int .i64 KR)) = wE at *
 obtain ⟨aF, aJ, aK, aW, aY, bn, dM, fF⟩ := jP.c8 0 0 1 0 1 1 2 0 2 1 2 2 3 0 3 1
 obtain ⟨gY, nP, qQ⟩ := jP.c3 3 2 4 0 4 1
 have HEE := qH (show (eu p U ((k : Int) / p), KR) = Gg p U k by unfold Gg; rw [hKR])
 have HXR := qH (show Rd wE [.slice (some ⟨bl, ol, none⟩) U cl, .int .i64 KR] (eu p U ((k : Int) / p), KR) from ⟨[_], [_], rfl, aaW.out.rd, ⟨rfl, HIL.out⟩⟩)
 have HEO := qH (Xo (p := p) (by omega) U k)
 rw [← HEE.out] at HEO
 go_wp2_with fail
 refine (jR ts _ 273 _ _ _ (Rd.mono Tm.out jP.bel) eg (Gh p (U : Int) (eu p U ((k : Int) / p), KR) w.heap.size zZ.heap.size _ _ _ ts (by omega) (by omega) (by omega) HEO.out HTU.out HXR.out (jP.c 0 0) (jP.c 4 0) (jP.c 4 1))).mono ?_
 rintro e w5 ⟨rfl, hb5⟩
 have hall := mM ts (fun t => fA p t (eu p U ((k : Int) / p), KR))
 have Fz : wE.heap.size ≤ w5.heap.size := hZ hb5
 have qw := jP.step hb5
 have Dv := qH (bM.mono Xw.out hb5)
 clear Xw
 have afS := qH (Ip.mono aaW.out hb5)
 clear aaW
 clear aF aJ aK aW aY bn dM fF gY nP qQ
 obtain ⟨aF, aJ, aK, aW, aY, bn, dM, fF⟩ := qw.c8 0 0 1 0 1 1 2 0 2 1 2 2 3 0 3 1
 obtain ⟨gY, nP, qQ⟩ := qw.c3 3 2 4 0 4 1
 have MH : (!ts.any fun t => !fA p t (eu p U ((k : Int) / p), KR)) = holdA p ts (Gg p U k) := by rw [hall, ← HEE.out]; rfl
 cases hq : ts.any (fun t => !fA p t (eu p U ((k : Int) / p), KR))
 rotate_left
 · rw [hq] at MH
   have Oh := qH (aef (p := p) (a := U) (ts := ts) (k := k) (by rw [← MH]; rfl))
   clear hall MH hq
   go_wp2_with fail
   have Ez := qw.low (B' := w.heap.size + 1 + 1 + 1 + 1) (bx' := [(w.heap.size, #[.int .i64 p], 2), (w.heap.size + 1, #[.int .i64 U, .slice at0 ts.length ct0], 118), (w.heap.size + 1 + 1, #[.int .i64 0, .int .i64 0, .slice none 0 0], 61), (w.heap.size + 1 + 1 + 1, #[.int .i64 p, .int .i64 U, .slice va (nO p U ts k).length vc], 61)]) (by omega) (by (try simp) <;> omega) (fun x hx => by simp only [List.mem_cons, List.not_mem_nil, or_false] at hx; rcases hx with rfl | rfl | rfl | rfl <;> (refine ⟨?_, ?_⟩ <;> (try simp) <;> (try omega)))
   refine ⟨⟨k + 1, va, vc, hlt, by go_num, ?_, ?_⟩, by simp [intOf]; omega⟩
   · rw [Oh.out]; exact Ez
   rw [Oh.out]; exact Dv.out.wk (fun z hz => ⟨hz.1, by omega⟩)
 rw [hq] at MH
 have Oh := qH (aaR (p := p) (a := U) (ts := ts) (k := k) (by rw [← MH]; rfl))
 rw [← HEE.out] at Oh
 clear hall MH hq
 have HKE := qH (show Ip _ w5 [.slice (some ⟨bl, ol, none⟩) U cl, .int .i64 KR] ((eu p U ((k : Int) / p), KR) : nG) from vO (B := fun _ => False) afS.out ⟨[], ⟨rfl, rfl, HIL.out⟩, by simp, by simp⟩ (fun k _ h => h) (fun k h => h) (fun k h => h.elim))
 clear afS
 have qR := qw.low (B' := w.heap.size + 1 + 1 + 1 + 1) (bx' := [(w.heap.size, #[.int .i64 p], 2), (w.heap.size + 1, #[.int .i64 U, .slice at0 ts.length ct0], 118), (w.heap.size + 1 + 1, #[.int .i64 0, .int .i64 0, .slice none 0 0], 61), (w.heap.size + 1 + 1 + 1, #[.int .i64 p, .int .i64 U, .slice va (nO p U ts k).length vc], 61)]) (by omega) (by (try simp) <;> omega) (fun x hx => by simp only [List.mem_cons, List.not_mem_nil, or_false] at hx; rcases hx with rfl | rfl | rfl | rfl <;> (refine ⟨?_, ?_⟩ <;> (try simp) <;> (try omega)))
 have zA := aB w5 (.cells #[.slice (some ⟨bl, ol, none⟩) U cl, .int .i64 KR] 200)
 have xw := qH (qR.step zA)
 go_wp2_with (at_builtin; refine bW _ rfl _ _ _ rfl BA rfl (bM.mono Dv.out (aB _ _)) (Ip.mono HKE.out (aB _ _)) (fun z h1 h2 => by (try simp only at h1 h2); omega) ⟨w5.heap.size, 0, none⟩ 1 rfl (E8 (aA (heap_alloc_new _ _)) (aA (heap_alloc_new _ _))) (by omega) ?_; intro a7 c7 w7 Z8 Oe; have hs8 := xw.out.qA (Oe.below (B := w.heap.size + 1 + 1 + 1 + 1) (fun z hz => hz.1) (by (try simp) <;> omega)); have q2 := hs8.c 3 2; have f2 := hs8.aC 3 rfl 2)
 have hz7 := Oe.size
 have HA8 := qH (bM.wk Z8.tight (C := fun z => w.heap.size + 1 + 1 + 1 + 1 ≤ z ∧ z < w7.heap.size) (fun z hz => ⟨by
  rcases hz.1 with h | h | h
  · exact h.1
  · (try simp only at h); omega
  · simp at h; omega, hz.2⟩))
 clear Z8 Oe
 have HQ9 := qH (hs8.set (p := [_, _, _]) (by simp <;> omega) 2 (.slice a7 ((nO p U ts k).length + 1) c7))
 have Et := qH (bM.setCell (b := w.heap.size + 1 + 1 + 1) (o := 2) HA8.out (.slice a7 ((nO p U ts k).length + 1) c7) (by intro jG; (try simp only at jG); omega))
 have HZ9 := qH (show w7.heap.size ≤ (w7.setCell ⟨w.heap.size + 1 + 1 + 1, 2, none⟩ (.slice a7 ((nO p U ts k).length + 1) c7)).heap.size by simp [World.setCell])
 go_roundw
 case measure => simp [intOf]; omega
 refine ⟨k + 1, a7, c7, hlt, by go_num, ?_, ?_⟩
 · rw [Oh.out, List.length_append]; exact HQ9.out
 rw [Oh.out, List.length_append]; exact Et.out.wk (fun z hz => ⟨hz.1, Nat.lt_of_lt_of_le hz.2 HZ9.out⟩)
theorem aej {a b : Int} (ha : 0 ≤ a ∧ a ≤ 2) (hb : 0 ≤ b ∧ b ≤ 2) : 0 ≤ a * b ∧ a * b ≤ 4 :=
 ⟨Int.mul_nonneg ha.1 hb.1, Int.le_trans (Int.mul_le_mul ha.2 hb.2 hb.1 (by omega)) (by decide)⟩
theorem UK {l v : List Int} {k : Nat} (h1 : k < l.length) (h2 : k < v.length) : dX (l.take (k + 1)) (v.take (k + 1)) = dX (l.take k) (v.take k) + l[k] * v[k] := by
 rw [List.take_succ_eq_append_getElem h1, List.take_succ_eq_append_getElem h2]
 unfold dX
 rw [List.zipWith_append (by simp; omega), List.sum_append]
 simp
theorem aek (p : Int) (U : Nat) (ts : List (List Int)) (vt : Value) (N : Nat) (w : World) (ht : Rd w [vt] ts) (hp : p = 2 ∨ p = 3) (hU : 1 ≤ U ∧ U ≤ 4) (hN : N ≤ 80) (Tj : p ^ U = ((N + 1 : Nat) : Int)) (hts : 0 < ts.length) (hok : ∀ t, t ∈ ts → bG p t (U : Int) = true) :
 Calls prog 141 #[.int .i64 p, .int .i64 U, vt] w fun e w' => ∃ a n c, e = .returned (.agg #[.int .i64 p, .int .i64 U, .slice a n c]) ∧ bM (fun z => w.heap.size ≤ z) 200 w' (.slice a n c) (jO p U ts N) ∧ n = (jO p U ts N).length ∧ Below w.heap.size w w' := by
 have FB := qH (GK (p := p) (a := U) (ts := ts) hp hU hts)
 have HTU := qH hok
 have HPW := qH (show p ^ (U : Int).toNat = (N : Int) + 1 by rw [Int.toNat_natCast, Tj]; rfl)
 have Tm := qH ht
 obtain ⟨at0, ct0, rfl, hrt⟩ := ah ht
 have htl := (aN hrt).2
 unfold maxLen at htl
 obtain ⟨b0, o0, vt0, rfl, Y4, hr0⟩ := bF rfl hrt 0 hts
 rw [Nat.add_zero] at Y4
 have h0 := iR (hok _ (List.getElem_mem hts))
 have HT0 := qH hr0
 obtain ⟨a00, c00, rfl, _⟩ := ah hr0
 have e00 : ts.getD 0 [] = ts[0] := by simp [List.getD, hts]
 have HEQ := qH (fun k : Nat => show eqS p U ts (k + 1) = (eu p U ((k : Int) + 1), dX (eu p U ((k : Int) + 1)) ts[0] % p) by unfold eqS; rw [e00]; rfl)
 have HL0 := qH (show ts[0].length = U by have := h0.1; omega)
 have HV0 := qH h0.2
 clear ht hrt hr0 h0 hok e00 Tj
 generalize ts[0] = T0 at *
 obtain ⟨bT, oT, rfl, _, _⟩ := aI HT0.out 0 (by rw [HL0.out]; omega)
 have Ce := qC (St.start w).bel Y4
 have lZ := (St.start w).alloc #[.int .i64 0, .int .i64 0, .slice none 0 0] 61 (n := w.heap.size) (by simp)
 clear Ce
 have yN := lZ.alloc #[] 200 (n := w.heap.size + 1) (by simp)
 have HA0 := qH (show bM (fun z => w.heap.size + 1 ≤ z ∧ z ≠ w.heap.size + 1 + 1 ∧ z < w.heap.size + 1 + 1) 200 ((w.alloc (.cells #[.int .i64 0, .int .i64 0, .slice none 0 0] 61)).alloc (.cells #[] 200)) (.slice (some ⟨w.heap.size + 1, 0, none⟩) 0 0) ([] : List nG) from by
  have h := qM (α := nG) (w.alloc (.cells #[.int .i64 0, .int .i64 0, .slice none 0 0] 61)) 200
  have e9 : (w.alloc (.cells #[.int .i64 0, .int .i64 0, .slice none 0 0] 61)).heap.size = w.heap.size + 1 := by simp
  rw [e9] at h
  exact h.wk (fun z hz => by subst hz; omega))
 have HB0 := qH (bM.mono HA0.out (aB ((w.alloc (.cells #[.int .i64 0, .int .i64 0, .slice none 0 0] 61)).alloc (.cells #[] 200)) (.cells #[.int .i64 p, .int .i64 U, .slice (some ⟨w.heap.size + 1, 0, none⟩) 0 0] 61)))
 clear HA0
 have pz := yN.alloc #[.int .i64 p, .int .i64 U, .slice (some ⟨w.heap.size + 1, 0, none⟩) 0 0] 61 (n := w.heap.size + 1 + 1) (by simp)
 obtain ⟨aF, aH, ig, aW, aY, bn⟩ := pz.c6 0 0 0 1 0 2 2 0 2 1 2 2
 have Ce := qC pz.bel Y4
 have HS1 := qH (pz.sub (bx' := [(w.heap.size, #[.int .i64 0, .int .i64 0, .slice none 0 0], 61), (w.heap.size + 1 + 1, #[.int .i64 p, .int .i64 U, .slice (some ⟨w.heap.size + 1, 0, none⟩) 0 0], 61)]) (fun x hx => by simp at hx ⊢; rcases hx with rfl | rfl <;> simp))
 go_enter func141, ntmps141
 go_wp2_with fail
 go_loopw [8] (fun nv wl => ∃ (k : Nat) (va : Option Addr) (vc : Nat), k ≤ N ∧ nv = .int .i64 ((k : Int) + 1) ∧ Hid (St w (w.heap.size + 1 + 1 + 1) wl [(w.heap.size, #[.int .i64 0, .int .i64 0, .slice none 0 0], 61), (w.heap.size + 1 + 1, #[.int .i64 p, .int .i64 U, .slice va (jO p U ts k).length vc], 61)]) ∧ Hid (bM (fun z => w.heap.size + 1 ≤ z ∧ z ≠ w.heap.size + 1 + 1 ∧ z < wl.heap.size) 200 wl (.slice va (jO p U ts k).length vc) (jO p U ts k))) (fun nv _ => N + 1 - (intOf nv).toNat)
 case atStart => exact ⟨0, some ⟨w.heap.size + 1, 0, none⟩, 0, Nat.zero_le _, rfl, HS1.out, HB0.out.wk (fun z hz => ⟨hz.1, hz.2.1, by have := hz.2.2; simp; omega⟩)⟩
 clear HS1 HB0
 obtain ⟨k, va, vc, hk, rfl, hst, hac⟩ := hrel
 have hs2 := hst.out
 have hlo := hs2.hi
 have hlen := (FB.out k).len
 obtain ⟨aF, aH, ig, aJ, aK, jB⟩ := hs2.c6 0 0 0 1 0 2 1 0 1 1 1 2
 have Ce := qC hs2.bel Y4
 go_wp2_with fail
 refine (BI p (U : Int) _ (by omega) (by omega) (by omega) (by rw [HPW.out]; omega)).mono ?_
 rintro e w30 ⟨rfl, rfl⟩
 rw [HPW.out]
 by_cases hlt : k < N
 rotate_left
 · obtain rfl : k = N := by omega
   have hnl : ¬ ((k : Int) + 1 < (k : Int) + 1) := by omega
   have f0 := (hs2.aC 0 rfl 0)
   have f1 := (hs2.aC 0 rfl 1)
   have f2 := (hs2.aC 0 rfl 2)
   have hq9 := ((hs2.set (p := []) (by simp <;> omega) 0 (.int .i64 p)).set (p := []) (by simp <;> omega) 1 (.int .i64 U)).set (p := []) (by simp <;> omega) 2 (.slice va (jO p U ts k).length vc)
   obtain ⟨x0, x1, x2⟩ := hq9.c3 0 0 0 1 0 2
   have Oy := qH (((hac.out.setCell (b := w.heap.size) (o := 0) (.int .i64 p) (by intro jG; (try simp only at jG); omega)).setCell (b := w.heap.size) (o := 1) (.int .i64 U) (by intro jG; (try simp only at jG); omega)).setCell (b := w.heap.size) (o := 2) (.slice va (jO p U ts k).length vc) (by intro jG; (try simp only at jG); omega))
   go_wp2_with fail
   refine bodyPost_ret (v := .agg #[.int .i64 p, .int .i64 U, .slice va (jO p U ts k).length vc]) (by simp [results, results141, go_sem, x0, x1, x2]) rfl ⟨_, _, _, rfl, Oy.out.wk (fun z hz => by have := hz.1; omega), rfl, hq9.bel⟩
 have QH : (k : Int) + 1 < (N : Int) + 1 := by omega
 have QY := hac
 clear hac
 go_wp2_with fail
 refine (zO p (U : Int) ((k : Int) + 1) _ (by omega) (by omega) (by omega) (by omega) (by omega) (by omega)).mono ?_
 rintro e w31 ⟨vv, rfl, fr, Jl⟩
 have ahX : wr.heap.size ≤ w31.heap.size := hZ Jl
 have rW := hs2.step Jl
 have Xx := qH (bM.mono QY.out Jl)
 clear QY
 clear aF aH ig aJ aK jB Ce
 rw [Int.toNat_natCast] at fr
 have HEK := qH (HEQ.out k)
 have hmem := kK p (by omega) U ((k : Int) + 1)
 have Tn := qH (iH p U ((k : Int) + 1))
 generalize eu p U ((k : Int) + 1) = D at *
 have HDM := qH (show ∀ a, a ∈ D → 0 ≤ a ∧ a ≤ 2 from fun a ha => by have := hmem a ha; omega)
 obtain ⟨al, cl, el, _⟩ := ah fr.rd
 rw [Tn.out] at el
 subst el
 have HV := qH (aQ.ip fr)
 clear fr hmem
 have au5 : w31.heap.size ≤ (w31).heap.size := by simp
 generalize w31 = wD at *
 obtain ⟨bD, oD, rfl, _, _⟩ := aI HV.out.rd 0 (by rw [Tn.out]; omega)
 have hlD := rW.hi
 have amc := qH Xx.out
 have Xy := qH HV.out
 clear Xx
 clear HV
 have xA := rW.alloc #[.slice (some ⟨bD, oD, none⟩) U cl, .int .i64 0] 200 (n := wD.heap.size) (by simp)
 obtain ⟨aF, aH, ig, aJ, aK, jB, aW, aY⟩ := xA.c8 0 0 0 1 0 2 1 0 1 1 1 2 2 0 2 1
 have Ce := qC xA.bel Y4
 have HSE := qH xA
 have UA := qH (aB wD (.cells #[.slice (some ⟨bD, oD, none⟩) U cl, .int .i64 0] 200))
 go_wp2_with fail
 go_loopw [10] (fun iv wl => ∃ (i : Nat) (Z : Int), i ≤ U ∧ iv = .int .i64 i ∧ 0 ≤ Z ∧ Z ≤ 4 * i ∧ Hid (St w (wD.heap.size + 1) wl [(w.heap.size, #[.int .i64 0, .int .i64 0, .slice none 0 0], 61), (w.heap.size + 1 + 1, #[.int .i64 p, .int .i64 U, .slice va (jO p U ts k).length vc], 61), (wD.heap.size, #[.slice (some ⟨bD, oD, none⟩) U cl, .int .i64 Z], 200)]) ∧ Hid (Below wD.heap.size wD wl) ∧ Hid (Z = dX (D.take i) (T0.take i))) (fun iv _ => U - (intOf iv).toNat)
 case atStart => exact ⟨0, 0, Nat.zero_le _, rfl, by omega, by omega, HSE.out, UA.out, by simp [Hid, dX]⟩
 clear HSE UA
 obtain ⟨i, Z, hi, rfl, Z0, Z1, hst2, zV, hZ⟩ := hrel
 have HB2 := zV
 obtain ⟨aF, aH, ig, aJ, aK, jB, aW, aY⟩ := hst2.out.c8 0 0 0 1 0 2 1 0 1 1 1 2 2 0 2 1
 have Ce := qC hst2.out.bel Y4
 by_cases hlt2 : i < U
 · have hiI : (i : Int) < U := by omega
   have hiD : i < D.length := by rw [Tn.out]; exact hlt2
   have hiT : i < T0.length := by rw [HL0.out]; exact hlt2
   have axR : (i : Int) < T0.length := by omega
   have HVR := qH (Rd.mono Xy.out.rd HB2.out)
   have Ov := qH (Rd.mono HT0.out hst2.out.bel)
   obtain ⟨b1, o1, e1, g1, _⟩ := aI HVR.out i hiD
   obtain ⟨b2, o2, e2, g2, _⟩ := aI Ov.out i hiT
   simp only [Option.some.injEq, Addr.mk.injEq, and_true] at e1 e2
   obtain ⟨rfl, rfl⟩ := e1
   obtain ⟨rfl, rfl⟩ := e2
   have hA := HDM.out _ (List.getElem_mem hiD)
   have hB := HV0.out i hiT
   have hZS := qH (UK hiD hiT)
   generalize D[i] = A at *
   generalize T0[i] = B at *
   have hm := aej hA (show 0 ≤ B ∧ B ≤ 2 by omega)
   have hw1 : IntKind.i64.wrap (A * B) = A * B := i64_in _ (by omega)
   have hw2 : IntKind.i64.wrap (Z + A * B) = Z + A * B := i64_in _ (by omega)
   clear hA hB
   go_upto_region 9 with fail
   refine iT (fun w' => cI w' w.heap.size 0 0 ∧ cI w' w.heap.size 1 0 ∧ cV w' w.heap.size 2 (.slice none 0 0) ∧ cI w' (w.heap.size + 1 + 1) 0 p ∧ cI w' (w.heap.size + 1 + 1) 1 U ∧ cV w' (w.heap.size + 1 + 1) 2 (.slice va (jO p U ts k).length vc) ∧ cV w' wD.heap.size 0 (.slice (some ⟨bD, oD, none⟩) U cl) ∧ cI w' wD.heap.size 1 Z ∧ cV w' b0 o0 (.slice (some ⟨bT, oT, none⟩) T0.length c00) ∧ cI w' bD (oD + i) A ∧ cI w' bT (oT + i) B) (.z [0,1,2,3,4,5,6,7,8,9,10,11,12,13,14,15] (.last 16 .nil)) ?_ ?_
   · exact ⟨(hst2.out.drew).c 0 0, (hst2.out.drew).c 0 1, (hst2.out.drew).c 0 2, (hst2.out.drew).c 1 0, (hst2.out.drew).c 1 1, (hst2.out.drew).c 1 2, (hst2.out.drew).c 2 0, (hst2.out.drew).c 2 1, qC (hst2.out.drew).bel Y4, qC (belowD _) g1, qC (belowD _) g2⟩
   have iY := hst2.out.drew
   have amd := qC (belowD _) g1
   clear g1
   have ame := qC (belowD _) g2
   clear g2
   have aaY := qH (HB2.out.trans (((belowD _)).mono HB2.out.size))
   clear HB2
   clear aF aH ig aJ aK jB aW aY Ce
   have GN : wr.heap.size ≤ (wr.drew).heap.size := by simp
   generalize wr.drew = Dw at *
   refine aV ?_
   refine JY fun K hK => ?_
   obtain ⟨aF, aH, ig, aJ, aK, jB, aW, aY⟩ := iY.c8 0 0 0 1 0 2 1 0 1 1 1 2 2 0 2 1
   have Ce := qC iY.bel Y4
   have UL := iY.aC 2 rfl 0
   have UM := iY.aC 2 rfl 1
   go_wp2_with fail
   refine iF ?_
   clear aF aH ig aJ aK jB aW aY Ce
   clear amd
   clear ame
   have sF := iY.set (p := [_, _]) (by simp <;> omega) 1 (.int .i64 (Z + A * B))
   have ahY := qH (aaY.out.setCell (p := ⟨wD.heap.size, 1, none⟩) (by (try simp) <;> omega) (.int .i64 (Z + A * B)))
   clear aaY
   have afR : Dw.heap.size ≤ ((Dw.setCell ⟨wD.heap.size, 1, none⟩ (.int .i64 (Z + A * B)))).heap.size := by simp [World.setCell]
   generalize (Dw.setCell ⟨wD.heap.size, 1, none⟩ (.int .i64 (Z + A * B))) = wE at *
   obtain ⟨aF, aH, ig, aJ, aK, jB, aW, aY⟩ := sF.c8 0 0 0 1 0 2 1 0 1 1 1 2 2 0 2 1
   have Ce := qC sF.bel Y4
   go_wp2_with fail
   go_roundw
   case rel => exact ⟨i + 1, Z + A * B, hlt2, by go_num, by omega, by omega, sF, ahY.out, by simp only [Hid]; rw [hZS.out, ← hZ.out]⟩
   simp [intOf]; omega
 obtain rfl : i = U := by omega
 have hni : ¬ ((i : Int) < i) := by omega
 have HZE := qH (show (D, Z % p) = eqS p i ts (k + 1) by
  rw [HEK.out, hZ.out, List.take_of_length_le (by rw [Tn.out]; exact Nat.le_refl _), List.take_of_length_le (by rw [HL0.out]; exact Nat.le_refl _)])
 have HEO := qH (aaS (p := p) (by omega) i ts (k + 1))
 rw [← HZE.out] at HEO
 have HZI := qH (show I64 (Z % p) from jf _ (by have := Int.emod_nonneg Z (show p ≠ 0 by omega); omega) (by have := Int.emod_lt_of_pos Z (show 0 < p by omega); omega))
 have UL := hst2.out.aC 2 rfl 0
 have UM := hst2.out.aC 2 rfl 1
 go_wp2_with fail
 refine (wV Z p _ (by omega) (by omega)).mono ?_
 rintro e w5 ⟨rfl, rfl⟩
 clear hZ
 generalize Z % p = ZP at *
 go_wp2_with fail
 have Jb := hst2.out.set (p := [_, _]) (by simp <;> omega) 1 (.int .i64 ZP)
 have aaZ := qH (HB2.out.setCell (p := ⟨wD.heap.size, 1, none⟩) (by (try simp) <;> omega) (.int .i64 ZP))
 clear HB2
 clear aF aH ig aJ aK jB aW aY Ce
 have afR : wr.heap.size ≤ ((wr.setCell ⟨wD.heap.size, 1, none⟩ (.int .i64 ZP))).heap.size := by simp [World.setCell]
 generalize (wr.setCell ⟨wD.heap.size, 1, none⟩ (.int .i64 ZP)) = wE at *
 obtain ⟨aF, aH, ig, aJ, aK, jB, aW, aY⟩ := Jb.c8 0 0 0 1 0 2 1 0 1 1 1 2 2 0 2 1
 have Ce := qC Jb.bel Y4
 have HSE := qH Jb
 have UA := qH aaZ.out
 clear aaZ
 go_loopw [11, 12] (fun bv iv wl => ∃ (j : Nat), j ≤ ts.length ∧ iv = .int .i64 j ∧ bv = .bool ((ts.take j).all (fun t => fA p t (D, ZP))) ∧ Hid (Below wE.heap.size wE wl)) (fun _ iv _ => ts.length - (intOf iv).toNat)
 case atStart => exact ⟨0, Nat.zero_le _, rfl, by simp, Below.refl _ _⟩
 obtain ⟨j, hj, rfl, rfl, amf⟩ := hrel
 have HB3 := amf
 have hs5 := HSE.out.step amf.out
 obtain ⟨aF, aH, ig, aJ, aK, jB, aW, aY⟩ := hs5.c8 0 0 0 1 0 2 1 0 1 1 1 2 2 0 2 1
 have Ce := qC hs5.bel Y4
 have HVR := qH (Rd.mono Xy.out.rd (UA.out.trans (HB3.out.mono UA.out.size)))
 have HXR := qH (show Rd wr [.slice (some ⟨bD, oD, none⟩) i cl, .int .i64 ZP] (D, ZP) from ⟨[_], [_], rfl, HVR.out, ⟨rfl, HZI.out⟩⟩)
 by_cases hlt3 : j < ts.length
 · have hjI : (j : Int) < ts.length := by omega
   have Ov := qH (Rd.mono Tm.out hs5.bel)
   obtain ⟨_, _, e1, hrt⟩ := ah Ov.out
   simp only [Value.slice.injEq] at e1
   obtain ⟨rfl, -, rfl⟩ := e1
   obtain ⟨b3, o3, vj, e3, qj, hrj⟩ := bF rfl hrt j hlt3
   simp only [Option.some.injEq, Addr.mk.injEq, and_true] at e3
   obtain ⟨rfl, rfl⟩ := e3
   have HTJ := qH (HTU.out _ (List.getElem_mem hlt3))
   have hall : (ts.take (j + 1)).all (fun t => fA p t (D, ZP)) = ((ts.take j).all (fun t => fA p t (D, ZP)) && fA p ts[j] (D, ZP)) := by
    rw [List.take_succ_eq_append_getElem hlt3, List.all_append]; simp
   have ael := qH hall
   obtain ⟨aj, cj, rfl, _⟩ := ah hrj
   have HRJ := qH hrj
   clear hrt hrj hall
   generalize ts[j] = TJ at *
   cases hb : (ts.take j).all (fun t => fA p t (D, ZP))
   · have H9 := qH (show (ts.take (j + 1)).all (fun t => fA p t (D, ZP)) = false by rw [ael.out, hb]; rfl)
     clear hb
     go_wp2_with fail
     go_roundw
     case rel => exact ⟨j + 1, hlt3, by go_num, by rw [H9.out], HB3.out⟩
     simp [intOf]; omega
   have H9 := qH (show (ts.take (j + 1)).all (fun t => fA p t (D, ZP)) = fA p TJ (D, ZP) by rw [ael.out, hb]; rfl)
   clear hb
   go_wp2_with fail
   refine (TT p (i : Int) (D, ZP) TJ (wD.heap.size) 0 _ _ _ _ HXR.out HRJ.out (hs5.c 2 0) (hs5.c 2 1) (by omega) (by omega) (by omega) HEO.out HTJ.out).mono ?_
   rintro e w44 ⟨rfl, ahZ, rfl⟩
   have A8 := hs5.drewN ahZ
   have au8 := qC (dQ _ ahZ) qj
   clear qj
   have ah0 := qH (HB3.out.trans (((dQ _ ahZ)).mono HB3.out.size))
   clear HB3
   clear HXR
   clear HRJ
   clear aF aH ig aJ aK jB aW aY Ce
   obtain ⟨aF, aH, ig, aJ, aK, jB, aW, aY⟩ := A8.c8 0 0 0 1 0 2 1 0 1 1 1 2 2 0 2 1
   have Ce := qC A8.bel Y4
   go_wp2_with fail
   go_roundw
   case rel => exact ⟨j + 1, hlt3, by go_num, by rw [H9.out], ah0.out⟩
   simp [intOf]; omega
 obtain rfl : j = ts.length := by omega
 have hnj : ¬ ((ts.length : Int) < ts.length) := by omega
 have hqa : (ts.take ts.length).all (fun t => fA p t (D, ZP)) = holdA p ts (eqS p i ts (k + 1)) := by rw [List.take_length, ← HZE.out]; rfl
 rw [hqa]
 cases hq : holdA p ts (eqS p i ts (k + 1))
 · have Oh := qH (OG hq)
   clear hq hqa
   have HAX := qH (amc.out.mono (UA.out.trans (HB3.out.mono UA.out.size)))
   have hzx := (UA.out.trans (HB3.out.mono UA.out.size)).size
   go_wp2_with fail
   have Ci := hs5.low (B' := w.heap.size + 1 + 1 + 1) (bx' := [(w.heap.size, #[.int .i64 0, .int .i64 0, .slice none 0 0], 61), (w.heap.size + 1 + 1, #[.int .i64 p, .int .i64 i, .slice va (jO p i ts k).length vc], 61)]) (by omega) (by (try simp) <;> omega) (fun x hx => by simp only [List.mem_cons, List.not_mem_nil, or_false] at hx; rcases hx with rfl | rfl <;> (refine ⟨?_, ?_⟩ <;> (try simp) <;> (try omega)))
   go_roundw
   case rel =>
    refine ⟨k + 1, va, vc, hlt, by go_num, ?_, ?_⟩
    · rw [Oh.out]; exact Ci
    rw [Oh.out]; exact HAX.out.wk (fun z hz => ⟨hz.1, hz.2.1, by have := hz.2.2; omega⟩)
   simp [intOf]; omega
 have Oh := qH (QU hq)
 clear hq hqa
 have hbX := UA.out.trans (HB3.out.mono UA.out.size)
 have hzx := hbX.size
 have HAX := qH (amc.out.mono hbX)
 have HKE := qH (show Ip _ wr [.slice (some ⟨bD, oD, none⟩) i cl, .int .i64 ZP] ((D, ZP) : nG) from vO (B := fun _ => False) (Xy.out.mono hbX) ⟨[], ⟨rfl, rfl, HZI.out⟩, by simp, by simp⟩ (fun k _ h => h) (fun k h => h) (fun k h => h.elim))
 have zA := aB wr (.cells #[.slice (some ⟨bD, oD, none⟩) i cl, .int .i64 ZP] 200)
 have xw := qH (hs5.step zA)
 clear hbX
 go_wp2_with (at_builtin; refine bW _ rfl _ _ _ rfl BA rfl (bM.mono HAX.out (aB _ _)) (Ip.mono HKE.out (aB _ _)) (fun z h1 h2 => by (try simp only at h1 h2); omega) ⟨wr.heap.size, 0, none⟩ 1 rfl (E8 (aA (heap_alloc_new _ _)) (aA (heap_alloc_new _ _))) (by omega) ?_; intro a7 c7 w7 Z8 Oe; have hs8 := xw.out.lU Oe (fun z hz => by have := hz.1; omega) (fun x hx hA => by have h1 := hA.1; have h2 := hA.2; simp at hx; rcases hx with rfl | rfl | rfl <;> (try simp only at h1 h2) <;> omega); have q2 := hs8.c 1 2; have f2 := hs8.aC 1 rfl 2; have g0 := hs8.aC 1 rfl 0; have g1 := hs8.aC 1 rfl 1)
 have hz7 := Oe.size
 have Y3 : wr.heap.size < w7.heap.size := by (try simp at hz7); omega
 have HA8 := qH (bM.setCell (b := w.heap.size + 1 + 1) (o := 2) Z8 (.slice a7 ((jO p i ts k).length + 1) c7) (by intro jG; (try simp at jG); omega))
 have hs9 := hs8.set (p := [_]) (by simp <;> omega) 2 (.slice a7 ((jO p i ts k).length + 1) c7)
 have HSZ := qH (show (w7.setCell ⟨w.heap.size + 1 + 1, 2, none⟩ (.slice a7 ((jO p i ts k).length + 1) c7)).heap.size = w7.heap.size by simp [World.setCell])
 have HII := qH (show I64 p ∧ I64 (i : Int) from ⟨jf _ (by omega) (by omega), jf _ (by omega) (by omega)⟩)
 have HXS := qH (show Rd (w7.setCell ⟨w.heap.size + 1 + 1, 2, none⟩ (.slice a7 ((jO p i ts k).length + 1) c7)) [.int .i64 p, .int .i64 i, .slice a7 ((jO p i ts k).length + 1) c7] ((p, (i : Int), jO p i ts k ++ [(D, ZP)]) : Sys) from ⟨[_], [_, _], rfl, ⟨rfl, HII.out.1⟩, [_], [_], rfl, ⟨rfl, HII.out.2⟩, HA8.out.rd⟩)
 have HVS := qH (show jo (p, (i : Int), jO p i ts k ++ [(D, ZP)]) = true from Yy hp (by omega) (by simp; omega) (by rw [HZE.out]; exact (FB.out k).snoc hp (k + 1)))
 obtain ⟨x0, x1, x2⟩ := hs9.c3 1 0 1 1 1 2
 clear Z8 Oe
 go_wp2_with fail
 refine (Kw (p, (i : Int), jO p i ts k ++ [(D, ZP)]) (w.heap.size + 1 + 1) _ _ _ _ HXS.out x0 x1 x2 HVS.out).mono ?_
 rintro e w9 ⟨a9, n9, c9, rfl, jG, hn9, zA⟩
 have hzA := zA.size
 rw [HSZ.out] at hzA
 rw [HZE.out, Oh.out] at jG hn9
 simp only at jG hn9
 subst hn9
 have hs10 := hs9.step zA
 have y0 := hs10.aC 1 rfl 0
 have y1 := hs10.aC 1 rfl 1
 have y2 := hs10.aC 1 rfl 2
 obtain ⟨z0, z1, z2⟩ := hs10.c3 1 0 1 1 1 2
 have arp := qH (((jG.setCell (b := w.heap.size + 1 + 1) (o := 0) (.int .i64 p) (by (try simp); omega)).setCell (b := w.heap.size + 1 + 1) (o := 1) (.int .i64 i) (by (try simp); omega)).setCell (b := w.heap.size + 1 + 1) (o := 2) (.slice a9 (jO p i ts (k + 1)).length c9) (by (try simp); omega))
 have hs11 := ((hs10.set (p := [_]) (by simp <;> omega) 0 (.int .i64 p)).set (p := [_]) (by simp <;> omega) 1 (.int .i64 i)).set (p := [_]) (by simp <;> omega) 2 (.slice a9 (jO p i ts (k + 1)).length c9)
 have arq := qH (hs11.low (B' := w.heap.size + 1 + 1 + 1) (bx' := [(w.heap.size, #[.int .i64 0, .int .i64 0, .slice none 0 0], 61), (w.heap.size + 1 + 1, #[.int .i64 p, .int .i64 i, .slice a9 (jO p i ts (k + 1)).length c9], 61)]) (by omega) (by omega) (fun x hx => by simp at hx; rcases hx with rfl | rfl <;> (refine ⟨?_, ?_⟩ <;> (try simp) <;> (try omega))))
 clear jG hs11
 go_wp2_with fail
 go_roundw
 case rel => exact ⟨k + 1, a9, c9, hlt, by go_num, arq.out, arp.out.tight.wk (fun z hz => ⟨by have := hz.1; rw [HSZ.out] at this; omega, by have := hz.1; rw [HSZ.out] at this; omega, hz.2⟩)⟩
 simp [intOf]; omega
end Go.Proofs.YtoblfnoaepbhfaaGreat
