/-
  PLAIN LAW: what elimination leaves: each row that is done begins with a 1 where it begins, and there all other rows have a 0.
-/
import Derived.Test.YtoblfnoaepbhfaaElim
namespace Go.Proofs.Ytoblfnoaepbhfaa
open Go.RowKit
set_option linter.unusedSimpArgs false
set_option linter.unusedVariables false

structure Rref (p : Int) (u : Nat) (rows : List SRow) (bs : List Int) : Prop where
  le : bs.length ≤ rows.length
  bnd : ∀ (j : Nat) (b : Int), bs[j]? = some b → 0 ≤ b ∧ b < u
  col : ∀ (i : Nat) (r : SRow) (j : Nat) (b : Int), rows[i]? = some r → bs[j]? = some b → r.1.getD b.toNat 0 = if i = j then 1 else 0
  low : ∀ (i : Nat) (r : SRow), rows[i]? = some r → bs.length ≤ i → ∀ c, c < u → r.1.getD c 0 = 0
  lead : ∀ (i : Nat) (r : SRow) (b : Int), rows[i]? = some r → bs[i]? = some b → ∀ c : Nat, (c : Int) < b → r.1.getD c 0 = 0

theorem getD_zip (f : Int → Int → Int) (l m : List Int) (c : Nat) (h1 : c < l.length) (h2 : c < m.length) : (List.zipWith f l m).getD c 0 = f (l.getD c 0) (m.getD c 0) := by
  simp [List.getD, List.getElem?_zipWith, h1, h2]
theorem getD_res {p : Int} {l : List Int} (h : Res p l) (c : Nat) (hc : c < l.length) : 0 ≤ l.getD c 0 ∧ l.getD c 0 < p := by
  have := h.get c hc
  simpa [List.getD, hc] using this
theorem less_get {p : Int} {U n : Nat} {r x : SRow} (hr : GoodS p U n r) (hx : GoodS p U n x) (k : Int) (c : Nat) (hc : c < U) : ((opsS p).less r x k).1.getD c 0 = (r.1.getD c 0 - k * x.1.getD c 0) % p := by
  show (if _ then _ else _ : SRow).1.getD c 0 = _
  split
  · rename_i h
    subst h
    have := getD_res hr.res c (by rw [hr.len]; exact hc)
    rw [Int.zero_mul, Int.sub_zero, Int.emod_eq_of_lt this.1 this.2]
  · exact getD_zip _ _ _ c (by rw [hr.len]; exact hc) (by rw [hx.len]; exact hc)
theorem scale_get {p : Int} {U n : Nat} {r : SRow} (hr : GoodS p U n r) (k : Int) (c : Nat) (hc : c < U) : ((opsS p).scale r k).1.getD c 0 = r.1.getD c 0 * k % p :=
  getD_zip _ _ _ c (by rw [hr.len]; exact hc) (by rw [hr.len]; exact hc)
theorem sq_one {p n : Int} (hp : p = 2 ∨ p = 3) (h0 : 0 ≤ n) (h1 : n < p) (hn : n ≠ 0) : n * n % p = 1 := by
  rcases hp with rfl | rfl
  · obtain rfl : n = 1 := by omega
    rfl
  · have : n = 1 ∨ n = 2 := by omega
    rcases this with rfl | rfl <;> rfl

theorem rref_step {p : Int} {U n : Nat} (hp : p = 2 ∨ p = 3) {u : Nat} (hu : u < U) {rows : List SRow} {bs : List Int} (hg : AllG p U n rows) (h : Rref p u rows bs) :
    Rref p (u + 1) (stepE (opsS p) u (rows, bs)).1 (stepE (opsS p) u (rows, bs)).2 := by
  have hp0 : 0 < p := by omega
  unfold stepE
  simp only
  split
  · rename_i hk
    rw [List.findIdx?_eq_none_iff] at hk
    refine ⟨h.le, fun j b hb => ?_, h.col, fun i r hr hi c hc => ?_, h.lead⟩
    · have := h.bnd j b hb; omega
    · have hi0 : bs.length ≤ i := hi
      by_cases hcu : c = u
      · subst hcu
        have hm : r ∈ rows.drop bs.length := by
          refine List.mem_iff_getElem?.2 ⟨i - bs.length, ?_⟩
          rw [List.getElem?_drop, show bs.length + (i - bs.length) = i by omega]; exact hr
        have := hk r hm
        simp only [bne_eq_false_iff_eq] at this
        exact this
      · exact h.low i r hr (show bs.length ≤ i from hi) c (by omega)
  · rename_i k hk
    rw [List.findIdx?_eq_some_iff_getElem] at hk
    obtain ⟨hk1, hk2, _⟩ := hk
    simp only [List.length_drop] at hk1
    simp only [List.getElem_drop, bne_iff_ne, ne_eq] at hk2
    have hd : bs.length < rows.length := by omega
    have hdk : bs.length + k < rows.length := by omega
    simp only
    unfold pivotE
    simp only
    rw [swap_at _ _ _ _ hd hdk]
    have e0 : rows.getD (bs.length + k) (opsS p).dflt = rows[bs.length + k] := by simp [List.getD, hdk]
    rw [e0]
    have hg0 : GoodS p U n rows[bs.length + k] := hg _ (List.getElem_mem hdk)
    have hlow0 := h.low (bs.length + k) rows[bs.length + k] (List.getElem?_eq_getElem hdk) (by omega)
    generalize rows[bs.length + k] = x0 at *
    have hx0u := getD_res hg0.res u (by rw [hg0.len]; exact hu)
    have hn : (opsS p).get x0 u = x0.1.getD u 0 := rfl
    rw [hn] at hk2 ⊢
    have hgx : GoodS p U n ((opsS p).scale x0 (x0.1.getD u 0)) := goodS_scale hp0 _ hg0
    have hxu : ((opsS p).scale x0 (x0.1.getD u 0)).1.getD u 0 = 1 := by
      rw [scale_get hg0 _ _ hu]; exact sq_one hp hx0u.1 hx0u.2 hk2
    have hxc : ∀ c, c < u → ((opsS p).scale x0 (x0.1.getD u 0)).1.getD c 0 = 0 := fun c hc => by
      rw [scale_get hg0 _ _ (by omega), hlow0 c hc]; simp
    generalize (opsS p).scale x0 (x0.1.getD u 0) = x at *
    -- each row that is left
    have key : ∀ i r, ((swapL (opsS p).dflt rows bs.length (bs.length + k)).set bs.length x |>.mapIdx (elimRow (opsS p) u bs.length x))[i]? = some r →
        (i = bs.length ∧ r = x) ∨ (i ≠ bs.length ∧ ∃ q, (rows[i]? = some q ∨ (bs.length < i ∧ rows[bs.length]? = some q)) ∧ (∀ c, c < u → r.1.getD c 0 = q.1.getD c 0) ∧ r.1.getD u 0 = 0) := by
      intro i r hr
      rw [List.getElem?_mapIdx, Option.map_eq_some_iff] at hr
      obtain ⟨q, hq, rfl⟩ := hr
      by_cases hi : i = bs.length
      · left
        subst hi
        rw [List.getElem?_set_self (by simpa using hd)] at hq
        simp only [Option.some.injEq] at hq
        exact ⟨rfl, by unfold elimRow; rw [if_pos rfl]; exact hq.symm⟩
      · right
        refine ⟨hi, q, ?_, ?_⟩
        · rw [List.getElem?_set_ne (Ne.symm hi)] at hq
          unfold swapL at hq
          by_cases hik : bs.length + k = i
          · subst hik
            rw [List.getElem?_set_self (by simpa using hdk)] at hq
            right
            refine ⟨by omega, ?_⟩
            rw [List.getElem?_eq_getElem hd]
            simpa [List.getD, hd] using hq
          · rw [List.getElem?_set_ne hik, List.getElem?_set_ne (Ne.symm hi)] at hq
            exact .inl hq
        · have hgq : GoodS p U n q := allG_set (allG_swap hg (opsS p).dflt bs.length (bs.length + k) hd hdk) bs.length hgx q (List.mem_of_getElem? hq)
          unfold elimRow
          rw [if_neg hi]
          refine ⟨fun c hc => ?_, ?_⟩
          · rw [less_get hgq hgx _ _ (by omega), hxc c hc, Int.mul_zero, Int.sub_zero]
            have := getD_res hgq.res c (by rw [hgq.len]; omega)
            exact Int.emod_eq_of_lt this.1 this.2
          · rw [less_get hgq hgx _ _ hu, hxu, Int.mul_one]
            show (q.1.getD u 0 - q.1.getD u 0) % p = 0
            rw [Int.sub_self]; exact Int.zero_emod _
    have hsnoc : ∀ j b, (bs ++ [(u : Int)])[j]? = some b → (j < bs.length ∧ bs[j]? = some b) ∨ (j = bs.length ∧ b = u) := by
      intro j b hb
      by_cases hj : j < bs.length
      · rw [List.getElem?_append_left hj] at hb; exact .inl ⟨hj, hb⟩
      · rw [List.getElem?_append_right (by omega)] at hb
        have hj0 : j - bs.length = 0 := by
          have := (List.getElem?_eq_some_iff.1 hb).1; simp at this; omega
        rw [hj0] at hb
        simp at hb
        exact .inr ⟨by omega, hb.symm⟩
    refine ⟨by simp; omega, fun j b hb => ?_, fun i r j b hr hb => ?_, fun i r hr hi c hc => ?_, fun i r b hr hb c hc => ?_⟩
    · rcases hsnoc j b hb with ⟨_, h1⟩ | ⟨_, h1⟩
      · have := h.bnd j b h1; omega
      · omega
    · rcases key i r hr with ⟨h1, h2⟩ | ⟨h1, q, h2, h3, h4⟩
      · subst h2
        rcases hsnoc j b hb with ⟨h5, h6⟩ | ⟨h5, h6⟩
        · have hb' := h.bnd j b h6
          rw [if_neg (by omega), hxc _ (by omega)]
        · rw [if_pos (by omega), h6, Int.toNat_natCast, hxu]
      · rcases hsnoc j b hb with ⟨h5, h6⟩ | ⟨h5, h6⟩
        · have hb' := h.bnd j b h6
          rw [h3 _ (by omega)]
          rcases h2 with h2 | ⟨h7, h2⟩
          · exact h.col i q j b h2 h6
          · rw [if_neg (by omega)]
            exact h.low _ q h2 (Nat.le_refl _) _ (by omega)
        · rw [if_neg (by omega), h6, Int.toNat_natCast, h4]
    · simp only [List.length_append, List.length_cons, List.length_nil] at hi
      rcases key i r hr with ⟨h1, h2⟩ | ⟨h1, q, h2, h3, h4⟩
      · omega
      · by_cases hcu : c = u
        · rw [hcu]; exact h4
        · rw [h3 c (by omega)]
          rcases h2 with h2 | ⟨h7, h2⟩
          · exact h.low i q h2 (by omega) c (by omega)
          · exact h.low _ q h2 (Nat.le_refl _) c (by omega)
    · rcases hsnoc i b hb with ⟨h5, h6⟩ | ⟨h5, h6⟩
      · have hb' := h.bnd i b h6
        rcases key i r hr with ⟨h1, h2⟩ | ⟨h1, q, h2, h3, h4⟩
        · omega
        · rw [h3 c (by omega)]
          rcases h2 with h2 | ⟨h7, h2⟩
          · exact h.lead i q b h2 h6 c hc
          · omega
      · rcases key i r hr with ⟨h1, h2⟩ | ⟨h1, _⟩
        · subst h2; exact hxc c (by omega)
        · omega
theorem rref_elim {p : Int} {U n : Nat} (hp : p = 2 ∨ p = 3) {rows : List SRow} (hg : AllG p U n rows) : ∀ u, u ≤ U → Rref p u (elimE (opsS p) rows u).1 (elimE (opsS p) rows u).2
  | 0, _ => by
    show Rref p 0 rows []
    exact { le := Nat.zero_le _, bnd := fun j b hb => by simp at hb, col := fun i r j b _ hb => by simp at hb, low := fun i r _ _ c hc => by omega, lead := fun i r b _ hb => by simp at hb }
  | u + 1, hu => by
    have := rref_elim hp hg u (by omega)
    exact rref_step hp (by omega) (elim_good (by omega) hg u) this

/-! ### The first row 0 = r -/
def falseF (rows : List SRow) (done : Nat) : Int := match (rows.drop done).findIdx? (fun r => r.2.1 != 0) with | some k => ((done + k : Nat) : Int) | none => -1
def contrQ (r : RowT) : Bool := noneR r.1 && rightR r.1 != 0
theorem contrQ_flat (r : SRow) : contrQ (flat r) = (r.1.all (fun a => a == 0) && r.2.1 != 0) := by
  simp [contrQ, noneR, rightR, flat, List.getD]
theorem findIdx_drop {α : Type} (q : α → Bool) (l : List α) (d : Nat) (hd : d ≤ l.length) (h0 : ∀ r, r ∈ l.take d → q r = false) : l.findIdx? q = ((l.drop d).findIdx? q).map (fun i => d + i) := by
  conv => lhs; rw [← List.take_append_drop d l]
  rw [List.findIdx?_append, List.findIdx?_eq_none_iff.2 h0]
  simp only [Option.none_or, List.length_take, Nat.min_eq_left hd]
  congr 1
  funext i
  omega
theorem contr_same {p : Int} {U n : Nat} {rows : List SRow} {bs : List Int} (hg : AllG p U n rows) (h : Rref p U rows bs) :
    (match (rows.map flat).findIdx? contrQ with | some i => (i : Int) | none => -1) = falseF rows bs.length := by
  rw [List.findIdx?_map, findIdx_drop _ rows bs.length h.le]
  · have : ∀ l : List SRow, (∀ r, r ∈ l → r.1.all (fun a => a == 0) = true) → l.findIdx? (contrQ ∘ flat) = l.findIdx? (fun r => r.2.1 != 0) := by
      intro l hl
      induction l with
      | nil => rfl
      | cons r rs ih =>
        have ih' := ih (fun x hx => hl x (List.mem_cons_of_mem _ hx))
        simp only [Function.comp_def] at ih' ⊢
        simp only [List.findIdx?_cons, contrQ_flat, hl r (List.mem_cons_self ..), Bool.true_and]
        simp only [contrQ_flat] at ih'
        rw [ih']
    rw [this]
    · unfold falseF
      cases (rows.drop bs.length).findIdx? (fun r => r.2.1 != 0) <;> rfl
    · intro r hr
      obtain ⟨i, hi⟩ := List.mem_iff_getElem?.1 hr
      rw [List.getElem?_drop] at hi
      rw [List.all_eq_true]
      intro a ha
      obtain ⟨c, hc, rfl⟩ := List.getElem_of_mem ha
      have hU := (hg r (List.mem_of_mem_drop hr)).len
      have := h.low _ r hi (by omega) c (by omega)
      simpa [List.getD, hc] using this
  · intro r hr
    obtain ⟨i, hi, rfl⟩ := List.getElem_of_mem hr
    simp only [List.length_take] at hi
    rw [List.getElem_take]
    have hir : i < rows.length := by omega
    have hib : i < bs.length := by omega
    have hb := h.bnd i _ (List.getElem?_eq_getElem hib)
    have hc := h.col i _ i _ (List.getElem?_eq_getElem hir) (List.getElem?_eq_getElem hib)
    rw [if_pos rfl] at hc
    simp only [Function.comp, contrQ_flat, Bool.and_eq_false_iff]
    left
    have hU := (hg rows[i] (List.getElem_mem hir)).len
    have hlt : bs[i].toNat < rows[i].1.length := by omega
    simp only [List.getD, List.getElem?_eq_getElem hlt, Option.getD_some] at hc
    exact List.all_eq_false.2 ⟨_, List.getElem_mem hlt, by rw [hc]; decide⟩

/-! ### The rows at the beginning -/
def rowsS (n : Nat) : Nat → List (List Int × Int) → List SRow
  | _, [] => []
  | i, e :: es => (e.1, e.2, (List.replicate n 0).set i 1) :: rowsS n (i + 1) es
def rowsI (n : Nat) : Nat → List (List Int × Int) → List RowT
  | _, [] => []
  | i, e :: es => (e.1 ++ [e.2], (List.replicate n 0).set i 1) :: rowsI n (i + 1) es
theorem rows_flat (n : Nat) : ∀ (es : List (List Int × Int)) (i : Nat), (rowsS n i es).map flat = rowsI n i es
  | [], _ => rfl
  | e :: es, i => by simp only [rowsS, rowsI, List.map_cons, rows_flat n es (i + 1)]; rfl
theorem rowsS_good {p : Int} {U n : Nat} (hp : 2 ≤ p) : ∀ (es : List (List Int × Int)) (i : Nat), (∀ e, e ∈ es → e.1.length = U ∧ Res p e.1 ∧ 0 ≤ e.2 ∧ e.2 < p) → AllG p U n (rowsS n i es)
  | [], _, _ => fun r hr => by cases hr
  | e :: es, i, h => fun r hr => by
    rcases List.mem_cons.1 hr with rfl | hr
    · have he := h e (List.mem_cons_self ..)
      refine ⟨he.1, by simp, he.2.1, he.2.2, fun a ha => ?_⟩
      rcases List.mem_or_eq_of_mem_set ha with h1 | h1
      · have := List.eq_of_mem_replicate h1; omega
      · omega
    · exact rowsS_good hp es (i + 1) (fun x hx => h x (List.mem_cons_of_mem _ hx)) r hr
theorem rowsS_length (n : Nat) : ∀ (es : List (List Int × Int)) (i : Nat), (rowsS n i es).length = es.length
  | [], _ => rfl
  | e :: es, i => by simp [rowsS, rowsS_length n es]
theorem rowsI_length (n : Nat) : ∀ (es : List (List Int × Int)) (i : Nat), (rowsI n i es).length = es.length
  | [], _ => rfl
  | e :: es, i => by simp [rowsI, rowsI_length n es]
theorem rowsI_snoc (n : Nat) : ∀ (es : List (List Int × Int)) (i : Nat) (e : List Int × Int), rowsI n i (es ++ [e]) = rowsI n i es ++ [(e.1 ++ [e.2], (List.replicate n 0).set (i + es.length) 1)]
  | [], _, _ => rfl
  | x :: es, i, e => by simp only [List.cons_append, rowsI, rowsI_snoc n es, List.length_cons]; rw [show i + 1 + es.length = i + (es.length + 1) by omega]
theorem rowsS_snoc (n : Nat) : ∀ (es : List (List Int × Int)) (i : Nat) (e : List Int × Int), rowsS n i (es ++ [e]) = rowsS n i es ++ [(e.1, e.2, (List.replicate n 0).set (i + es.length) 1)]
  | [], _, _ => rfl
  | x :: es, i, e => by simp only [List.cons_append, rowsS, rowsS_snoc n es, List.length_cons]; rw [show i + 1 + es.length = i + (es.length + 1) by omega]

end Go.Proofs.Ytoblfnoaepbhfaa
