/-
  PLAIN LAW: what the arcs of valid domains answer.
-/
import Derived.Test.YtbbmadmnmlljmaaGreatArcW
import Derived.Test.YtbbmadmnmlljmaaGreatDom
namespace Go.Proofs.YtbbmadmnmlljmaaGreat
open Go.RowKit
open Rep (Rd Own sz)
set_option linter.unusedSimpArgs false
set_option linter.unusedVariables false

def lensA (ds : List (List Int)) : Nat := (ds.map List.length).sum
def arcsF (t : Tmpl) (x : Inst) (ds : List (List Int)) : ArcS := arcsA t.2 x.2 (lensA ds + 1) (ds, [])
def makeArcsF (t : Tmpl) (x : Inst) (ds : List (List Int)) : ArcS × Int := if domsOk t x ds then (arcsF t x ds, 0) else (([], []), 1)
def isArcF (t : Tmpl) (x : Inst) (ds : List (List Int)) : Bool × Int := if domsOk t x ds then (decide ((arcsF t x ds).2.length = 0), 0) else (false, 1)
theorem placeA_ok {V C : Nat} {ts : List (List Int)} {sc : List Int} {ci p : Nat} {s : ArcS} (h : ArcOk V C s) : ArcOk V C (placeA ts sc ci s p) := by
  unfold placeA
  by_cases hv : (sc.getD p 0).toNat < V
  · generalize hL : s.1.getD (sc.getD p 0).toNat [] = L
    have hnd : L.Nodup := hL ▸ h.nodup _ (getD_ok h hv)
    have key : ∀ j, j ≤ L.length → ValInv V C (sc.getD p 0).toNat L j ((L.take j).foldl (stepA ts sc ci p (sc.getD p 0).toNat) s) := by
      intro j
      induction j with
      | zero =>
        intro _
        rw [← hL]
        exact ValInv.start h hv
      | succ j ih =>
        intro hj
        rw [foldl_take_succ _ _ _ (show j < L.length by omega)]
        exact (ih (by omega)).step hv hnd (by omega)
    have := (key L.length (Nat.le_refl _)).ok
    rwa [List.take_length] at this
  · have : s.1.getD (sc.getD p 0).toNat [] = [] := by
      have hl := h.len
      rw [List.getD, List.getElem?_eq_none (by omega)]
      rfl
    rw [this]
    exact h
theorem foldl_ok {V C : Nat} {β : Type} {f : ArcS → β → ArcS} (hf : ∀ s b, ArcOk V C s → ArcOk V C (f s b)) : ∀ (l : List β) (s : ArcS), ArcOk V C s → ArcOk V C (l.foldl f s)
  | [], _, h => h
  | b :: l, s, h => foldl_ok hf l _ (hf s b h)
theorem roundA_ok {V C : Nat} {rs : List RelT} {cs : List OpT} {s : ArcS} (h : ArcOk V C s) : ArcOk V C (roundA rs cs s) :=
  foldl_ok (fun s k h => foldl_ok (fun s p h => placeA_ok h) _ s h) _ s h
theorem arcsA_ok {V C : Nat} {rs : List RelT} {cs : List OpT} : ∀ (n : Nat) {s : ArcS}, ArcOk V C s → ArcOk V C (arcsA rs cs n s)
  | 0, _, h => h
  | n + 1, s, h => by
    rw [arcsA]
    split
    · exact roundA_ok h
    · exact arcsA_ok n (roundA_ok h)
theorem rises_ge0 {hi : Int} {l : List Int} (h : risesB 0 hi l = true) : ∀ i, i < l.length → (i : Int) ≤ l.getD i 0
  | 0, hi0 => by
    simp only [risesB, List.all_eq_true, List.mem_range] at h
    have h1 := h 0 hi0
    simp only [risAt, Bool.and_eq_true] at h1
    have := inB_true h1.1
    simpa using this.1
  | i + 1, hi1 => by
    have ih := rises_ge0 h i (by omega)
    simp only [risesB, List.all_eq_true, List.mem_range] at h
    have h1 := h (i + 1) hi1
    simp only [risAt, Bool.and_eq_true, Bool.or_eq_true, decide_eq_true_eq, Nat.add_sub_cancel] at h1
    have := h1.2
    omega
theorem rises_four {size : Int} {l : List Int} (h : risesB 0 (size - 1) l = true) (hs : size ≤ 4) : l.length ≤ 4 := by
  by_cases hl : l.length ≤ 4
  · exact hl
  · have h1 := rises_ge0 h 4 (by omega)
    simp only [risesB, List.all_eq_true, List.mem_range] at h
    have h2 := h 4 (by omega)
    simp only [risAt, Bool.and_eq_true] at h2
    have := inB_true h2.1
    omega
theorem rises_nodup {lo hi : Int} {l : List Int} (h : risesB lo hi l = true) : l.Nodup := by
  rw [rises_eq] at h
  simp only [Bool.and_eq_true, decide_eq_true_eq] at h
  have := (rise_iff l).1 h.2
  exact this.imp (fun hab => by omega)
theorem lens_le {ds : List (List Int)} {n : Nat} (h : ∀ d, d ∈ ds → d.length ≤ n) : lensA ds ≤ n * ds.length := by
  unfold lensA
  induction ds with
  | nil => simp
  | cons d ds ih =>
    have h1 := h d (by simp)
    have h2 := ih (fun e he => h e (by simp [he]))
    simp only [List.map_cons, List.sum_cons, List.length_cons, Nat.mul_add, Nat.mul_one]
    omega
structure DomFacts (t : Tmpl) (x : Inst) (ds : List (List Int)) : Prop where
  inst : instOk t x = true
  len : (ds.length : Int) = x.1
  ten : ds.length ≤ 10
  ok : ArcOk ds.length (lensA ds) (ds, [])
  forty : lensA ds ≤ 40
  four : ∀ d, d ∈ ds → d.length ≤ 4
theorem dom_facts {t : Tmpl} {x : Inst} {ds : List (List Int)} (h : domsOk t x ds = true) : DomFacts t x ds := by
  simp only [domsOk, Bool.and_eq_true, decide_eq_true_eq, List.all_eq_true] at h
  obtain ⟨h1, h2, h3⟩ := h
  have h4 := (instOk_get h1).2.1
  have h5 := (tmplOk_get (instOk_get h1).1).1
  have h6 : ∀ d, d ∈ ds → d.length ≤ 4 := fun d hd => rises_four (h3 d hd) h5.2
  have h7 := lens_le h6
  refine ⟨h1, h2, by omega, ⟨rfl, fun d hd => by have := h6 d hd; omega, fun d hd => rises_nodup (h3 d hd), by simp [lensA]⟩, by omega, h6⟩
theorem arcsF_ok {t : Tmpl} {x : Inst} {ds : List (List Int)} (h : domsOk t x ds = true) : ArcOk ds.length (lensA ds) (arcsF t x ds) := arcsA_ok _ (dom_facts h).ok
/-- Of what values and steps are made. -/
structure InA (P : Int → Prop) (V K : Nat) (s : ArcS) : Prop where
  len : s.1.length = V
  val : ∀ d, d ∈ s.1 → ∀ a, a ∈ d → P a
  step : ∀ e, e ∈ s.2 → (∃ v : Nat, e.1 = (v : Int) ∧ v < V) ∧ P e.2.1 ∧ ∃ k : Nat, e.2.2 = (k : Int) ∧ k < K
theorem foldl_inv {β : Type} {f : ArcS → β → ArcS} {Q : ArcS → Prop} : ∀ (l : List β) (s : ArcS), (∀ s b, b ∈ l → Q s → Q (f s b)) → Q s → Q (l.foldl f s)
  | [], _, _, h => h
  | b :: l, s, hf, h => foldl_inv l _ (fun s c hc => hf s c (List.mem_cons_of_mem _ hc)) (hf s b (List.mem_cons_self ..) h)
section
variable {P : Int → Prop} {V K : Nat}
theorem stepA_in {ts : List (List Int)} {sc : List Int} {ci p v : Nat} {s : ArcS} {a : Int} (h : InA P V K s) (hv : v < V) (hc : ci < K) (ha : P a) : InA P V K (stepA ts sc ci p v s a) := by
  unfold stepA
  split
  · exact h
  · have hl : v < s.1.length := by rw [h.len]; exact hv
    have hg : s.1.getD v [] = s.1[v] := by simp [List.getD, hl]
    refine ⟨by simpa using h.len, fun d hd => ?_, fun e he => ?_⟩
    · rcases List.mem_or_eq_of_mem_set hd with h1 | rfl
      · exact h.val d h1
      · intro b hb
        rw [hg] at hb
        exact h.val _ (List.getElem_mem hl) b (List.mem_filter.1 hb).1
    · rcases List.mem_append.1 he with h1 | h1
      · exact h.step e h1
      · rw [List.mem_singleton] at h1
        subst h1
        exact ⟨⟨v, rfl, hv⟩, ha, ⟨ci, rfl, hc⟩⟩
theorem placeA_in {ts : List (List Int)} {sc : List Int} {ci p : Nat} {s : ArcS} (h : InA P V K s) (hc : ci < K) : InA P V K (placeA ts sc ci s p) := by
  unfold placeA
  by_cases hv : (sc.getD p 0).toNat < V
  · have hl : (sc.getD p 0).toNat < s.1.length := by rw [h.len]; exact hv
    have hg : s.1.getD (sc.getD p 0).toNat [] = s.1[(sc.getD p 0).toNat] := by rw [List.getD, List.getElem?_eq_getElem hl]; rfl
    refine foldl_inv _ s (fun s' b hb h' => stepA_in h' hv hc ?_) h
    rw [hg] at hb
    exact h.val _ (List.getElem_mem hl) b hb
  · have : s.1.getD (sc.getD p 0).toNat [] = [] := by
      have hl := h.len
      rw [List.getD, List.getElem?_eq_none (by omega)]
      rfl
    rw [this]
    exact h
theorem roundA_in {rs : List RelT} {cs : List OpT} {s : ArcS} (h : InA P V cs.length s) : InA P V cs.length (roundA rs cs s) :=
  foldl_inv _ s (fun s' k hk h' => foldl_inv _ s' (fun s2 p _ h2 => placeA_in h2 (List.mem_range.1 hk)) h') h
theorem arcsA_in {rs : List RelT} {cs : List OpT} : ∀ (n : Nat) {s : ArcS}, InA P V cs.length s → InA P V cs.length (arcsA rs cs n s)
  | 0, _, h => h
  | n + 1, s, h => by
    rw [arcsA]
    split
    · exact roundA_in h
    · exact arcsA_in n (roundA_in h)
end
theorem arcsF_in {t : Tmpl} {x : Inst} {ds : List (List Int)} (h : domsOk t x ds = true) : InA (fun a => 0 ≤ a ∧ a ≤ 3) ds.length x.2.length (arcsF t x ds) := by
  refine arcsA_in _ ⟨rfl, fun d hd a ha => ?_, fun e he => by cases he⟩
  simp only [domsOk, Bool.and_eq_true, List.all_eq_true] at h
  have h1 := h.2.2 d hd
  have h5 := (tmplOk_get (instOk_get h.1).1).1
  rw [rises_eq] at h1
  simp only [Bool.and_eq_true, List.all_eq_true] at h1
  have := inB_true (h1.1 a ha)
  omega
theorem own_step3 (w : World) {e : Int × Int × Int} (h : I64 e.1 ∧ I64 e.2.1 ∧ I64 e.2.2) : Own [] w [.int .i64 e.1, .int .i64 e.2.1, .int .i64 e.2.2] e :=
  mk_own (p := []) (x := e.1) (y := e.2) ⟨rfl, rfl, h.1⟩ (mk_own (p := []) (x := e.2.1) (y := e.2.2) ⟨rfl, rfl, h.2.1⟩ (⟨rfl, rfl, h.2.2⟩ : Own [] w [.int .i64 e.2.2] e.2.2))
theorem flat3_get : ∀ (l : List (Int × Int × Int)) (i : Nat) (hi : i < l.length) (k : Nat), k < 3 → (flat3 l)[i * 3 + k]? = [Value.int .i64 l[i].1, .int .i64 l[i].2.1, .int .i64 l[i].2.2][k]?
  | [], _, hi, _, _ => by cases hi
  | t :: l, 0, _, k, hk => by
    rcases (show k = 0 ∨ k = 1 ∨ k = 2 by omega) with rfl | rfl | rfl <;> rfl
  | t :: l, i + 1, hi, k, hk => by
    have e : flat3 (t :: l) = .int .i64 t.1 :: .int .i64 t.2.1 :: .int .i64 t.2.2 :: flat3 l := rfl
    rw [e, show (i + 1) * 3 + k = i * 3 + k + 1 + 1 + 1 by omega, List.getElem?_cons_succ, List.getElem?_cons_succ, List.getElem?_cons_succ]
    exact flat3_get l i (by simpa using hi) k hk
/-- At the end: domains and steps are owned, apart from each other. -/
theorem arcW_fresh {w0 : World} {AD : Nat → Prop} {B0 g cd V : Nat} {eS : TypeId} {bx : List (Nat × Array Value × TypeId)} {w : World} {gs co : Nat} {s : ArcS} (h : ArcW w0 AD B0 g cd V eS bx w gs co s)
    (hI : ∀ e, e ∈ s.2 → I64 e.1 ∧ I64 e.2.1 ∧ I64 e.2.2) {lo : Nat} (hlo : lo ≤ B0) (hAD : ∀ z, AD z → lo ≤ z) : Fresh lo w [.slice (some ⟨g, 0, none⟩) V cd, .slice (some ⟨gs, 0, none⟩) s.2.length co] s := by
  have ho := ownSl_of_row (α := Int × Int × Int) (l := s.2) (pss := List.replicate s.2.length []) h.row (by simp) (fun i hi => ⟨[], _, by simp [hi], own_step3 w (hI _ (List.getElem_mem hi)), fun k hk => flat3_get s.2 i hi k hk⟩)
  have he : (Value.slice (some ⟨gs, 0, none⟩) s.2.length co).ownBlock.toList ++ List.flatten (List.replicate s.2.length ([] : List Nat)) = [gs] := by simp [Value.ownBlock]
  rw [he] at ho
  have hd2 : Ip (fun z => z = gs) w [.slice (some ⟨gs, 0, none⟩) s.2.length co] s.2 := ⟨[gs], ⟨_, rfl, ho⟩, by simp, fun k hk => by simpa using hk⟩
  refine ip_cons (C := fun z => lo ≤ z) h.dom hd2 (fun k hk => hk.1.2) (fun k hk => ?_) (fun k hk => ?_)
  · rcases hk.1.1 with h1 | h1
    · exact hAD k h1
    · exact Nat.le_trans hlo h1
  · rw [hk]; exact Nat.le_trans hlo h.gs.1.1

end Go.Proofs.YtbbmadmnmlljmaaGreat
