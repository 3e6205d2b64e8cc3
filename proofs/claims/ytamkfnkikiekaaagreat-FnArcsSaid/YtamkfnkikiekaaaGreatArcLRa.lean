/-
  PLAIN LAW of arcs: all solutions stay; what is left is left again; the steps find it again; a step that is told twice is not right.
-/
import Derived.Test.YtamkfnkikiekaaaGreatArcFBRa
namespace Go.Proofs.YtamkfnkikiekaaaGreat
open Go.RowKit
set_option linter.unusedSimpArgs false
set_option linter.unusedVariables false

/-- A value taken out, and the step that says so. -/
def cutA (s : ArcS) (v : Nat) (a : Int) (k : Nat) : ArcS := (s.1.set v ((s.1.getD v []).filter (fun x => x != a)), s.2 ++ [((v : Int), a, (k : Int))])
theorem placeA_inv {V C : Nat} {ts : List (List Int)} {sc : List Int} {ci p : Nat} {Q : ArcS → Prop}
    (hQ : ∀ s a, ArcOk V C s → Q s → a ∈ s.1.getD (sc.getD p 0).toNat [] → (sc.getD p 0).toNat < V → supB ts sc s.1 p a = false → Q (cutA s (sc.getD p 0).toNat a ci)) {s : ArcS} (h : ArcOk V C s) (q : Q s) : Q (placeA ts sc ci s p) := by
  unfold placeA
  by_cases hv : (sc.getD p 0).toNat < V
  · generalize hL : s.1.getD (sc.getD p 0).toNat [] = L
    have hnd : L.Nodup := hL ▸ h.nodup _ (getD_ok h hv)
    have key : ∀ j, j ≤ L.length → ValInv V C (sc.getD p 0).toNat L j ((L.take j).foldl (stepA ts sc ci p (sc.getD p 0).toNat) s) ∧ Q ((L.take j).foldl (stepA ts sc ci p (sc.getD p 0).toNat) s) := by
      intro j
      induction j with
      | zero =>
        intro _
        refine ⟨?_, q⟩
        rw [← hL]
        exact ValInv.start h hv
      | succ j ih =>
        intro hj
        rw [foldl_take_succ _ _ _ (show j < L.length by omega)]
        obtain ⟨i1, i2⟩ := ih (by omega)
        refine ⟨i1.step hv hnd (by omega), ?_⟩
        have hm := i1.mem j (by omega) (Nat.le_refl _)
        generalize (L.take j).foldl (stepA ts sc ci p (sc.getD p 0).toNat) s = u at *
        unfold stepA
        split
        · exact i2
        · rename_i hs
          exact hQ u _ i1.ok i2 hm hv (by simpa using hs)
    have := (key L.length (Nat.le_refl _)).2
    rwa [List.take_length] at this
  · have : s.1.getD (sc.getD p 0).toNat [] = [] := by
      have hl := h.len
      rw [List.getD, List.getElem?_eq_none (by omega)]
      rfl
    rw [this]
    exact q
/-- What each taking keeps, arcs keep. -/
theorem arcs_inv {V C : Nat} {rs : List RelT} {cs : List OpT} {Q : ArcS → Prop}
    (hQ : ∀ s k p a, k < cs.length → p < (cs.getD k (0, [])).2.length → ArcOk V C s → Q s → a ∈ s.1.getD ((cs.getD k (0, [])).2.getD p 0).toNat [] → ((cs.getD k (0, [])).2.getD p 0).toNat < V →
      supB (rs.getD (cs.getD k (0, [])).1.toNat (0, [])).2 (cs.getD k (0, [])).2 s.1 p a = false → Q (cutA s ((cs.getD k (0, [])).2.getD p 0).toNat a k)) :
    ∀ (n : Nat) {s : ArcS}, ArcOk V C s → Q s → Q (arcsA rs cs n s) := by
  have hr : ∀ s, ArcOk V C s ∧ Q s → ArcOk V C (roundA rs cs s) ∧ Q (roundA rs cs s) := fun s hs =>
    foldl_inv (Q := fun s => ArcOk V C s ∧ Q s) _ s (fun s k hk hs =>
      foldl_inv (Q := fun s => ArcOk V C s ∧ Q s) _ s (fun s p hp hs => ⟨placeA_ok hs.1, placeA_inv (fun s a h1 h2 h3 h4 h5 => hQ s k p a (List.mem_range.1 hk) (List.mem_range.1 hp) h1 h2 h3 h4 h5) hs.1 hs.2⟩) hs) hs
  intro n
  induction n with
  | zero => intro s _ q; exact q
  | succ n ih =>
    intro s h q
    have h2 := hr s ⟨h, q⟩
    rw [arcsA]
    split
    · exact h2.2
    · exact ih h2.1 h2.2
theorem getD_set_self {l : List (List Int)} {v : Nat} (h : v < l.length) (d : List Int) : (l.set v d).getD v [] = d := by simp [List.getD, h]
theorem getD_set_other {l : List (List Int)} {v u : Nat} (h : v ≠ u) (d : List Int) : (l.set v d).getD u [] = l.getD u [] := by simp [List.getD, h]
theorem mem_cut {s : ArcS} {v k u : Nat} {a b : Int} (hv : v < s.1.length) : b ∈ (cutA s v a k).1.getD u [] ↔ b ∈ s.1.getD u [] ∧ (u = v → b ≠ a) := by
  unfold cutA
  by_cases h : v = u
  · subst h
    rw [getD_set_self hv]
    simp
  · rw [getD_set_other h]
    exact ⟨fun h1 => ⟨h1, fun e => absurd e.symm h⟩, fun h1 => h1.1⟩
/-- What is left rises as before. -/
theorem arcs_valid {t : Tmpl} {x : Inst} {ds : List (List Int)} (h : domsOk t x ds = true) : domsOk t x (arcsF t x ds).1 = true := by
  have hf := dom_facts h
  have hl := (arcsF_ok h).len
  have h0 := h
  simp only [domsOk, Bool.and_eq_true, decide_eq_true_eq, List.all_eq_true] at h0 ⊢
  refine ⟨h0.1, by omega, ?_⟩
  refine arcs_inv (Q := fun s => ∀ d, d ∈ s.1 → risesB 0 (t.1 - 1) d = true) (fun s k p a hk hp ho q ha hv hs d hd => ?_) _ hf.ok h0.2.2
  rcases List.mem_or_eq_of_mem_set hd with h1 | rfl
  · exact q d h1
  · have h2 := q _ (getD_ok ho hv)
    rw [rises_eq, Bool.and_eq_true, List.all_eq_true, decide_eq_true_eq, rise_iff] at h2 ⊢
    exact ⟨fun b hb => h2.1 b (List.mem_filter.1 hb).1, h2.2.filter _⟩
/-- A solution, in plain words. -/
structure SolP (t : Tmpl) (x : Inst) (y : List Int) : Prop where
  con : ∀ k, k < x.2.length → (x.2.getD k (0, [])).2.map (fun v => y.getD v.toNat 0) ∈ (t.2.getD (x.2.getD k (0, [])).1.toNat (0, [])).2
theorem map_get (sc : List Int) (y : List Int) {i : Nat} (hi : i < sc.length) : (sc.map (fun v => y.getD v.toNat 0)).getD i 0 = y.getD (sc.getD i 0).toNat 0 := by
  simp [List.getD, hi]
theorem hasI_iff {l : List Int} {a : Int} : hasI l a = true ↔ a ∈ l := by
  unfold hasI
  rw [List.any_eq_true]
  exact ⟨fun ⟨x, h1, h2⟩ => by rw [eq_of_beq h2]; exact h1, fun h => ⟨a, h, beq_self_eq_true a⟩⟩
theorem sol_sup {ts : List (List Int)} {sc : List Int} {ds : List (List Int)} {y : List Int} {p : Nat} (hp : p < sc.length) (hy : sc.map (fun v => y.getD v.toNat 0) ∈ ts) (hd : ∀ i, i < sc.length → y.getD (sc.getD i 0).toNat 0 ∈ ds.getD (sc.getD i 0).toNat []) :
    supB ts sc ds p (y.getD (sc.getD p 0).toNat 0) = true := by
  unfold supB
  rw [List.any_eq_true]
  refine ⟨_, hy, supY_of ?_ (fun i hi => ?_)⟩
  · rw [Bool.and_eq_true]
    refine ⟨decide_eq_true (map_get sc y hp), wholeB_of (fun i hi j hj => ?_)⟩
    unfold agB
    rw [map_get sc y hi, map_get sc y (by omega)]
    by_cases h : sc.getD j 0 = sc.getD i 0
    · rw [h]; simp
    · rw [decide_eq_false h]; rfl
  · unfold supAt
    rw [map_get sc y hi]
    exact hasI_iff.2 (hd i hi)
/-- All solutions lie in what arcs leave. -/
theorem arcs_sound {t : Tmpl} {x : Inst} {ds : List (List Int)} (h : domsOk t x ds = true) {y : List Int} (hy : SolP t x y) (hd : ∀ v, v < ds.length → y.getD v 0 ∈ ds.getD v []) : ∀ v, v < ds.length → y.getD v 0 ∈ (arcsF t x ds).1.getD v [] := by
  have hf := dom_facts h
  refine arcs_inv (Q := fun s => ∀ v, v < ds.length → y.getD v 0 ∈ s.1.getD v []) (fun s k p a hk hp ho q ha hv hs v hvl => ?_) _ hf.ok hd
  rw [mem_cut (by rw [ho.len]; exact hv)]
  refine ⟨q v hvl, fun e hya => ?_⟩
  obtain ⟨n, e1, e2, e3, e4, e5⟩ := con_facts hf.inst hk
  have hg : x.2.getD k (0, []) = x.2[k] := by simp [List.getD, hk]
  have hl := hf.len
  rw [← hg] at e4
  have hyk := hy.con k hk
  generalize x.2.getD k (0, []) = c at *
  have h9 := sol_sup (ts := (t.2.getD c.1.toNat (0, [])).2) (sc := c.2) (ds := s.1) (y := y) hp hyk (fun i hi => q _ (by
    have := e4 (c.2.getD i 0) (by simp [List.getD, hi])
    omega))
  rw [← e, hya, hs] at h9
  cases h9
/-- A step that is told twice is not right. -/
theorem arcs_gone {t : Tmpl} {x : Inst} {ds : List (List Int)} (h : domsOk t x ds = true) : ∀ e, e ∈ (arcsF t x ds).2 → e.2.1 ∉ (arcsF t x ds).1.getD e.1.toNat [] := by
  have hf := dom_facts h
  refine arcs_inv (Q := fun s => ∀ e, e ∈ s.2 → e.2.1 ∉ s.1.getD e.1.toNat []) (fun s k p a hk hp ho q ha hv hs e he => ?_) _ hf.ok (fun e he => by cases he)
  rw [mem_cut (by rw [ho.len]; exact hv)]
  unfold cutA at he
  rcases List.mem_append.1 he with h1 | h1
  · exact fun h2 => q e h1 h2.1
  · simp only [List.mem_singleton] at h1
    subst h1
    exact fun h2 => h2.2 (Int.toNat_natCast _) rfl
theorem replay_snoc (t : Tmpl) (x : Inst) (e : Int × Int × Int) : ∀ (l : List (Int × Int × Int)) (i : Nat) (ds u : List (List Int)), replayA t x l i ds = (u, 0, 0) → replayA t x (l ++ [e]) i ds = if stepOk t x u e then (cutD u e, 0, 0) else ([], ((i + l.length : Nat) : Int), 8)
  | [], i, ds, u, h => by
    simp only [replayA, Prod.mk.injEq, and_true] at h
    subst h
    simp only [List.nil_append, replayA, List.length_nil, Nat.add_zero]
  | s :: l, i, ds, u, h => by
    rw [replayA] at h
    rw [List.cons_append, replayA]
    by_cases hs : stepOk t x ds s = true
    · rw [if_pos hs] at h ⊢
      rw [replay_snoc t x e l (i + 1) _ u h, List.length_cons, show i + 1 + l.length = i + (l.length + 1) by omega]
    · rw [if_neg hs] at h
      simp only [Prod.mk.injEq] at h
      exact absurd h.2.2 (by decide)
/-- The steps find again what is left. -/
theorem arcs_replay {t : Tmpl} {x : Inst} {ds : List (List Int)} (h : domsOk t x ds = true) : replayA t x (arcsF t x ds).2 0 ds = ((arcsF t x ds).1, 0, 0) := by
  have hf := dom_facts h
  refine arcs_inv (Q := fun s => replayA t x s.2 0 ds = (s.1, 0, 0)) (fun s k p a hk hp ho q ha hv hs => ?_) _ hf.ok rfl
  unfold cutA
  rw [replay_snoc t x _ s.2 0 ds s.1 q]
  obtain ⟨n, e1, e2, e3, e4, e5⟩ := con_facts hf.inst hk
  have hg : x.2.getD k (0, []) = x.2[k] := by simp [List.getD, hk]
  have hl := hf.len
  have h0 := e4 (x.2[k].2.getD p 0) (by rw [hg] at hp; simp [List.getD, hp])
  rw [if_pos ?_]
  · rfl
  · unfold stepOk firstOk conAny
    simp only [Int.toNat_natCast, Bool.and_eq_true]
    refine ⟨⟨⟨inB_mk (by omega), inB_mk (by omega)⟩, hasI_iff.2 ha⟩, any_has hp ?_⟩
    unfold placeOk
    rw [hs, hg]
    simp only [Bool.not_false, Bool.and_true]
    exact decide_eq_true (by omega)
theorem arcs_twice {t : Tmpl} {x : Inst} {ds : List (List Int)} (h : domsOk t x ds = true) {e : Int × Int × Int} (he : e ∈ (arcsF t x ds).2) : replayA t x ((arcsF t x ds).2 ++ [e]) 0 ds = ([], ((arcsF t x ds).2.length : Int), 8) := by
  rw [replay_snoc t x e _ 0 ds _ (arcs_replay h), if_neg ?_, Nat.zero_add]
  unfold stepOk firstOk
  have h1 := arcs_gone h e he
  have h2 : hasI ((arcsF t x ds).1.getD e.1.toNat []) e.2.1 = false := by
    rw [Bool.eq_false_iff]
    exact fun h3 => h1 (hasI_iff.1 h3)
  rw [h2]
  simp
/-- The steps that were told before do not matter. -/
def shA (m : List (Int × Int × Int)) (s : ArcS) : ArcS := (s.1, m ++ s.2)
theorem stepA_sh (ts : List (List Int)) (sc : List Int) (ci p v : Nat) (m : List (Int × Int × Int)) (s : ArcS) (a : Int) : stepA ts sc ci p v (shA m s) a = shA m (stepA ts sc ci p v s a) := by
  unfold stepA shA
  split <;> simp
theorem foldl_sh {β : Type} {f : ArcS → β → ArcS} (m : List (Int × Int × Int)) (hf : ∀ s b, f (shA m s) b = shA m (f s b)) : ∀ (l : List β) (s : ArcS), l.foldl f (shA m s) = shA m (l.foldl f s)
  | [], _ => rfl
  | b :: l, s => by rw [List.foldl_cons, hf, foldl_sh m hf l, List.foldl_cons]
theorem placeA_sh (ts : List (List Int)) (sc : List Int) (ci : Nat) (m : List (Int × Int × Int)) (s : ArcS) (p : Nat) : placeA ts sc ci (shA m s) p = shA m (placeA ts sc ci s p) :=
  foldl_sh m (fun s a => stepA_sh ts sc ci p _ m s a) _ s
theorem conA_sh (rs : List RelT) (cs : List OpT) (m : List (Int × Int × Int)) (s : ArcS) (k : Nat) : conA rs cs (shA m s) k = shA m (conA rs cs s k) :=
  foldl_sh m (fun s p => placeA_sh _ _ _ m s p) _ s
theorem roundA_sh (rs : List RelT) (cs : List OpT) (m : List (Int × Int × Int)) (s : ArcS) : roundA rs cs (shA m s) = shA m (roundA rs cs s) :=
  foldl_sh m (fun s k => conA_sh rs cs m s k) _ s
theorem foldl_same {β : Type} {f : ArcS → β → ArcS} (hf : ∀ s b, s.2.length ≤ (f s b).2.length ∧ ((f s b).2.length = s.2.length → f s b = s)) : ∀ (l : List β) (s : ArcS), s.2.length ≤ (l.foldl f s).2.length ∧ ((l.foldl f s).2.length = s.2.length → l.foldl f s = s)
  | [], _ => ⟨Nat.le_refl _, fun _ => rfl⟩
  | b :: l, s => by
    have h1 := hf s b
    have h2 := foldl_same hf l (f s b)
    rw [List.foldl_cons]
    refine ⟨Nat.le_trans h1.1 h2.1, fun h => ?_⟩
    have h3 : (f s b).2.length = s.2.length := by omega
    rw [h2.2 (by omega), h1.2 h3]
theorem placeA_same (ts : List (List Int)) (sc : List Int) (ci : Nat) (s : ArcS) (p : Nat) : s.2.length ≤ (placeA ts sc ci s p).2.length ∧ ((placeA ts sc ci s p).2.length = s.2.length → placeA ts sc ci s p = s) :=
  foldl_same (fun s a => stepA_more ts sc ci p _ s a) _ s
theorem conA_same (rs : List RelT) (cs : List OpT) (s : ArcS) (k : Nat) : s.2.length ≤ (conA rs cs s k).2.length ∧ ((conA rs cs s k).2.length = s.2.length → conA rs cs s k = s) :=
  foldl_same (fun s p => placeA_same _ _ _ s p) _ s
theorem roundA_same (rs : List RelT) (cs : List OpT) (s : ArcS) : s.2.length ≤ (roundA rs cs s).2.length ∧ ((roundA rs cs s).2.length = s.2.length → roundA rs cs s = s) :=
  foldl_same (fun s k => conA_same rs cs s k) _ s
theorem arcs_stop {V C : Nat} {rs : List RelT} {cs : List OpT} : ∀ (n : Nat) {s : ArcS}, ArcOk V C s → C - s.2.length < n → roundA rs cs (arcsA rs cs n s) = arcsA rs cs n s
  | 0, _, _, h => absurd h (Nat.not_lt_zero _)
  | n + 1, s, ho, h => by
    have h1 := roundA_same rs cs s
    rw [arcsA]
    split
    · rename_i h2
      rw [h1.2 h2, h1.2 h2]
    · rename_i h2
      have h3 := (roundA_ok (rs := rs) (cs := cs) ho).pot
      exact arcs_stop n (roundA_ok ho) (by omega)
/-- What is left is left again. -/
theorem arcs_again {t : Tmpl} {x : Inst} {ds : List (List Int)} (h : domsOk t x ds = true) : arcsF t x (arcsF t x ds).1 = ((arcsF t x ds).1, []) := by
  have hf := dom_facts h
  have h1 : roundA t.2 x.2 (arcsF t x ds) = arcsF t x ds := arcs_stop _ hf.ok (by simp only [List.length_nil]; omega)
  generalize arcsF t x ds = A at *
  have h2 : shA A.2 (A.1, []) = A := by unfold shA; simp
  have h3 := roundA_sh t.2 x.2 A.2 (A.1, [])
  rw [h2, h1] at h3
  have h4 : (roundA t.2 x.2 (A.1, [])).2.length = 0 := by
    have := congrArg (fun u => u.2.length) h3
    simp only [shA, List.length_append] at this
    omega
  have h5 := (roundA_same t.2 x.2 (A.1, [])).2 h4
  unfold arcsF
  rw [arcsA, h5, if_pos rfl]

end Go.Proofs.YtamkfnkikiekaaaGreat

