/-
  SEVERAL TEXTS IN ONE.
-/
import Derived.Test.YtamkfnkikiekaaaGreatArcMBRa
import Derived.Test.YtamkfnkikiekaaaGreatDomBRa

/-
  PLAIN LAW: what the arcs of valid domains answer.
-/
namespace Go.Proofs.YtamkfnkikiekaaaGreat
open Go.RowKit
open Rep (Rd Own sz)
set_option linter.unusedSimpArgs false
set_option linter.unusedVariables false

def lensA (ds : List (List Int)) : Nat := (ds.map List.length).sum
def arcsF (t : Tmpl) (x : Inst) (ds : List (List Int)) : ArcS := arcsA t.2 x.2 (lensA ds + 1) (ds, [])
def makeArcsF (t : Tmpl) (x : Inst) (ds : List (List Int)) : ArcS × Int := if domsOk t x ds then (arcsF t x ds, 0) else (([], []), 1)
def isArcF (t : Tmpl) (x : Inst) (ds : List (List Int)) : Bool × Int := if domsOk t x ds then (decide ((arcsF t x ds).2.length = 0), 0) else (false, 1)
theorem placeA_ok {V C : Nat} {ts : List (List Int)} {sc : List Int} {ci p : Nat} {s : ArcS} (h : ArcOk V C s) : ArcOk V C (placeA ts sc ci s p) := by
  unfold placeA
  by_cases hv : (sc.getD p 0).toNat < V
  · generalize hL : s.1.getD (sc.getD p 0).toNat [] = L
    have hnd : L.Nodup := hL ▸ h.nodup _ (getD_ok h hv)
    have key : ∀ j, j ≤ L.length → ValInv V C (sc.getD p 0).toNat L j ((L.take j).foldl (stepA ts sc ci p (sc.getD p 0).toNat) s) := by
      intro j
      induction j with
      | zero =>
        intro _
        rw [← hL]
        exact ValInv.start h hv
      | succ j ih =>
        intro hj
        rw [foldl_take_succ _ _ _ (show j < L.length by omega)]
        exact (ih (by omega)).step hv hnd (by omega)
    have := (key L.length (Nat.le_refl _)).ok
    rwa [List.take_length] at this
  · have : s.1.getD (sc.getD p 0).toNat [] = [] := by
      have hl := h.len
      rw [List.getD, List.getElem?_eq_none (by omega)]
      rfl
    rw [this]
    exact h
theorem foldl_ok {V C : Nat} {β : Type} {f : ArcS → β → ArcS} (hf : ∀ s b, ArcOk V C s → ArcOk V C (f s b)) : ∀ (l : List β) (s : ArcS), ArcOk V C s → ArcOk V C (l.foldl f s)
  | [], _, h => h
  | b :: l, s, h => foldl_ok hf l _ (hf s b h)
theorem roundA_ok {V C : Nat} {rs : List RelT} {cs : List OpT} {s : ArcS} (h : ArcOk V C s) : ArcOk V C (roundA rs cs s) :=
  foldl_ok (fun s k h => foldl_ok (fun s p h => placeA_ok h) _ s h) _ s h
theorem arcsA_ok {V C : Nat} {rs : List RelT} {cs : List OpT} : ∀ (n : Nat) {s : ArcS}, ArcOk V C s → ArcOk V C (arcsA rs cs n s)
  | 0, _, h => h
  | n + 1, s, h => by
    rw [arcsA]
    split
    · exact roundA_ok h
    · exact arcsA_ok n (roundA_ok h)
theorem rises_ge0 {hi : Int} {l : List Int} (h : risesB 0 hi l = true) : ∀ i, i < l.length → (i : Int) ≤ l.getD i 0
  | 0, hi0 => by
    simp only [risesB, List.all_eq_true, List.mem_range] at h
    have h1 := h 0 hi0
    simp only [risAt, Bool.and_eq_true] at h1
    have := inB_true h1.1
    simpa using this.1
  | i + 1, hi1 => by
    have ih := rises_ge0 h i (by omega)
    simp only [risesB, List.all_eq_true, List.mem_range] at h
    have h1 := h (i + 1) hi1
    simp only [risAt, Bool.and_eq_true, Bool.or_eq_true, decide_eq_true_eq, Nat.add_sub_cancel] at h1
    have := h1.2
    omega
theorem rises_four {size : Int} {l : List Int} (h : risesB 0 (size - 1) l = true) (hs : size ≤ 4) : l.length ≤ 4 := by
  by_cases hl : l.length ≤ 4
  · exact hl
  · have h1 := rises_ge0 h 4 (by omega)
    simp only [risesB, List.all_eq_true, List.mem_range] at h
    have h2 := h 4 (by omega)
    simp only [risAt, Bool.and_eq_true] at h2
    have := inB_true h2.1
    omega
theorem rises_nodup {lo hi : Int} {l : List Int} (h : risesB lo hi l = true) : l.Nodup := by
  rw [rises_eq] at h
  simp only [Bool.and_eq_true, decide_eq_true_eq] at h
  have := (rise_iff l).1 h.2
  exact this.imp (fun hab => by omega)
theorem lens_le {ds : List (List Int)} {n : Nat} (h : ∀ d, d ∈ ds → d.length ≤ n) : lensA ds ≤ n * ds.length := by
  unfold lensA
  induction ds with
  | nil => simp
  | cons d ds ih =>
    have h1 := h d (by simp)
    have h2 := ih (fun e he => h e (by simp [he]))
    simp only [List.map_cons, List.sum_cons, List.length_cons, Nat.mul_add, Nat.mul_one]
    omega
structure DomFacts (t : Tmpl) (x : Inst) (ds : List (List Int)) : Prop where
  inst : instOk t x = true
  len : (ds.length : Int) = x.1
  ten : ds.length ≤ 10
  ok : ArcOk ds.length (lensA ds) (ds, [])
  forty : lensA ds ≤ 40
  four : ∀ d, d ∈ ds → d.length ≤ 4
theorem dom_facts {t : Tmpl} {x : Inst} {ds : List (List Int)} (h : domsOk t x ds = true) : DomFacts t x ds := by
  simp only [domsOk, Bool.and_eq_true, decide_eq_true_eq, List.all_eq_true] at h
  obtain ⟨h1, h2, h3⟩ := h
  have h4 := (instOk_get h1).2.1
  have h5 := (tmplOk_get (instOk_get h1).1).1
  have h6 : ∀ d, d ∈ ds → d.length ≤ 4 := fun d hd => rises_four (h3 d hd) h5.2
  have h7 := lens_le h6
  refine ⟨h1, h2, by omega, ⟨rfl, fun d hd => by have := h6 d hd; omega, fun d hd => rises_nodup (h3 d hd), by simp [lensA]⟩, by omega, h6⟩
theorem arcsF_ok {t : Tmpl} {x : Inst} {ds : List (List Int)} (h : domsOk t x ds = true) : ArcOk ds.length (lensA ds) (arcsF t x ds) := arcsA_ok _ (dom_facts h).ok
/-- Of what values and steps are made. -/
structure InA (P : Int → Prop) (V K : Nat) (s : ArcS) : Prop where
  len : s.1.length = V
  val : ∀ d, d ∈ s.1 → ∀ a, a ∈ d → P a
  step : ∀ e, e ∈ s.2 → (∃ v : Nat, e.1 = (v : Int) ∧ v < V) ∧ P e.2.1 ∧ ∃ k : Nat, e.2.2 = (k : Int) ∧ k < K
theorem foldl_inv {β : Type} {f : ArcS → β → ArcS} {Q : ArcS → Prop} : ∀ (l : List β) (s : ArcS), (∀ s b, b ∈ l → Q s → Q (f s b)) → Q s → Q (l.foldl f s)
  | [], _, _, h => h
  | b :: l, s, hf, h => foldl_inv l _ (fun s c hc => hf s c (List.mem_cons_of_mem _ hc)) (hf s b (List.mem_cons_self ..) h)
section
variable {P : Int → Prop} {V K : Nat}
theorem stepA_in {ts : List (List Int)} {sc : List Int} {ci p v : Nat} {s : ArcS} {a : Int} (h : InA P V K s) (hv : v < V) (hc : ci < K) (ha : P a) : InA P V K (stepA ts sc ci p v s a) := by
  unfold stepA
  split
  · exact h
  · have hl : v < s.1.length := by rw [h.len]; exact hv
    have hg : s.1.getD v [] = s.1[v] := by simp [List.getD, hl]
    refine ⟨by simpa using h.len, fun d hd => ?_, fun e he => ?_⟩
    · rcases List.mem_or_eq_of_mem_set hd with h1 | rfl
      · exact h.val d h1
      · intro b hb
        rw [hg] at hb
        exact h.val _ (List.getElem_mem hl) b (List.mem_filter.1 hb).1
    · rcases List.mem_append.1 he with h1 | h1
      · exact h.step e h1
      · rw [List.mem_singleton] at h1
        subst h1
        exact ⟨⟨v, rfl, hv⟩, ha, ⟨ci, rfl, hc⟩⟩
theorem placeA_in {ts : List (List Int)} {sc : List Int} {ci p : Nat} {s : ArcS} (h : InA P V K s) (hc : ci < K) : InA P V K (placeA ts sc ci s p) := by
  unfold placeA
  by_cases hv : (sc.getD p 0).toNat < V
  · have hl : (sc.getD p 0).toNat < s.1.length := by rw [h.len]; exact hv
    have hg : s.1.getD (sc.getD p 0).toNat [] = s.1[(sc.getD p 0).toNat] := by rw [List.getD, List.getElem?_eq_getElem hl]; rfl
    refine foldl_inv _ s (fun s' b hb h' => stepA_in h' hv hc ?_) h
    rw [hg] at hb
    exact h.val _ (List.getElem_mem hl) b hb
  · have : s.1.getD (sc.getD p 0).toNat [] = [] := by
      have hl := h.len
      rw [List.getD, List.getElem?_eq_none (by omega)]
      rfl
    rw [this]
    exact h
theorem roundA_in {rs : List RelT} {cs : List OpT} {s : ArcS} (h : InA P V cs.length s) : InA P V cs.length (roundA rs cs s) :=
  foldl_inv _ s (fun s' k hk h' => foldl_inv _ s' (fun s2 p _ h2 => placeA_in h2 (List.mem_range.1 hk)) h') h
theorem arcsA_in {rs : List RelT} {cs : List OpT} : ∀ (n : Nat) {s : ArcS}, InA P V cs.length s → InA P V cs.length (arcsA rs cs n s)
  | 0, _, h => h
  | n + 1, s, h => by
    rw [arcsA]
    split
    · exact roundA_in h
    · exact arcsA_in n (roundA_in h)
end
theorem arcsF_in {t : Tmpl} {x : Inst} {ds : List (List Int)} (h : domsOk t x ds = true) : InA (fun a => 0 ≤ a ∧ a ≤ 3) ds.length x.2.length (arcsF t x ds) := by
  refine arcsA_in _ ⟨rfl, fun d hd a ha => ?_, fun e he => by cases he⟩
  simp only [domsOk, Bool.and_eq_true, List.all_eq_true] at h
  have h1 := h.2.2 d hd
  have h5 := (tmplOk_get (instOk_get h.1).1).1
  rw [rises_eq] at h1
  simp only [Bool.and_eq_true, List.all_eq_true] at h1
  have := inB_true (h1.1 a ha)
  omega
theorem own_step3 (w : World) {e : Int × Int × Int} (h : I64 e.1 ∧ I64 e.2.1 ∧ I64 e.2.2) : Own [] w [.int .i64 e.1, .int .i64 e.2.1, .int .i64 e.2.2] e :=
  mk_own (p := []) (x := e.1) (y := e.2) ⟨rfl, rfl, h.1⟩ (mk_own (p := []) (x := e.2.1) (y := e.2.2) ⟨rfl, rfl, h.2.1⟩ (⟨rfl, rfl, h.2.2⟩ : Own [] w [.int .i64 e.2.2] e.2.2))
theorem flat3_get : ∀ (l : List (Int × Int × Int)) (i : Nat) (hi : i < l.length) (k : Nat), k < 3 → (flat3 l)[i * 3 + k]? = [Value.int .i64 l[i].1, .int .i64 l[i].2.1, .int .i64 l[i].2.2][k]?
  | [], _, hi, _, _ => by cases hi
  | t :: l, 0, _, k, hk => by
    rcases (show k = 0 ∨ k = 1 ∨ k = 2 by omega) with rfl | rfl | rfl <;> rfl
  | t :: l, i + 1, hi, k, hk => by
    have e : flat3 (t :: l) = .int .i64 t.1 :: .int .i64 t.2.1 :: .int .i64 t.2.2 :: flat3 l := rfl
    rw [e, show (i + 1) * 3 + k = i * 3 + k + 1 + 1 + 1 by omega, List.getElem?_cons_succ, List.getElem?_cons_succ, List.getElem?_cons_succ]
    exact flat3_get l i (by simpa using hi) k hk
/-- At the end: domains and steps are owned, apart from each other. -/
theorem arcW_fresh {w0 : World} {AD : Nat → Prop} {B0 g cd V : Nat} {eS : TypeId} {bx : List (Nat × Array Value × TypeId)} {w : World} {gs co : Nat} {s : ArcS} (h : ArcW w0 AD B0 g cd V eS bx w gs co s)
    (hI : ∀ e, e ∈ s.2 → I64 e.1 ∧ I64 e.2.1 ∧ I64 e.2.2) {lo : Nat} (hlo : lo ≤ B0) (hAD : ∀ z, AD z → lo ≤ z) : Fresh lo w [.slice (some ⟨g, 0, none⟩) V cd, .slice (some ⟨gs, 0, none⟩) s.2.length co] s := by
  have ho := ownSl_of_row (α := Int × Int × Int) (l := s.2) (pss := List.replicate s.2.length []) h.row (by simp) (fun i hi => ⟨[], _, by simp [hi], own_step3 w (hI _ (List.getElem_mem hi)), fun k hk => flat3_get s.2 i hi k hk⟩)
  have he : (Value.slice (some ⟨gs, 0, none⟩) s.2.length co).ownBlock.toList ++ List.flatten (List.replicate s.2.length ([] : List Nat)) = [gs] := by simp [Value.ownBlock]
  rw [he] at ho
  have hd2 : Ip (fun z => z = gs) w [.slice (some ⟨gs, 0, none⟩) s.2.length co] s.2 := ⟨[gs], ⟨_, rfl, ho⟩, by simp, fun k hk => by simpa using hk⟩
  refine ip_cons (C := fun z => lo ≤ z) h.dom hd2 (fun k hk => hk.1.2) (fun k hk => ?_) (fun k hk => ?_)
  · rcases hk.1.1 with h1 | h1
    · exact hAD k h1
    · exact Nat.le_trans hlo h1
  · rw [hk]; exact Nat.le_trans hlo h.gs.1.1

end Go.Proofs.YtamkfnkikiekaaaGreat

/-
  CONTRACTS: MakeArcs and IsArcConsistent, the program's side.
-/
namespace Go.Proofs.YtamkfnkikiekaaaGreat
open Go.RowKit Go.Shelf Go.IntWalk
open Rep (Rd Own sz)
set_option linter.unusedSimpArgs false
set_option linter.unusedVariables false

theorem fresh_nil2 {α β : Type} [Rep α] [Rep β] {H : Nat} {w : World} {a b : Option Addr} {c d : Nat} (hc : c ≤ maxLen) (hd : d ≤ maxLen) : Fresh H w [.slice a 0 c, .slice b 0 d] (([], []) : List α × List β) :=
  ⟨[], mk_own (p := []) ⟨_, rfl, .inl ⟨rfl, rfl, a, c, rfl, hc⟩⟩ (⟨_, rfl, .inl ⟨rfl, rfl, b, d, rfl, hd⟩⟩ : Own [] w [.slice b 0 d] ([] : List β)), by simp, by simp⟩
theorem accP_form {α : Type} [Rep α] {A : Nat → Prop} {e : TypeId} {w : World} {v : Value} {l : List α} (h : AccP A e w v l) (hl : 0 < l.length) : ∃ g c, v = .slice (some ⟨g, 0, none⟩) l.length c := by
  obtain ⟨xs, pss, h1, _⟩ := h
  rcases h1.2 with ⟨rfl, h0⟩ | ⟨g, cap, cur, rfl, _⟩
  · omega
  · exact ⟨g, cap, rfl⟩
/-- All that a valid run's steps say fits. -/
theorem arcsF_i64 {t : Tmpl} {x : Inst} {ds : List (List Int)} (h : domsOk t x ds = true) : ∀ e, e ∈ (arcsF t x ds).2 → I64 e.1 ∧ I64 e.2.1 ∧ I64 e.2.2 := fun e he => by
  obtain ⟨⟨v, h1, h2⟩, h3, k, h4, h5⟩ := (arcsF_in h).step e he
  have hf := dom_facts h
  have h6 := hf.ten
  have h7 := (instOk_get hf.inst).2.2.1
  exact ⟨i64_of _ (by omega) (by omega), i64_of _ (by omega) (by omega), i64_of _ (by omega) (by omega)⟩
set_option maxRecDepth 100000 in
set_option maxHeartbeats 4000000 in
theorem MakeArcs_c (t : Tmpl) (t0 t1 : Value) (x : Inst) (x0 x1 : Value) (ds : List (List Int)) (vp : Value) (w : World) (ht : Rd w [t0, t1] t) (hx : Rd w [x0, x1] x) (hp : Rd w [vp] ds) (hz : ∀ d, d ∈ ds → d.length ≤ 1048576) :
    Calls Tryz.prog 7 #[.agg #[t0, t1], .agg #[x0, x1], vp] w fun e w' => ∃ u0 u1, e = .returned (.tuple #[u0, u1, .int .i64 (makeArcsF t x ds).2]) ∧ Fresh w.heap.size w' [u0, u1] (makeArcsF t x ds).1 ∧ Below w.heap.size w w' := by
  obtain ⟨size, rs⟩ := t
  obtain ⟨vars, cs⟩ := x
  have HT := Lib.hid ht
  have HX := Lib.hid hx
  have HP := Lib.hid hp
  have HZ := Lib.hid hz
  have zt := rd_cons rfl ht
  obtain ⟨rfl, _⟩ := rd_i1 zt.1
  obtain ⟨at0, ct0, rfl, _⟩ := rd_list zt.2
  have zx := rd_cons rfl hx
  obtain ⟨rfl, _⟩ := rd_i1 zx.1
  obtain ⟨ax, cx, rfl, _⟩ := rd_list zx.2
  obtain ⟨a, c, rfl, hpr⟩ := rd_list hp
  have hb0 := (rdSl_len hpr).2
  unfold maxLen at hb0
  clear ht hx hp zt zx hpr hz
  have hs1 := (St.start w).alloc #[.int .i64 size, .slice at0 rs.length ct0] 26 (n := w.heap.size) (by simp)
  have k0_0 := hs1.cellAt 0 rfl 0 rfl
  have k0_1 := hs1.cellAt 0 rfl 1 rfl
  have hs2 := hs1.alloc #[.int .i64 vars, .slice ax cs.length cx] 29 (n := w.heap.size + 1) (by simp)
  clear k0_0 k0_1
  have k0_0 := hs2.cellAt 0 rfl 0 rfl
  have k0_1 := hs2.cellAt 0 rfl 1 rfl
  have k1_0 := hs2.cellAt 1 rfl 0 rfl
  have k1_1 := hs2.cellAt 1 rfl 1 rfl
  go_enter Tryz.func7, Tryz.ntmps7
  go_wp2_with fail
  refine (ValidDomains_c (size, rs) _ _ (vars, cs) _ _ ds _ _ (Rd.mono HT.out hs2.bel) (Rd.mono HX.out hs2.bel) (Rd.mono HP.out hs2.bel) HZ.out).mono ?_
  rintro e w3 ⟨rfl, hbw3⟩
  have hz_w3 : w.heap.size + 1 + 1 ≤ w3.heap.size := by have h9 := hbw3.size; (try simp at h9); omega
  have hs4 := hs2.step hbw3
  clear k0_0 k0_1 k1_0 k1_1
  have k0_0 := hs4.cellAt 0 rfl 0 rfl
  have k0_1 := hs4.cellAt 0 rfl 1 rfl
  have k1_0 := hs4.cellAt 1 rfl 0 rfl
  have k1_1 := hs4.cellAt 1 rfl 1 rfl
  cases h1 : domsOk (size, rs) (vars, cs) ds with
  | false =>
    have H1 := Lib.hid (show makeArcsF (size, rs) (vars, cs) ds = (([], []), 1) by unfold makeArcsF; rw [h1]; rfl)
    clear h1
    go_wp2_with fail
    refine bodyPost_ret (v := .tuple #[.slice none 0 0, .slice none 0 0, .int .i64 1]) (by simp [results, Tryz.results7, go_sem]) rfl ⟨_, _, by rw [H1.out], by rw [H1.out]; exact fresh_nil2 (Nat.zero_le _) (Nat.zero_le _), hs4.bel⟩
  | true =>
    have HF := Lib.hid (dom_facts h1)
    have HI := Lib.hid (arcsF_i64 h1)
    have H1 := Lib.hid (show makeArcsF (size, rs) (vars, cs) ds = (arcsF (size, rs) (vars, cs) ds, 0) by unfold makeArcsF; rw [h1]; rfl)
    have hv1 := (instOk_get HF.out.inst).2.1
    have hdl := HF.out.len
    have hdt := HF.out.ten
    simp only at hv1 hdl
    clear h1
    go_wp2_with fail
    refine (ownLists_c ds _ _ (Rd.mono HP.out hs4.bel) (by omega) HZ.out).mono ?_
    rintro e w5 ⟨v2, rfl, hac, hbw5⟩
    have hz_w5 : w3.heap.size ≤ w5.heap.size := by have h9 := hbw5.size; (try simp at h9); omega
    have hs6 := hs4.step hbw5
    clear k0_0 k0_1 k1_0 k1_1
    have k0_0 := hs6.cellAt 0 rfl 0 rfl
    have k0_1 := hs6.cellAt 0 rfl 1 rfl
    have k1_0 := hs6.cellAt 1 rfl 0 rfl
    have k1_1 := hs6.cellAt 1 rfl 1 rfl
    obtain ⟨g2, c2, rfl⟩ := accP_form hac (by omega)
    have hbs := hs6.bel
    have HIP := Lib.hid (hac.ip.wk (B := fun z => w.heap.size ≤ z) (fun z hz => by have h8 := hz.1; (try simp at h8); omega))
    clear hac
    go_wp2_with fail
    refine (makeArcs_c (size, rs) (vars, cs) ds _ _ _ _ g2 c2 ds.length (lensA ds) (fun z => w.heap.size ≤ z) w _ hbs HT.out HX.out HF.out.inst HIP.out (fun z hz => hz) HF.out.ok hdl (by have := HF.out.forty; omega)).mono ?_
    rintro e wE ⟨gs, co, rfl, hA⟩
    have HFR := Lib.hid (arcW_fresh hA HI.out (lo := w.heap.size) hbs.size (fun z hz => hz))
    have HB := Lib.hid hA.bel
    clear hA
    go_wp2_with fail
    refine bodyPost_ret (v := .tuple #[.slice (some ⟨g2, 0, none⟩) ds.length c2, .slice (some ⟨gs, 0, none⟩) (arcsA rs cs (lensA ds + 1) (ds, [])).2.length co, .int .i64 0]) (by simp [results, Tryz.results7, go_sem]) rfl ⟨_, _, by rw [H1.out], by rw [H1.out]; exact HFR.out, HB.out⟩
set_option maxRecDepth 100000 in
set_option maxHeartbeats 4000000 in
theorem IsArcConsistent_c (t : Tmpl) (t0 t1 : Value) (x : Inst) (x0 x1 : Value) (ds : List (List Int)) (vp : Value) (w : World) (ht : Rd w [t0, t1] t) (hx : Rd w [x0, x1] x) (hp : Rd w [vp] ds) (hz : ∀ d, d ∈ ds → d.length ≤ 1048576) :
    Calls Tryz.prog 12 #[.agg #[t0, t1], .agg #[x0, x1], vp] w fun e w' => e = .returned (.tuple #[.bool (isArcF t x ds).1, .int .i64 (isArcF t x ds).2]) ∧ Below w.heap.size w w' := by
  obtain ⟨size, rs⟩ := t
  obtain ⟨vars, cs⟩ := x
  have HT := Lib.hid ht
  have HX := Lib.hid hx
  have HP := Lib.hid hp
  have HZ := Lib.hid hz
  have zt := rd_cons rfl ht
  obtain ⟨rfl, _⟩ := rd_i1 zt.1
  obtain ⟨at0, ct0, rfl, _⟩ := rd_list zt.2
  have zx := rd_cons rfl hx
  obtain ⟨rfl, _⟩ := rd_i1 zx.1
  obtain ⟨ax, cx, rfl, _⟩ := rd_list zx.2
  obtain ⟨a, c, rfl, _⟩ := rd_list hp
  clear ht hx hp zt zx hz
  have hs7 := (St.start w).alloc #[.int .i64 size, .slice at0 rs.length ct0] 26 (n := w.heap.size) (by simp)
  have k0_0 := hs7.cellAt 0 rfl 0 rfl
  have k0_1 := hs7.cellAt 0 rfl 1 rfl
  have hs8 := hs7.alloc #[.int .i64 vars, .slice ax cs.length cx] 29 (n := w.heap.size + 1) (by simp)
  clear k0_0 k0_1
  have k0_0 := hs8.cellAt 0 rfl 0 rfl
  have k0_1 := hs8.cellAt 0 rfl 1 rfl
  have k1_0 := hs8.cellAt 1 rfl 0 rfl
  have k1_1 := hs8.cellAt 1 rfl 1 rfl
  go_enter Tryz.func12, Tryz.ntmps12
  go_wp2_with fail
  refine (MakeArcs_c (size, rs) _ _ (vars, cs) _ _ ds _ _ (Rd.mono HT.out hs8.bel) (Rd.mono HX.out hs8.bel) (Rd.mono HP.out hs8.bel) HZ.out).mono ?_
  rintro e w9 ⟨u0, u1, rfl, fr, hbw9⟩
  have hz_w9 : w.heap.size + 1 + 1 ≤ w9.heap.size := by have h9 := hbw9.size; (try simp at h9); omega
  have hs10 := hs8.step hbw9
  clear k0_0 k0_1 k1_0 k1_1
  have k0_0 := hs10.cellAt 0 rfl 0 rfl
  have k0_1 := hs10.cellAt 0 rfl 1 rfl
  have k1_0 := hs10.cellAt 1 rfl 0 rfl
  have k1_1 := hs10.cellAt 1 rfl 1 rfl
  have fr2 := (rd_cons rfl fr.rd)
  obtain ⟨au, cu, rfl, _⟩ := rd_list fr2.1
  obtain ⟨av, cv, rfl, _⟩ := rd_list fr2.2
  clear fr fr2
  cases h1 : domsOk (size, rs) (vars, cs) ds with
  | false =>
    have H1 := Lib.hid (show makeArcsF (size, rs) (vars, cs) ds = (([], []), 1) by unfold makeArcsF; rw [h1]; rfl)
    have H2 := Lib.hid (show isArcF (size, rs) (vars, cs) ds = (false, 1) by unfold isArcF; rw [h1]; rfl)
    clear h1
    rw [H1.out]
    go_wp2_with fail
    refine bodyPost_ret (v := .tuple #[.bool false, .int .i64 1]) (by simp [results, Tryz.results12, go_sem]) rfl ⟨by rw [H2.out], hs10.bel⟩
  | true =>
    have H1 := Lib.hid (show makeArcsF (size, rs) (vars, cs) ds = (arcsF (size, rs) (vars, cs) ds, 0) by unfold makeArcsF; rw [h1]; rfl)
    have H2 := Lib.hid (show isArcF (size, rs) (vars, cs) ds = (decide ((arcsF (size, rs) (vars, cs) ds).2.length = 0), 0) by unfold isArcF; rw [h1]; rfl)
    clear h1
    rw [H1.out]
    generalize arcsF (size, rs) (vars, cs) ds = AF at *
    by_cases hn : AF.2.length = 0
    · have H3 := Lib.hid (show decide (AF.2.length = 0) = true from decide_eq_true hn)
      simp only [hn]
      clear hn
      go_wp2_with fail
      refine bodyPost_ret (v := .tuple #[.bool true, .int .i64 0]) (by simp [results, Tryz.results12, go_sem]) rfl ⟨by rw [H2.out, H3.out], hs10.bel⟩
    · have H3 := Lib.hid (show decide (AF.2.length = 0) = false from decide_eq_false hn)
      have hnb : ((AF.2.length : Int) == 0) = false := by rw [beq_eq_false_iff_ne]; omega
      clear hn
      go_wp2_with fail
      refine bodyPost_ret (v := .tuple #[.bool false, .int .i64 0]) (by simp [results, Tryz.results12, go_sem]) rfl ⟨by rw [H2.out, H3.out], hs10.bel⟩

end Go.Proofs.YtamkfnkikiekaaaGreat

/-
  PLAIN: steps that are told again; the domains in place and boxes, nothing else written.
-/
namespace Go.Proofs.YtamkfnkikiekaaaGreat
open Go.RowKit
open Rep (Rd Own sz)
set_option linter.unusedSimpArgs false
set_option linter.unusedVariables false

/-- Place p of a constraint is the step's variable's, and the value has no support there. -/
def placeOk (ts : List (List Int)) (sc : List Int) (ds : List (List Int)) (v a : Int) (p : Nat) : Bool := decide (sc.getD p 0 = v) && !supB ts sc ds p a
def firstOk (t : Tmpl) (x : Inst) (ds : List (List Int)) (s : Int × Int × Int) : Bool := (inB s.1 0 (x.1 - 1) && inB s.2.2 0 ((x.2.length : Int) - 1)) && hasI (ds.getD s.1.toNat []) s.2.1
def conAny (rs : List RelT) (c : OpT) (ds : List (List Int)) (v a : Int) : Bool := (List.range c.2.length).any (placeOk (rs.getD c.1.toNat (0, [])).2 c.2 ds v a)
def stepOk (t : Tmpl) (x : Inst) (ds : List (List Int)) (s : Int × Int × Int) : Bool := firstOk t x ds s && conAny t.2 (x.2.getD s.2.2.toNat (0, [])) ds s.1 s.2.1
def cutD (ds : List (List Int)) (s : Int × Int × Int) : List (List Int) := ds.set s.1.toNat ((ds.getD s.1.toNat []).filter (fun x => x != s.2.1))
def replayA (t : Tmpl) (x : Inst) : List (Int × Int × Int) → Nat → List (List Int) → List (List Int) × Int × Int
  | [], _, ds => (ds, 0, 0)
  | s :: l, i, ds => if stepOk t x ds s then replayA t x l (i + 1) (cutD ds s) else ([], (i : Int), 8)
def replayF (t : Tmpl) (x : Inst) (ds : List (List Int)) (steps : List (Int × Int × Int)) : List (List Int) × Int × Int := if domsOk t x ds then replayA t x steps 0 ds else ([], 0, 1)
theorem any_not {f : Nat → Bool} {n : Nat} (h : ∀ p, p < n → f p = false) : (List.range n).any f = false := by
  rw [List.any_eq_false]
  intro p hp
  rw [h p (List.mem_range.1 hp)]
  decide
theorem any_has {f : Nat → Bool} {n p : Nat} (hp : p < n) (h : f p = true) : (List.range n).any f = true := List.any_eq_true.2 ⟨p, List.mem_range.2 hp, h⟩
/-- The present domains stay small. -/
structure DomOk (V : Nat) (ds : List (List Int)) : Prop where
  len : ds.length = V
  small : ∀ d, d ∈ ds → d.length ≤ 1048576
theorem cutD_ok {V : Nat} {ds : List (List Int)} {s : Int × Int × Int} (h : DomOk V ds) (hs : s.1.toNat < ds.length) : DomOk V (cutD ds s) := by
  have hg : ds.getD s.1.toNat [] = ds[s.1.toNat] := by rw [List.getD, List.getElem?_eq_getElem hs]; rfl
  refine ⟨by simp [cutD, h.len], fun d hd => ?_⟩
  rcases List.mem_or_eq_of_mem_set hd with h1 | rfl
  · exact h.small d h1
  · rw [hg]
    exact Nat.le_trans (List.length_filter_le _ _) (h.small _ (List.getElem_mem hs))
/-- The first world's memory is read; the domains are the run's. -/
structure DomW (w0 : World) (g cd V : Nat) (bx : List (Nat × Array Value × TypeId)) (wl : World) (ds : List (List Int)) : Prop where
  st : St w0 wl.heap.size wl bx
  dom : Ip (fun z => w0.heap.size ≤ z ∧ ∀ x, x ∈ bx → x.1 ≠ z) wl [.slice (some ⟨g, 0, none⟩) V cd] ds
section
variable {w0 : World} {g cd V : Nat} {bx : List (Nat × Array Value × TypeId)} {wl : World} {ds : List (List Int)}
theorem DomW.step (h : DomW w0 g cd V bx wl ds) {w1 : World} (hb : Below wl.heap.size wl w1) : DomW w0 g cd V bx w1 ds :=
  ⟨(h.st.step hb).up hb.size (Nat.le_refl _), h.dom.mono hb⟩
theorem DomW.rd (h : DomW w0 g cd V bx wl ds) : Rd wl [.slice (some ⟨g, 0, none⟩) V cd] ds := h.dom.rd
theorem DomW.bel (h : DomW w0 g cd V bx wl ds) : Below w0.heap.size w0 wl := h.st.bel
theorem DomW.box (h : DomW w0 g cd V bx wl ds) (vs : Array Value) (ty : TypeId) : DomW w0 g cd V (bx ++ [(wl.heap.size, vs, ty)]) (wl.alloc (.cells vs ty)) ds := by
  have hb := belowA wl (.cells vs ty)
  refine ⟨(h.st.alloc vs ty rfl).up (by simp) (Nat.le_refl _), ?_⟩
  refine (h.dom.tight.mono hb).wk (fun z hz => ⟨hz.1.1, fun x hx => ?_⟩)
  rcases List.mem_append.1 hx with hx | hx
  · exact hz.1.2 x hx
  · rw [List.mem_singleton] at hx
    subst hx
    have := hz.2
    simp only
    omega
theorem DomW.sub (h : DomW w0 g cd V bx wl ds) {bx' : List (Nat × Array Value × TypeId)} (hs : ∀ x, x ∈ bx' → x ∈ bx) : DomW w0 g cd V bx' wl ds :=
  ⟨h.st.sub hs, h.dom.wk (fun z hz => ⟨hz.1, fun x hx => hz.2 x (hs x hx)⟩)⟩
theorem DomW.free (h : DomW w0 g cd V bx wl ds) (hl : 0 < ds.length) (v : Nat) : wl.frozen? ⟨g, v, none⟩ = false := by
  obtain ⟨g', o', c', cur', e', e1, _, _, hh, _, _⟩ := ip_form h.dom hl
  simp only [Value.slice.injEq, Option.some.injEq, Addr.mk.injEq] at e1
  obtain ⟨⟨rfl, -, -⟩, -, -⟩ := e1
  exact free_at_block hh
theorem DomW.put (h : DomW w0 g cd V bx wl ds) {w1 : World} (hb : Below wl.heap.size wl w1) {v : Nat} (hv : v < ds.length) {vn : Value} {d : List Int} (hd : Fresh wl.heap.size w1 [vn] d) :
    DomW w0 g cd V bx (w1.setCell ⟨g, v, none⟩ vn) (ds.set v d) := by
  have h1 := h.step hb
  have hg : w0.heap.size ≤ g ∧ ∀ x, x ∈ bx → x.1 ≠ g := by
    obtain ⟨g', o, c, cur, e, e1, _, _, _, hA, _⟩ := ip_form h1.dom (by omega)
    simp only [Value.slice.injEq, Option.some.injEq, Addr.mk.injEq] at e1
    obtain ⟨⟨rfl, -, -⟩, -, -⟩ := e1
    exact hA
  have hs : (w1.setCell ⟨g, v, none⟩ vn).heap.size = w1.heap.size := by simp [World.setCell]
  refine ⟨?_, ?_⟩
  · refine ⟨h1.st.bel.setCell hg.1 _, by rw [hs]; exact h1.st.lo, by rw [hs]; exact Nat.le_refl _, fun x hx => ?_⟩
    have h2 := h1.st.box x hx
    refine ⟨h2.1, by rw [hs]; exact h2.2.1, ?_⟩
    rw [Below.heap_setCell _ _ _ _ (fun e => hg.2 x hx (by simpa using e))]
    exact h2.2.2
  · have h3 := ip_put (h.dom.tight.mono hb) v hv (Ip.wk hd.ip (B := fun z => wl.heap.size ≤ z) (fun k hk => hk.1)) (fun k hk hk2 => by have := hk.2; omega)
    have e : putCells w1 g (0 + v * sz (List Int)) [vn] = w1.setCell ⟨g, v, none⟩ vn := by simp [putCells, sz]
    rw [e] at h3
    refine Ip.wk h3 (fun z hz => ?_)
    rcases hz with hz | hz
    · exact hz.1
    · refine ⟨by have := h.st.lo; omega, fun x hx => ?_⟩
      have := (h.st.box x hx).2.1
      omega
end

end Go.Proofs.YtamkfnkikiekaaaGreat

