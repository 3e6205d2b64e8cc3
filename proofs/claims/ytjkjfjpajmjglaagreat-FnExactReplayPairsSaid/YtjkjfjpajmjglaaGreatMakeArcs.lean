/-
  CONTRACTS: MakeArcs and IsArcConsistent, the program's side.
-/
import Derived.Test.YtjkjfjpajmjglaaGreatArcF
import Derived.Test.YtjkjfjpajmjglaaGreatArcI
import Derived.Test.YtjkjfjpajmjglaaGreatDomV
namespace Go.Proofs.YtjkjfjpajmjglaaGreat
open Go.RowKit Go.Shelf Go.IntWalk
open Rep (Rd Own sz)
set_option linter.unusedSimpArgs false
set_option linter.unusedVariables false

theorem fresh_nil2 {α β : Type} [Rep α] [Rep β] {H : Nat} {w : World} {a b : Option Addr} {c d : Nat} (hc : c ≤ maxLen) (hd : d ≤ maxLen) : Fresh H w [.slice a 0 c, .slice b 0 d] (([], []) : List α × List β) :=
  ⟨[], mk_own (p := []) ⟨_, rfl, .inl ⟨rfl, rfl, a, c, rfl, hc⟩⟩ (⟨_, rfl, .inl ⟨rfl, rfl, b, d, rfl, hd⟩⟩ : Own [] w [.slice b 0 d] ([] : List β)), by simp, by simp⟩
theorem accP_form {α : Type} [Rep α] {A : Nat → Prop} {e : TypeId} {w : World} {v : Value} {l : List α} (h : AccP A e w v l) (hl : 0 < l.length) : ∃ g c, v = .slice (some ⟨g, 0, none⟩) l.length c := by
  obtain ⟨xs, pss, h1, _⟩ := h
  rcases h1.2 with ⟨rfl, h0⟩ | ⟨g, cap, cur, rfl, _⟩
  · omega
  · exact ⟨g, cap, rfl⟩
/-- All that a valid run's steps say fits. -/
theorem arcsF_i64 {t : Tmpl} {x : Inst} {ds : List (List Int)} (h : domsOk t x ds = true) : ∀ e, e ∈ (arcsF t x ds).2 → I64 e.1 ∧ I64 e.2.1 ∧ I64 e.2.2 := fun e he => by
  obtain ⟨⟨v, h1, h2⟩, h3, k, h4, h5⟩ := (arcsF_in h).step e he
  have hf := dom_facts h
  have h6 := hf.ten
  have h7 := (instOk_get hf.inst).2.2.1
  exact ⟨i64_of _ (by omega) (by omega), i64_of _ (by omega) (by omega), i64_of _ (by omega) (by omega)⟩
theorem makeArcsF_le (t : Tmpl) (x : Inst) (ds : List (List Int)) : ((makeArcsF t x ds).1.1.map List.length).sum ≤ 40 ∧ (makeArcsF t x ds).1.2.length ≤ 40 := by
  unfold makeArcsF
  by_cases h : domsOk t x ds = true
  · rw [if_pos h]
    have h1 := (arcsF_ok h).pot
    have h2 := (dom_facts h).forty
    constructor <;> (simp only; omega)
  · rw [if_neg h]; simp
set_option maxRecDepth 100000 in
set_option maxHeartbeats 4000000 in
theorem MakeArcs_c (t : Tmpl) (t0 t1 : Value) (x : Inst) (x0 x1 : Value) (ds : List (List Int)) (vp : Value) (w : World) (ht : Rd w [t0, t1] t) (hx : Rd w [x0, x1] x) (hp : Rd w [vp] ds) (hz : ∀ d, d ∈ ds → d.length ≤ 1048576) :
    Calls Tryz.prog 49 #[.agg #[t0, t1], .agg #[x0, x1], vp] w fun e w' => ∃ u0 u1, e = .returned (.tuple #[u0, u1, .int .i64 (makeArcsF t x ds).2]) ∧ Fresh w.heap.size w' [u0, u1] (makeArcsF t x ds).1 ∧ Below w.heap.size w w' := by
  obtain ⟨size, rs⟩ := t
  obtain ⟨vars, cs⟩ := x
  have HT := Lib.hid ht
  have HX := Lib.hid hx
  have HP := Lib.hid hp
  have HZ := Lib.hid hz
  have zt := rd_cons rfl ht
  obtain ⟨rfl, _⟩ := rd_i1 zt.1
  obtain ⟨at0, ct0, rfl, _⟩ := rd_list zt.2
  have zx := rd_cons rfl hx
  obtain ⟨rfl, _⟩ := rd_i1 zx.1
  obtain ⟨ax, cx, rfl, _⟩ := rd_list zx.2
  obtain ⟨a, c, rfl, hpr⟩ := rd_list hp
  have hb0 := (rdSl_len hpr).2
  unfold maxLen at hb0
  clear ht hx hp zt zx hpr hz
  have hs1 := (St.start w).alloc #[.int .i64 size, .slice at0 rs.length ct0] 36 (n := w.heap.size) (by simp)
  have k0_0 := hs1.cellAt 0 rfl 0 rfl
  have k0_1 := hs1.cellAt 0 rfl 1 rfl
  have hs2 := hs1.alloc #[.int .i64 vars, .slice ax cs.length cx] 40 (n := w.heap.size + 1) (by simp)
  clear k0_0 k0_1
  have k0_0 := hs2.cellAt 0 rfl 0 rfl
  have k0_1 := hs2.cellAt 0 rfl 1 rfl
  have k1_0 := hs2.cellAt 1 rfl 0 rfl
  have k1_1 := hs2.cellAt 1 rfl 1 rfl
  go_enter Tryz.func49, Tryz.ntmps49
  go_wp2_with fail
  refine (ValidDomains_c (size, rs) _ _ (vars, cs) _ _ ds _ _ (Rd.mono HT.out hs2.bel) (Rd.mono HX.out hs2.bel) (Rd.mono HP.out hs2.bel) HZ.out).mono ?_
  rintro e w3 ⟨rfl, hbw3⟩
  have hz_w3 : w.heap.size + 1 + 1 ≤ w3.heap.size := by have h9 := hbw3.size; (try simp at h9); omega
  have hs4 := hs2.step hbw3
  clear k0_0 k0_1 k1_0 k1_1
  have k0_0 := hs4.cellAt 0 rfl 0 rfl
  have k0_1 := hs4.cellAt 0 rfl 1 rfl
  have k1_0 := hs4.cellAt 1 rfl 0 rfl
  have k1_1 := hs4.cellAt 1 rfl 1 rfl
  cases h1 : domsOk (size, rs) (vars, cs) ds with
  | false =>
    have H1 := Lib.hid (show makeArcsF (size, rs) (vars, cs) ds = (([], []), 1) by unfold makeArcsF; rw [h1]; rfl)
    clear h1
    go_wp2_with fail
    refine bodyPost_ret (v := .tuple #[.slice none 0 0, .slice none 0 0, .int .i64 1]) (by simp [results, Tryz.results49, go_sem]) rfl ⟨_, _, by rw [H1.out], by rw [H1.out]; exact fresh_nil2 (Nat.zero_le _) (Nat.zero_le _), hs4.bel⟩
  | true =>
    have HF := Lib.hid (dom_facts h1)
    have HI := Lib.hid (arcsF_i64 h1)
    have H1 := Lib.hid (show makeArcsF (size, rs) (vars, cs) ds = (arcsF (size, rs) (vars, cs) ds, 0) by unfold makeArcsF; rw [h1]; rfl)
    have hv1 := (instOk_get HF.out.inst).2.1
    have hdl := HF.out.len
    have hdt := HF.out.ten
    simp only at hv1 hdl
    clear h1
    go_wp2_with fail
    refine (ownLists_c ds _ _ (Rd.mono HP.out hs4.bel) (by omega) HZ.out).mono ?_
    rintro e w5 ⟨v2, rfl, hac, hbw5⟩
    have hz_w5 : w3.heap.size ≤ w5.heap.size := by have h9 := hbw5.size; (try simp at h9); omega
    have hs6 := hs4.step hbw5
    clear k0_0 k0_1 k1_0 k1_1
    have k0_0 := hs6.cellAt 0 rfl 0 rfl
    have k0_1 := hs6.cellAt 0 rfl 1 rfl
    have k1_0 := hs6.cellAt 1 rfl 0 rfl
    have k1_1 := hs6.cellAt 1 rfl 1 rfl
    obtain ⟨g2, c2, rfl⟩ := accP_form hac (by omega)
    have hbs := hs6.bel
    have HIP := Lib.hid (hac.ip.wk (B := fun z => w.heap.size ≤ z) (fun z hz => by have h8 := hz.1; (try simp at h8); omega))
    clear hac
    go_wp2_with fail
    refine (makeArcs_c (size, rs) (vars, cs) ds _ _ _ _ g2 c2 ds.length (lensA ds) (fun z => w.heap.size ≤ z) w _ hbs HT.out HX.out HF.out.inst HIP.out (fun z hz => hz) HF.out.ok hdl (by have := HF.out.forty; omega)).mono ?_
    rintro e wE ⟨gs, co, rfl, hA⟩
    have HFR := Lib.hid (arcW_fresh hA HI.out (lo := w.heap.size) hbs.size (fun z hz => hz))
    have HB := Lib.hid hA.bel
    clear hA
    go_wp2_with fail
    refine bodyPost_ret (v := .tuple #[.slice (some ⟨g2, 0, none⟩) ds.length c2, .slice (some ⟨gs, 0, none⟩) (arcsA rs cs (lensA ds + 1) (ds, [])).2.length co, .int .i64 0]) (by simp [results, Tryz.results49, go_sem]) rfl ⟨_, _, by rw [H1.out], by rw [H1.out]; exact HFR.out, HB.out⟩
set_option maxRecDepth 100000 in
set_option maxHeartbeats 4000000 in
theorem IsArcConsistent_c (t : Tmpl) (t0 t1 : Value) (x : Inst) (x0 x1 : Value) (ds : List (List Int)) (vp : Value) (w : World) (ht : Rd w [t0, t1] t) (hx : Rd w [x0, x1] x) (hp : Rd w [vp] ds) (hz : ∀ d, d ∈ ds → d.length ≤ 1048576) :
    Calls Tryz.prog 38 #[.agg #[t0, t1], .agg #[x0, x1], vp] w fun e w' => e = .returned (.tuple #[.bool (isArcF t x ds).1, .int .i64 (isArcF t x ds).2]) ∧ Below w.heap.size w w' := by
  obtain ⟨size, rs⟩ := t
  obtain ⟨vars, cs⟩ := x
  have HT := Lib.hid ht
  have HX := Lib.hid hx
  have HP := Lib.hid hp
  have HZ := Lib.hid hz
  have zt := rd_cons rfl ht
  obtain ⟨rfl, _⟩ := rd_i1 zt.1
  obtain ⟨at0, ct0, rfl, _⟩ := rd_list zt.2
  have zx := rd_cons rfl hx
  obtain ⟨rfl, _⟩ := rd_i1 zx.1
  obtain ⟨ax, cx, rfl, _⟩ := rd_list zx.2
  obtain ⟨a, c, rfl, _⟩ := rd_list hp
  clear ht hx hp zt zx hz
  have hs7 := (St.start w).alloc #[.int .i64 size, .slice at0 rs.length ct0] 36 (n := w.heap.size) (by simp)
  have k0_0 := hs7.cellAt 0 rfl 0 rfl
  have k0_1 := hs7.cellAt 0 rfl 1 rfl
  have hs8 := hs7.alloc #[.int .i64 vars, .slice ax cs.length cx] 40 (n := w.heap.size + 1) (by simp)
  clear k0_0 k0_1
  have k0_0 := hs8.cellAt 0 rfl 0 rfl
  have k0_1 := hs8.cellAt 0 rfl 1 rfl
  have k1_0 := hs8.cellAt 1 rfl 0 rfl
  have k1_1 := hs8.cellAt 1 rfl 1 rfl
  go_enter Tryz.func38, Tryz.ntmps38
  go_wp2_with fail
  refine (MakeArcs_c (size, rs) _ _ (vars, cs) _ _ ds _ _ (Rd.mono HT.out hs8.bel) (Rd.mono HX.out hs8.bel) (Rd.mono HP.out hs8.bel) HZ.out).mono ?_
  rintro e w9 ⟨u0, u1, rfl, fr, hbw9⟩
  have hz_w9 : w.heap.size + 1 + 1 ≤ w9.heap.size := by have h9 := hbw9.size; (try simp at h9); omega
  have hs10 := hs8.step hbw9
  clear k0_0 k0_1 k1_0 k1_1
  have k0_0 := hs10.cellAt 0 rfl 0 rfl
  have k0_1 := hs10.cellAt 0 rfl 1 rfl
  have k1_0 := hs10.cellAt 1 rfl 0 rfl
  have k1_1 := hs10.cellAt 1 rfl 1 rfl
  have fr2 := (rd_cons rfl fr.rd)
  obtain ⟨au, cu, rfl, _⟩ := rd_list fr2.1
  obtain ⟨av, cv, rfl, _⟩ := rd_list fr2.2
  clear fr fr2
  cases h1 : domsOk (size, rs) (vars, cs) ds with
  | false =>
    have H1 := Lib.hid (show makeArcsF (size, rs) (vars, cs) ds = (([], []), 1) by unfold makeArcsF; rw [h1]; rfl)
    have H2 := Lib.hid (show isArcF (size, rs) (vars, cs) ds = (false, 1) by unfold isArcF; rw [h1]; rfl)
    clear h1
    rw [H1.out]
    go_wp2_with fail
    refine bodyPost_ret (v := .tuple #[.bool false, .int .i64 1]) (by simp [results, Tryz.results38, go_sem]) rfl ⟨by rw [H2.out], hs10.bel⟩
  | true =>
    have H1 := Lib.hid (show makeArcsF (size, rs) (vars, cs) ds = (arcsF (size, rs) (vars, cs) ds, 0) by unfold makeArcsF; rw [h1]; rfl)
    have H2 := Lib.hid (show isArcF (size, rs) (vars, cs) ds = (decide ((arcsF (size, rs) (vars, cs) ds).2.length = 0), 0) by unfold isArcF; rw [h1]; rfl)
    clear h1
    rw [H1.out]
    generalize arcsF (size, rs) (vars, cs) ds = AF at *
    by_cases hn : AF.2.length = 0
    · have H3 := Lib.hid (show decide (AF.2.length = 0) = true from decide_eq_true hn)
      simp only [hn]
      clear hn
      go_wp2_with fail
      refine bodyPost_ret (v := .tuple #[.bool true, .int .i64 0]) (by simp [results, Tryz.results38, go_sem]) rfl ⟨by rw [H2.out, H3.out], hs10.bel⟩
    · have H3 := Lib.hid (show decide (AF.2.length = 0) = false from decide_eq_false hn)
      have hnb : ((AF.2.length : Int) == 0) = false := by rw [beq_eq_false_iff_ne]; omega
      clear hn
      go_wp2_with fail
      refine bodyPost_ret (v := .tuple #[.bool false, .int .i64 0]) (by simp [results, Tryz.results38, go_sem]) rfl ⟨by rw [H2.out, H3.out], hs10.bel⟩

end Go.Proofs.YtjkjfjpajmjglaaGreat
