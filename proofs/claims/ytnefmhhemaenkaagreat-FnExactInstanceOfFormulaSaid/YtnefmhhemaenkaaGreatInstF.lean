/-
  CONTRACTS: InstanceOfFormula; both sides.
-/
import Derived.Test.YtnefmhhemaenkaaGreatSimpU
import Derived.Test.YtnefmhhemaenkaaGreatRowsB
import Derived.Test.YtnefmhhemaenkaaGreatMarkT
namespace Go.Proofs.YtnefmhhemaenkaaGreat
open Go.RowKit Go.Shelf Go.IntWalk
open Rep (Rd Own sz)
set_option linter.unusedSimpArgs false
set_option linter.unusedVariables false

theorem fmlOk_short4 {t : Tmpl} {f : Fml} (h : fmlOk t f = true) : ∀ a, a ∈ f.2.2 → a.2.length ≤ 4 := by
  unfold fmlOk at h
  simp only [Bool.and_eq_true, List.all_eq_true] at h
  obtain ⟨⟨ht, _⟩, h4⟩ := h
  intro a ha
  have hk := h4 a ha
  unfold atomOk valsOk at hk
  simp only [Bool.and_eq_true, inB, decide_eq_true_eq] at hk
  have hl := hk.2.1
  have h1 : arityA t a.1 ≤ 4 := by
    unfold arityA
    split
    · omega
    · split
      · next h =>
        unfold inB at h
        simp only [Bool.and_eq_true, decide_eq_true_eq] at h
        have hlt : a.1.toNat < t.2.length := by omega
        have hr := (tmplOk_get ht).2.2 _ (List.getElem_mem hlt)
        rw [show t.2.getD a.1.toNat (0, []) = t.2[a.1.toNat] by simp [List.getD, hlt]]
        exact (relOk_get hr).2.1.2
      · omega
  omega
theorem fmlOk_short {t : Tmpl} {f : Fml} (h : fmlOk t f = true) : ShortA f.2.2 := fun a ha => Nat.le_trans (fmlOk_short4 h a ha) (by decide)
theorem fmlOk_frame {t : Tmpl} {f : Fml} (h : fmlOk t f = true) : frameOk f = true := by
  unfold fmlOk at h
  simp only [Bool.and_eq_true] at h
  exact h.1.2
theorem any_eq {L : List OpT} {k : Nat} (hk : k < L.length) (h : L[k].1 = -1) : L.any (fun a => decide (a.1 = -1)) = true := by
  rw [List.any_eq_true]
  exact ⟨L[k], List.getElem_mem hk, by simp [h]⟩
theorem any_ne {L : List OpT} (h : ∀ j (hj : j < L.length), L[j].1 ≠ -1) : L.any (fun a => decide (a.1 = -1)) = false := by
  rw [List.any_eq_false]
  intro a ha
  obtain ⟨j, hj, rfl⟩ := List.getElem_of_mem ha
  simp [h j hj]
theorem fresh_nodup {α : Type} [Rep α] {lo : Nat} {w : World} {vs : List Value} {x : α} (h : Fresh lo w vs x) : ∃ p, Own p w vs x ∧ p.Nodup ∧ ∀ k, k ∈ p → lo ≤ k := h
theorem us_two {us : List Value} {w : World} {x : OpT} (h : Rd w us x) : ∃ n a c, us = [.int .i64 n, .slice a x.2.length c] ∧ x.1 = n ∧ I64 n := by
  have hl := Rep.rd_len h
  obtain ⟨u0, u1, rfl⟩ : ∃ u0 u1, us = [u0, u1] := by
    match us, hl with
    | [u0, u1], _ => exact ⟨u0, u1, rfl⟩
  have y := rd_cons rfl h
  obtain ⟨rfl, hI⟩ := rd_i1 y.1
  obtain ⟨a, c, rfl, _⟩ := rd_list y.2
  exact ⟨_, a, c, rfl, rfl, hI⟩
theorem fresh_intc {β : Type} [Rep β] {H : Nat} {w : World} {n : Int} {vs : List Value} {y : β} (h : I64 n) (h2 : Fresh H w vs y) : Fresh H w (.int .i64 n :: vs) (n, y) := by
  obtain ⟨ps, ho, hn, hH⟩ := h2
  exact ⟨ps, ⟨[], ps, [_], vs, rfl, rfl, ⟨rfl, rfl, h⟩, ho⟩, hn, hH⟩
theorem mrgF_len4 {m : Nat} (free : Int) : ∀ n (l : List OpT), (∀ a, a ∈ l → a.2.length ≤ m) → ∀ a, a ∈ mrgF free n l → a.2.length ≤ m
  | 0, l, h => h
  | n + 1, l, h => by
    rw [mrgF]
    split
    · exact h
    · refine mrgF_len4 free n _ (fun a ha => ?_)
      unfold stepM Go.Proofs.YtnefmhhemaenkaaGreat.movL at ha
      obtain ⟨b, hb, rfl⟩ := List.mem_map.1 ha
      simpa using h b hb
theorem sum_le_mul {α : Type} (c : α → Nat) (m : Nat) : ∀ l : List α, (∀ a, a ∈ l → c a ≤ m) → (l.map c).sum ≤ m * l.length
  | [], _ => by simp
  | a :: l, h => by
    have h1 := h a (List.mem_cons_self ..)
    have h2 := sum_le_mul c m l (fun x hx => h x (List.mem_cons_of_mem _ hx))
    rw [List.map_cons, List.sum_cons, List.length_cons, Nat.mul_add]
    omega
theorem instF_small (t : Tmpl) (f : Fml) : mc_Instance (instF t f).1 ≤ 1000000 := by
  unfold instF
  cases h1 : fmlOk t f with
  | false => simp [mc_Instance]
  | true =>
    simp only [if_true]
    split
    · simp [mc_Instance]
    · have hs := fmlOk_short4 h1
      have h8 := (fmlOk_atoms h1).2.2.2.2.2
      have hm := mrgF_len4 f.1 f.2.1.toNat f.2.2 hs
      have hl : (leftF f).length ≤ 16 := by
        have := lessT_len (mrgF f.1 f.2.1.toNat f.2.2) (mrgF f.1 f.2.1.toNat f.2.2).length
        rw [mrgF_len] at this
        show (lessT (mrgF f.1 f.2.1.toNat f.2.2) (mrgF f.1 f.2.1.toNat f.2.2).length).length ≤ 16
        rw [mrgF_len]
        omega
      have hk := sum_le_mul mcConE 5 (movL (idxV (varsF f)) (leftF f)) (fun a ha => by
        unfold Go.Proofs.YtnefmhhemaenkaaGreat.movL at ha
        obtain ⟨b, hb, rfl⟩ := List.mem_map.1 ha
        have := hm b (lessT_mem _ _ (Nat.le_refl _) b hb)
        show (b.2.map (idxV (varsF f))).length + 1 ≤ 5
        rw [List.length_map]
        omega)
      rw [movL_len] at hk
      show ((movL (idxV (varsF f)) (leftF f)).map mcConE).sum ≤ 1000000
      omega
set_option maxRecDepth 100000 in
set_option maxHeartbeats 16000000 in
theorem InstanceOfFormula_c (t : Tmpl) (t0 t1 : Value) (f : Fml) (f0 f1 f2 : Value) (w : World) (ht : Rd w [t0, t1] t) (hf : Rd w [f0, f1, f2] f) :
    Calls Tryz.prog 9 #[.agg #[t0, t1], .agg #[f0, f1, f2]] w fun e w' => ∃ u0 u1, e = .returned (.tuple #[.agg #[u0, u1], .int .i64 (instF t f).2]) ∧ Fresh w.heap.size w' [u0, u1] (instF t f).1 ∧ Below w.heap.size w w' := by
  obtain ⟨size, rs⟩ := t
  obtain ⟨fr, vars, l⟩ := f
  have HT := Lib.hid ht
  have HF := Lib.hid hf
  have zt := rd_cons rfl ht
  obtain ⟨rfl, _⟩ := rd_i1 zt.1
  obtain ⟨at0, ct0, rfl, _⟩ := rd_list zt.2
  have zf := rd_cons rfl hf
  obtain ⟨rfl, _⟩ := rd_i1 zf.1
  have zf2 := rd_cons rfl zf.2
  obtain ⟨rfl, _⟩ := rd_i1 zf2.1
  obtain ⟨af, cf, rfl, _⟩ := rd_list zf2.2
  have HL := Lib.hid zf2.2
  clear ht hf zt zf zf2
  have hs1 := (St.start w).alloc #[.int .i64 size, .slice at0 rs.length ct0] 37 (n := w.heap.size) (by simp)
  have k0_0 := hs1.cellAt 0 rfl 0 rfl
  have k0_1 := hs1.cellAt 0 rfl 1 rfl
  have hs2 := hs1.alloc #[.int .i64 fr, .int .i64 vars, .slice af l.length cf] 41 (n := w.heap.size + 1) (by simp)
  clear k0_0 k0_1
  have k0_0 := hs2.cellAt 0 rfl 0 rfl
  have k0_1 := hs2.cellAt 0 rfl 1 rfl
  have k1_0 := hs2.cellAt 1 rfl 0 rfl
  have k1_1 := hs2.cellAt 1 rfl 1 rfl
  have k1_2 := hs2.cellAt 1 rfl 2 rfl
  have hs3 := hs2.alloc #[.int .i64 0, .slice none 0 0] 32 (n := w.heap.size + 1 + 1) (by simp)
  clear k0_0 k0_1 k1_0 k1_1 k1_2
  have k0_0 := hs3.cellAt 0 rfl 0 rfl
  have k0_1 := hs3.cellAt 0 rfl 1 rfl
  have k1_0 := hs3.cellAt 1 rfl 0 rfl
  have k1_1 := hs3.cellAt 1 rfl 1 rfl
  have k1_2 := hs3.cellAt 1 rfl 2 rfl
  have k2_0 := hs3.cellAt 2 rfl 0 rfl
  have k2_1 := hs3.cellAt 2 rfl 1 rfl
  clear k0_0 k0_1 k1_0 k1_1 k1_2 k2_0 k2_1
  have k0_0 := hs3.cellAt 0 rfl 0 rfl
  have k0_1 := hs3.cellAt 0 rfl 1 rfl
  have k1_0 := hs3.cellAt 1 rfl 0 rfl
  have k1_1 := hs3.cellAt 1 rfl 1 rfl
  have k1_2 := hs3.cellAt 1 rfl 2 rfl
  have k2_0 := hs3.cellAt 2 rfl 0 rfl
  have k2_1 := hs3.cellAt 2 rfl 1 rfl
  go_enter Tryz.func9, Tryz.ntmps9
  go_wp2_with fail
  refine (ValidFormula_c (size, rs) (fr, vars, l) _ _ _ _ _ _ (Rd.mono HT.out hs3.bel) (Rd.mono HF.out hs3.bel)).mono ?_
  rintro e w4 ⟨rfl, hbw4⟩
  have hz_w4 : w.heap.size + 1 + 1 + 1 ≤ w4.heap.size := by have h9 := hbw4.size; (try simp at h9); omega
  have hs5 := hs3.step hbw4
  clear k0_0 k0_1 k1_0 k1_1 k1_2 k2_0 k2_1
  have k0_0 := hs5.cellAt 0 rfl 0 rfl
  have k0_1 := hs5.cellAt 0 rfl 1 rfl
  have k1_0 := hs5.cellAt 1 rfl 0 rfl
  have k1_1 := hs5.cellAt 1 rfl 1 rfl
  have k1_2 := hs5.cellAt 1 rfl 2 rfl
  have k2_0 := hs5.cellAt 2 rfl 0 rfl
  have k2_1 := hs5.cellAt 2 rfl 1 rfl
  cases h1 : fmlOk (size, rs) (fr, vars, l) with
  | false =>
    have H1 := Lib.hid (show instF (size, rs) (fr, vars, l) = ((0, []), 1) by unfold instF; rw [h1]; rfl)
    clear h1
    have g0 := (hs5.freeAt 2 rfl 0)
    have g1 := (hs5.freeAt 2 rfl 1)
    have hs9 := ((hs5.set (p := [_, _]) (by simp <;> omega) 0 (.int .i64 0)).set (p := [_, _]) (by simp <;> omega) 1 (.slice none 0 0))
    have HB9 := Lib.hid hs9.bel
    have y0 := hs9.cellAt 2 rfl 0 rfl
    have y1 := hs9.cellAt 2 rfl 1 rfl
    clear hs9
    go_wp2_with fail
    refine bodyPost_ret (v := .tuple #[.agg #[.int .i64 0, .slice none 0 0], .int .i64 1]) (by simp [results, Tryz.results9, go_sem, y0, y1]) rfl ⟨_, _, by rw [H1.out], ?_, HB9.out⟩
    rw [H1.out]; exact fresh_intc ⟨by decide, by decide⟩ fresh_nil_list
  | true =>
    have H0 := Lib.hid (show instF (size, rs) (fr, vars, l) = if (simpF (fr, vars, l)).2.2.any (fun a => decide (a.1 = -1)) then ((0, []), 4) else (((simpF (fr, vars, l)).2.1, (simpF (fr, vars, l)).2.2), 0) by unfold instF; rw [h1]; rfl)
    have HSH := Lib.hid (fmlOk_short h1)
    have HAV := Lib.hid (fmlOk_atoms h1).1
    have HFR := Lib.hid (fmlOk_frame h1)
    have hlen := lessT_len (mrgF fr vars.toNat l) (mrgF fr vars.toNat l).length
    have hll : (simpF (fr, vars, l)).2.2.length ≤ 16 := by
      have h8 := (fmlOk_atoms h1).2.2.2.2.2
      rw [mrgF_len] at hlen
      show (movL _ (leftF (fr, vars, l))).length ≤ 16
      rw [movL_len]
      show (lessT (mrgF fr vars.toNat l) (mrgF fr vars.toNat l).length).length ≤ 16
      rw [mrgF_len]
      simp only at h8
      omega
    have hI1 : I64 (simpF (fr, vars, l)).2.1 := by
      have h8 := fmlOk_atoms h1
      simp only at h8
      have := varsT_len fr.toNat (leftF (fr, vars, l)) (vars - fr).toNat
      show I64 (((varsT fr.toNat (leftF (fr, vars, l)) (vars - fr).toNat).length : Nat) : Int)
      exact ⟨by omega, by omega⟩
    go_wp2_with fail
    refine (simplified_c (fr, vars, l) _ _ _ _ (Rd.mono HF.out hs5.bel) HAV.out HFR.out HSH.out).mono ?_
    rintro e w6 ⟨vg, rfl, hFg, hbw6⟩
    have hz_w6 : w4.heap.size ≤ w6.heap.size := by have h9 := hbw6.size; (try simp at h9); omega
    have hs7 := hs5.step hbw6
    clear k0_0 k0_1 k1_0 k1_1 k1_2 k2_0 k2_1
    have k0_0 := hs7.cellAt 0 rfl 0 rfl
    have k0_1 := hs7.cellAt 0 rfl 1 rfl
    have k1_0 := hs7.cellAt 1 rfl 0 rfl
    have k1_1 := hs7.cellAt 1 rfl 1 rfl
    have k1_2 := hs7.cellAt 1 rfl 2 rfl
    have k2_0 := hs7.cellAt 2 rfl 0 rfl
    have k2_1 := hs7.cellAt 2 rfl 1 rfl
    clear h1 hlen HSH HAV HFR
    obtain ⟨wS, hwS⟩ : ∃ x, x = w6 := ⟨_, rfl⟩
    subst hwS
    generalize hSF : simpF (fr, vars, l) = GG at *
    obtain ⟨G0, G1, L⟩ := GG
    simp only at hFg H0 hll hI1
    (try simp only)
    obtain ⟨ag, cg, rfl, _⟩ := rd_list hFg.rd
    have hzS : w.heap.size + 1 + 1 + 1 ≤ wS.heap.size := by omega
    obtain ⟨pg, hog, hndg, hpg⟩ := fresh_nodup hFg
    obtain ⟨us, hus, hag⟩ := own_again hog hndg
    clear hFg hog hndg
    have HUSA := Lib.hid hus
    have HAG := Lib.hid hag
    have HPG := Lib.hid hpg
    clear hus hag hpg hSF
    have HBS := Lib.hid (Below.refl wS.heap.size wS)
    have hs8 := hs7.alloc #[.int .i64 G0, .int .i64 G1, .slice ag L.length cg] 41 (n := wS.heap.size) (by simp)
    have HBS_9 := Lib.hid (HBS.out.trans (((belowA _ (.cells #[.int .i64 G0, .int .i64 G1, .slice ag L.length cg] 41))).mono HBS.out.size))
    clear HBS
    clear k0_0 k0_1 k1_0 k1_1 k1_2 k2_0 k2_1
    have k0_0 := hs8.cellAt 0 rfl 0 rfl
    have k0_1 := hs8.cellAt 0 rfl 1 rfl
    have k1_0 := hs8.cellAt 1 rfl 0 rfl
    have k1_1 := hs8.cellAt 1 rfl 1 rfl
    have k1_2 := hs8.cellAt 1 rfl 2 rfl
    have k2_0 := hs8.cellAt 2 rfl 0 rfl
    have k2_1 := hs8.cellAt 2 rfl 1 rfl
    have k3_0 := hs8.cellAt 3 rfl 0 rfl
    have k3_1 := hs8.cellAt 3 rfl 1 rfl
    have k3_2 := hs8.cellAt 3 rfl 2 rfl
    clear k0_0 k0_1 k1_0 k1_1 k1_2 k2_0 k2_1 k3_0 k3_1 k3_2
    have k0_0 := hs8.cellAt 0 rfl 0 rfl
    have k0_1 := hs8.cellAt 0 rfl 1 rfl
    have k1_0 := hs8.cellAt 1 rfl 0 rfl
    have k1_1 := hs8.cellAt 1 rfl 1 rfl
    have k1_2 := hs8.cellAt 1 rfl 2 rfl
    have k2_0 := hs8.cellAt 2 rfl 0 rfl
    have k2_1 := hs8.cellAt 2 rfl 1 rfl
    have k3_0 := hs8.cellAt 3 rfl 0 rfl
    have k3_1 := hs8.cellAt 3 rfl 1 rfl
    have k3_2 := hs8.cellAt 3 rfl 2 rfl
    have kG := (hs8.cellAt 3 rfl 1 rfl)
    have hs10 := hs8.alloc #[.int .i64 G1, .slice none 0 0] 32 (n := wS.heap.size + 1) (by simp)
    have HBS_11 := Lib.hid (HBS_9.out.trans (((belowA _ (.cells #[.int .i64 G1, .slice none 0 0] 32))).mono HBS_9.out.size))
    clear HBS_9
    clear k0_0 k0_1 k1_0 k1_1 k1_2 k2_0 k2_1 k3_0 k3_1 k3_2
    have k0_0 := hs10.cellAt 0 rfl 0 rfl
    have k0_1 := hs10.cellAt 0 rfl 1 rfl
    have k1_0 := hs10.cellAt 1 rfl 0 rfl
    have k1_1 := hs10.cellAt 1 rfl 1 rfl
    have k1_2 := hs10.cellAt 1 rfl 2 rfl
    have k2_0 := hs10.cellAt 2 rfl 0 rfl
    have k2_1 := hs10.cellAt 2 rfl 1 rfl
    have k3_0 := hs10.cellAt 3 rfl 0 rfl
    have k3_1 := hs10.cellAt 3 rfl 1 rfl
    have k3_2 := hs10.cellAt 3 rfl 2 rfl
    have k4_0 := hs10.cellAt 4 rfl 0 rfl
    have k4_1 := hs10.cellAt 4 rfl 1 rfl
    clear k0_0 k0_1 k1_0 k1_1 k1_2 k2_0 k2_1 k3_0 k3_1 k3_2 k4_0 k4_1
    have k0_0 := hs10.cellAt 0 rfl 0 rfl
    have k0_1 := hs10.cellAt 0 rfl 1 rfl
    have k1_0 := hs10.cellAt 1 rfl 0 rfl
    have k1_1 := hs10.cellAt 1 rfl 1 rfl
    have k1_2 := hs10.cellAt 1 rfl 2 rfl
    have k2_0 := hs10.cellAt 2 rfl 0 rfl
    have k2_1 := hs10.cellAt 2 rfl 1 rfl
    have k3_0 := hs10.cellAt 3 rfl 0 rfl
    have k3_1 := hs10.cellAt 3 rfl 1 rfl
    have k3_2 := hs10.cellAt 3 rfl 2 rfl
    have k4_0 := hs10.cellAt 4 rfl 0 rfl
    have k4_1 := hs10.cellAt 4 rfl 1 rfl
    have HS6 := Lib.hid hs10
    have HB6 := Lib.hid HBS_11.out
    go_wp2_with fail
    clear kG
    go_loopw [23] (fun iv wl => ∃ (k : Nat) (av : Option Addr) (cv : Nat), k ≤ L.length ∧ iv = .int .i64 k ∧ Hid (∀ j (hj : j < L.length), j < k → L[j].1 ≠ -1) ∧ (St w (wS.heap.size + 1 + 1) wl [(w.heap.size, #[.int .i64 size, .slice at0 rs.length ct0], 37), (w.heap.size + 1, #[.int .i64 fr, .int .i64 vars, .slice af l.length cf], 41), (w.heap.size + 1 + 1, #[.int .i64 0, .slice none 0 0], 32), (wS.heap.size, #[.int .i64 G0, .int .i64 G1, .slice ag L.length cg], 41), (wS.heap.size + 1, #[.int .i64 G1, .slice av k cv], 32)]) ∧ (Below wS.heap.size wS wl) ∧
      Hid (∀ g, (Value.slice av k cv).ownBlock = some g → wS.heap.size + 1 + 1 ≤ g ∧ g < wl.heap.size) ∧ Hid (RowU us 2 60 wl (.slice av k cv) k)) (fun iv _ => L.length - (intOf iv).toNat)
    case atStart => exact ⟨0, none, 0, Nat.zero_le _, rfl, fun j _ hj => absurd hj (Nat.not_lt_zero _), HS6.out, HB6.out, (fun g hg => by cases hg), RowU.nil _ _ _ _⟩
    case round =>
      clear HS6 HB6
      obtain ⟨k, av, cv, hk, rfl, hne, hst, hbe', hgo, hru⟩ := hrel
      have hbe := Lib.hid hbe'
      clear hbe'
      have hszr : wS.heap.size + 1 + 1 ≤ wr.heap.size := hst.hi
      have HST := Lib.hid hst
      clear hst
      have k0_0 := HST.out.cellAt 0 rfl 0 rfl
      have k0_1 := HST.out.cellAt 0 rfl 1 rfl
      have k1_0 := HST.out.cellAt 1 rfl 0 rfl
      have k1_1 := HST.out.cellAt 1 rfl 1 rfl
      have k1_2 := HST.out.cellAt 1 rfl 2 rfl
      have k2_0 := HST.out.cellAt 2 rfl 0 rfl
      have k2_1 := HST.out.cellAt 2 rfl 1 rfl
      have k3_0 := HST.out.cellAt 3 rfl 0 rfl
      have k3_1 := HST.out.cellAt 3 rfl 1 rfl
      have k3_2 := HST.out.cellAt 3 rfl 2 rfl
      have k4_0 := HST.out.cellAt 4 rfl 0 rfl
      have k4_1 := HST.out.cellAt 4 rfl 1 rfl
      have HBS := hbe
      by_cases hlt : k < L.length
      · have hkl : (k : Int) < L.length := by omega
        obtain ⟨hr1, b, o, rfl, hca⟩ := HUSA.out k hlt
        obtain ⟨ci, a1, c1, hUS, hci, hIc⟩ := us_two hr1
        have HUS := Lib.hid hUS
        have q0 := hca 0 (by rw [hUS]; exact Nat.zero_lt_two)
        have q1 := hca 1 (by rw [hUS]; exact Nat.one_lt_two)
        rw [hUS] at q0 q1
        simp only [List.getElem?_cons_zero, List.getElem?_cons_succ, Nat.add_zero, show sz OpT = 2 from rfl] at q0 q1
        have HLU := Lib.hid (show ∀ i, i ≤ k → (us i).length = 2 from fun i hi => Rep.rd_len (HUSA.out i (by omega)).1)
        clear hr1 hca hUS
        obtain ⟨xs, hrow, hel⟩ := hru.out
        have HEL := Lib.hid hel
        have HRW := Lib.hid hrow
        clear hrow hel hru
        have r0 := cellL hbe.out q0
        have r1 := cellL hbe.out q1
        have hbX : b < wS.heap.size := World.block_lt_of_cell? wS _ q0
        clear q0 q1
        have hs12 := HST.out.alloc #[.int .i64 ci, .slice a1 L[k].2.length c1] 58 (n := wr.heap.size) (by simp)
        have HBS_13 := Lib.hid (HBS.out.trans (((belowA _ (.cells #[.int .i64 ci, .slice a1 L[k].2.length c1] 58))).mono HBS.out.size))
        clear HBS
        have HRW_14 := Lib.hid (ownsRow_below HRW.out (belowA _ (.cells #[.int .i64 ci, .slice a1 L[k].2.length c1] 58)))
        clear HRW
        clear k0_0 k0_1 k1_0 k1_1 k1_2 k2_0 k2_1 k3_0 k3_1 k3_2 k4_0 k4_1
        have k0_0 := hs12.cellAt 0 rfl 0 rfl
        have k0_1 := hs12.cellAt 0 rfl 1 rfl
        have k1_0 := hs12.cellAt 1 rfl 0 rfl
        have k1_1 := hs12.cellAt 1 rfl 1 rfl
        have k1_2 := hs12.cellAt 1 rfl 2 rfl
        have k2_0 := hs12.cellAt 2 rfl 0 rfl
        have k2_1 := hs12.cellAt 2 rfl 1 rfl
        have k3_0 := hs12.cellAt 3 rfl 0 rfl
        have k3_1 := hs12.cellAt 3 rfl 1 rfl
        have k3_2 := hs12.cellAt 3 rfl 2 rfl
        have k4_0 := hs12.cellAt 4 rfl 0 rfl
        have k4_1 := hs12.cellAt 4 rfl 1 rfl
        have k5_0 := hs12.cellAt 5 rfl 0 rfl
        have k5_1 := hs12.cellAt 5 rfl 1 rfl
        go_upto_region 8 with fail
        clear r0 r1
        have hz_wA : wr.heap.size + 1 ≤ ((wr.alloc (.cells #[.int .i64 ci, .slice a1 L[k].2.length c1] 58))).heap.size := by simp
        generalize hgen_wA : (wr.alloc (.cells #[.int .i64 ci, .slice a1 L[k].2.length c1] 58)) = wA at *
        clear hgen_wA
        clear k0_0 k0_1 k1_0 k1_1 k1_2 k2_0 k2_1 k3_0 k3_1 k3_2 k4_0 k4_1 k5_0 k5_1
        have k0_0 := hs12.cellAt 0 rfl 0 rfl
        have k0_1 := hs12.cellAt 0 rfl 1 rfl
        have k1_0 := hs12.cellAt 1 rfl 0 rfl
        have k1_1 := hs12.cellAt 1 rfl 1 rfl
        have k1_2 := hs12.cellAt 1 rfl 2 rfl
        have k2_0 := hs12.cellAt 2 rfl 0 rfl
        have k2_1 := hs12.cellAt 2 rfl 1 rfl
        have k3_0 := hs12.cellAt 3 rfl 0 rfl
        have k3_1 := hs12.cellAt 3 rfl 1 rfl
        have k3_2 := hs12.cellAt 3 rfl 2 rfl
        have k4_0 := hs12.cellAt 4 rfl 0 rfl
        have k4_1 := hs12.cellAt 4 rfl 1 rfl
        have k5_0 := hs12.cellAt 5 rfl 0 rfl
        have k5_1 := hs12.cellAt 5 rfl 1 rfl
        by_cases h : ci = -1
        · subst h
          have H1 := Lib.hid (show instF (size, rs) (fr, vars, l) = ((0, []), 4) by rw [H0.out, any_eq hlt hci]; rfl)
          clear hci
          have g0 := (hs12.freeAt 2 rfl 0)
          have g1 := (hs12.freeAt 2 rfl 1)
          have hs9 := ((hs12.set (p := [_, _]) (by simp <;> omega) 0 (.int .i64 0)).set (p := [_, _]) (by simp <;> omega) 1 (.slice none 0 0))
          have HB9 := Lib.hid hs9.bel
          have y0 := hs9.cellAt 2 rfl 0 rfl
          have y1 := hs9.cellAt 2 rfl 1 rfl
          clear hs9
          go_wp2_with fail
          refine bodyPost_ret (v := .tuple #[.agg #[.int .i64 0, .slice none 0 0], .int .i64 4]) (by simp [results, Tryz.results9, go_sem, y0, y1]) rfl ⟨_, _, by rw [H1.out], ?_, HB9.out⟩
          rw [H1.out]; exact fresh_intc ⟨by decide, by decide⟩ fresh_nil_list
        · have h1 : (ci == -1) = false := by simp [h]
          have HNX := Lib.hid (show ∀ j (hj : j < L.length), j < k + 1 → L[j].1 ≠ -1 from fun j hj hjk => by
            rcases Nat.lt_or_ge j k with h2 | h2
            · exact hne.out j hj h2
            · obtain rfl : j = k := by omega
              rw [hci]; exact h)
          clear h hne hci
          have HS8 := Lib.hid (hs12.step (belowA wA (.cells #[.int .i64 ci, .slice a1 L[k].2.length c1] 60)))
          go_wp2_with (at_builtin; refine wpList_append_row _ rfl _ _ _ rfl E_cons (v := .slice av k cv) rfl (ownsRow_below HRW_14.out (belowA _ _)) (vs := [.int .i64 ci, .slice a1 L[k].2.length c1]) rfl (fun u hu => by simp only [List.mem_cons, List.not_mem_nil, or_false] at hu; rcases hu with rfl | rfl <;> rfl) ⟨wA.heap.size, 0, none⟩ 1 rfl (news2 (cell_at_block (heap_alloc_new _ _)) (cell_at_block (heap_alloc_new _ _))) (by omega) ?_; intro gN cN w8 hat hrowN hbutN hltN; refine Hid.out ?_)
          refine Lib.hid ?_
          have hsW := hs12.hi
          have hB8 := hbutN.butP (A := fun z => wS.heap.size + 1 + 1 ≤ z ∧ z < wr.heap.size) (fun z hz => hgo.out z (by simpa using hz))
          have hz8 := hB8.size
          (try simp at hz8)
          have HG8 := Lib.hid (show wS.heap.size + 1 + 1 ≤ gN ∧ gN < w8.heap.size from ⟨by
            rcases hat with h | h
            · exact (hgo.out gN h).1
            · rw [h]; (try simp); omega, hltN⟩)
          rw [← HUS.out] at hrowN
          have HR8 := Lib.hid (RowU.snoc (us := us) (s := 2) HRW_14.out HEL.out HLU.out hrowN)
          have HBS8 := Lib.hid ((HBS_13.out.trans ((belowA wA (.cells #[.int .i64 ci, .slice a1 L[k].2.length c1] 60)).mono HBS_13.out.size)).trans (hB8.below (B := wS.heap.size) (fun z hz => by omega) (by (try simp) <;> omega)))
          have hs8 := HS8.out.butP hB8 (fun z hz => by omega) (fun x hx hA => by have h1 := hA.1; have h2 := hA.2; simp at hx; rcases hx with rfl | rfl | rfl | rfl | rfl | rfl <;> (try simp only at h1 h2) <;> omega)
          clear hat hrowN hbutN hltN
          clear HRW_14
          clear HBS_13
          clear k0_0 k0_1 k1_0 k1_1 k1_2 k2_0 k2_1 k3_0 k3_1 k3_2 k4_0 k4_1 k5_0 k5_1
          have k0_0 := hs8.cellAt 0 rfl 0 rfl
          have k0_1 := hs8.cellAt 0 rfl 1 rfl
          have k1_0 := hs8.cellAt 1 rfl 0 rfl
          have k1_1 := hs8.cellAt 1 rfl 1 rfl
          have k1_2 := hs8.cellAt 1 rfl 2 rfl
          have k2_0 := hs8.cellAt 2 rfl 0 rfl
          have k2_1 := hs8.cellAt 2 rfl 1 rfl
          have k3_0 := hs8.cellAt 3 rfl 0 rfl
          have k3_1 := hs8.cellAt 3 rfl 1 rfl
          have k3_2 := hs8.cellAt 3 rfl 2 rfl
          have k4_0 := hs8.cellAt 4 rfl 0 rfl
          have k4_1 := hs8.cellAt 4 rfl 1 rfl
          have k5_0 := hs8.cellAt 5 rfl 0 rfl
          have k5_1 := hs8.cellAt 5 rfl 1 rfl
          have hs15 := hs8.low (B' := wS.heap.size + 1 + 1) (bx' := [(w.heap.size, #[.int .i64 size, .slice at0 rs.length ct0], 37), (w.heap.size + 1, #[.int .i64 fr, .int .i64 vars, .slice af l.length cf], 41), (w.heap.size + 1 + 1, #[.int .i64 0, .slice none 0 0], 32), (wS.heap.size, #[.int .i64 G0, .int .i64 G1, .slice (some ⟨b, o, none⟩) L.length cg], 41), (wS.heap.size + 1, #[.int .i64 G1, .slice av k cv], 32)]) (by omega) (by (try simp) <;> omega) (fun x hx => by simp only [List.mem_cons, List.not_mem_nil, or_false] at hx; rcases hx with rfl | rfl | rfl | rfl | rfl <;> (refine ⟨?_, ?_⟩ <;> (try simp) <;> (try omega)))
          clear k0_0 k0_1 k1_0 k1_1 k1_2 k2_0 k2_1 k3_0 k3_1 k3_2 k4_0 k4_1 k5_0 k5_1
          have k0_0 := hs15.cellAt 0 rfl 0 rfl
          have k0_1 := hs15.cellAt 0 rfl 1 rfl
          have k1_0 := hs15.cellAt 1 rfl 0 rfl
          have k1_1 := hs15.cellAt 1 rfl 1 rfl
          have k1_2 := hs15.cellAt 1 rfl 2 rfl
          have k2_0 := hs15.cellAt 2 rfl 0 rfl
          have k2_1 := hs15.cellAt 2 rfl 1 rfl
          have k3_0 := hs15.cellAt 3 rfl 0 rfl
          have k3_1 := hs15.cellAt 3 rfl 1 rfl
          have k3_2 := hs15.cellAt 3 rfl 2 rfl
          have k4_0 := hs15.cellAt 4 rfl 0 rfl
          have k4_1 := hs15.cellAt 4 rfl 1 rfl
          have f4_0 := hs15.freeAt 4 rfl 0
          have f4_1 := hs15.freeAt 4 rfl 1
          have HR9 := Lib.hid (RowU.frame (w' := World.setCell w8 ⟨wS.heap.size + 1, 1, none⟩ (.slice (some ⟨gN, 0, none⟩) (k + 1) cN)) HR8.out (fun g hg => Below.heap_setCell _ _ _ _ (fun e => by
            simp only [Value.ownBlock, Option.some.injEq] at hg
            have := HG8.out.1
            simp only at e
            omega)))
          have HBS := HBS8
          clear HBS8
          go_upto_region 11 with fail
          have hs16 := hs15.set (p := [_, _, _, _]) (by simp <;> omega) 1 (.slice (some ⟨gN, 0, none⟩) (k + 1) cN)
          have HBS_17 := Lib.hid (HBS.out.setCell (p := ⟨wS.heap.size + 1, 1, none⟩) (by (try simp) <;> omega) (.slice (some ⟨gN, 0, none⟩) (k + 1) cN))
          clear HBS
          clear k0_0 k0_1 k1_0 k1_1 k1_2 k2_0 k2_1 k3_0 k3_1 k3_2 k4_0 k4_1
          have hz_wP : w8.heap.size ≤ ((w8.setCell ⟨wS.heap.size + 1, 1, none⟩ (.slice (some ⟨gN, 0, none⟩) (k + 1) cN))).heap.size := by simp [World.setCell]
          generalize hgen_wP : (w8.setCell ⟨wS.heap.size + 1, 1, none⟩ (.slice (some ⟨gN, 0, none⟩) (k + 1) cN)) = wP at *
          clear hgen_wP
          have k0_0 := hs16.cellAt 0 rfl 0 rfl
          have k0_1 := hs16.cellAt 0 rfl 1 rfl
          have k1_0 := hs16.cellAt 1 rfl 0 rfl
          have k1_1 := hs16.cellAt 1 rfl 1 rfl
          have k1_2 := hs16.cellAt 1 rfl 2 rfl
          have k2_0 := hs16.cellAt 2 rfl 0 rfl
          have k2_1 := hs16.cellAt 2 rfl 1 rfl
          have k3_0 := hs16.cellAt 3 rfl 0 rfl
          have k3_1 := hs16.cellAt 3 rfl 1 rfl
          have k3_2 := hs16.cellAt 3 rfl 2 rfl
          have k4_0 := hs16.cellAt 4 rfl 0 rfl
          have k4_1 := hs16.cellAt 4 rfl 1 rfl
          go_wp2_with fail
          go_roundw
          case rel => exact ⟨k + 1, some ⟨gN, 0, none⟩, cN, hlt, by go_num, HNX.out, hs16, HBS_17.out, (fun g hg => by simp only [Value.ownBlock, Option.some.injEq] at hg; subst hg; exact ⟨HG8.out.1, by have := HG8.out.2; omega⟩), HR9.out⟩
          case measure => simp [intOf]; omega
      · obtain rfl : k = L.length := by omega
        have hnl : ¬ ((L.length : Int) < L.length) := by omega
        have H1 := Lib.hid (show instF (size, rs) (fr, vars, l) = ((G1, L), 0) by rw [H0.out, any_ne (fun j hj => hne.out j hj hj)]; rfl)
        have HFR := Lib.hid (show Fresh (w.heap.size + 1 + 1 + 1) wr [.slice av L.length cv] L from
          Ip.fresh (HAG.out wr _ _ HBS.out hru.out (fun z hz => by have := (hgo.out z hz).1; omega)) (fun z hz => by
            rcases hz with h | h
            · have := HPG.out z h; omega
            · omega))
        clear hru hgo hne
        have g0 := (HST.out.freeAt 2 rfl 0)
        have g1 := (HST.out.freeAt 2 rfl 1)
        have hs9 := ((HST.out.set (p := [_, _]) (by simp <;> omega) 0 (.int .i64 G1)).set (p := [_, _]) (by simp <;> omega) 1 (.slice av L.length cv))
        have HF9 := Lib.hid (show Fresh w.heap.size ((wr.setCell ⟨w.heap.size + 1 + 1, 0, none⟩ (.int .i64 G1)).setCell ⟨w.heap.size + 1 + 1, 1, none⟩ (.slice av L.length cv)) [.int .i64 G1, .slice av L.length cv] (G1, L) from
          fresh_intc hI1 (((HFR.out.setCell (a := ⟨w.heap.size + 1 + 1, 0, none⟩) (by simp <;> omega) (.int .i64 G1)).setCell (a := ⟨w.heap.size + 1 + 1, 1, none⟩) (by simp <;> omega) (.slice av L.length cv)).lower (by omega)))
        have HB9 := Lib.hid hs9.bel
        have y0 := hs9.cellAt 2 rfl 0 rfl
        have y1 := hs9.cellAt 2 rfl 1 rfl
        clear hs9
        go_wp2_with fail
        refine bodyPost_ret (v := .tuple #[.agg #[.int .i64 G1, .slice av L.length cv], .int .i64 0]) (by simp [results, Tryz.results9, go_sem, y0, y1]) rfl ⟨_, _, by rw [H1.out], ?_, HB9.out⟩
        rw [H1.out]; exact HF9.out
set_option maxRecDepth 100000 in
set_option maxHeartbeats 16000000 in
theorem sInstanceOfFormula_c (t : Tmpl) (t0 t1 : Value) (f : Fml) (f0 f1 f2 : Value) (w : World) (ht : Rd w [t0, t1] t) (hf : Rd w [f0, f1, f2] f) :
    Calls Tryz.prog 6 #[.agg #[t0, t1], .agg #[f0, f1, f2]] w fun e w' => ∃ u0 u1, e = .returned (.tuple #[.agg #[u0, u1], .int .i64 (instF t f).2]) ∧ Fresh w.heap.size w' [u0, u1] (instF t f).1 ∧ Below w.heap.size w w' := by
  obtain ⟨size, rs⟩ := t
  obtain ⟨fr, vars, l⟩ := f
  have HT := Lib.hid ht
  have HF := Lib.hid hf
  have zt := rd_cons rfl ht
  obtain ⟨rfl, _⟩ := rd_i1 zt.1
  obtain ⟨at0, ct0, rfl, _⟩ := rd_list zt.2
  have zf := rd_cons rfl hf
  obtain ⟨rfl, _⟩ := rd_i1 zf.1
  have zf2 := rd_cons rfl zf.2
  obtain ⟨rfl, _⟩ := rd_i1 zf2.1
  obtain ⟨af, cf, rfl, _⟩ := rd_list zf2.2
  have HL := Lib.hid zf2.2
  clear ht hf zt zf zf2
  have hs18 := (St.start w).alloc #[.int .i64 size, .slice at0 rs.length ct0] 37 (n := w.heap.size) (by simp)
  have k0_0 := hs18.cellAt 0 rfl 0 rfl
  have k0_1 := hs18.cellAt 0 rfl 1 rfl
  have hs19 := hs18.alloc #[.int .i64 fr, .int .i64 vars, .slice af l.length cf] 41 (n := w.heap.size + 1) (by simp)
  clear k0_0 k0_1
  have k0_0 := hs19.cellAt 0 rfl 0 rfl
  have k0_1 := hs19.cellAt 0 rfl 1 rfl
  have k1_0 := hs19.cellAt 1 rfl 0 rfl
  have k1_1 := hs19.cellAt 1 rfl 1 rfl
  have k1_2 := hs19.cellAt 1 rfl 2 rfl
  have hs20 := hs19.alloc #[.int .i64 0, .slice none 0 0] 32 (n := w.heap.size + 1 + 1) (by simp)
  clear k0_0 k0_1 k1_0 k1_1 k1_2
  have k0_0 := hs20.cellAt 0 rfl 0 rfl
  have k0_1 := hs20.cellAt 0 rfl 1 rfl
  have k1_0 := hs20.cellAt 1 rfl 0 rfl
  have k1_1 := hs20.cellAt 1 rfl 1 rfl
  have k1_2 := hs20.cellAt 1 rfl 2 rfl
  have k2_0 := hs20.cellAt 2 rfl 0 rfl
  have k2_1 := hs20.cellAt 2 rfl 1 rfl
  clear k0_0 k0_1 k1_0 k1_1 k1_2 k2_0 k2_1
  have k0_0 := hs20.cellAt 0 rfl 0 rfl
  have k0_1 := hs20.cellAt 0 rfl 1 rfl
  have k1_0 := hs20.cellAt 1 rfl 0 rfl
  have k1_1 := hs20.cellAt 1 rfl 1 rfl
  have k1_2 := hs20.cellAt 1 rfl 2 rfl
  have k2_0 := hs20.cellAt 2 rfl 0 rfl
  have k2_1 := hs20.cellAt 2 rfl 1 rfl
  go_enter Tryz.func6, Tryz.ntmps6
  go_wp2_with fail
  refine (l03Ok_c (size, rs) (fr, vars, l) _ _ _ _ _ _ _ _ (Rd.mono HT.out hs20.bel) (Rd.mono HF.out hs20.bel) (hs20.cellAt 0 rfl 0 rfl) (hs20.cellAt 0 rfl 1 rfl) (hs20.cellAt 1 rfl 0 rfl) (hs20.cellAt 1 rfl 1 rfl) (hs20.cellAt 1 rfl 2 rfl)).mono ?_
  rintro e w21 ⟨rfl, hbw21⟩
  have hz_w21 : w.heap.size + 1 + 1 + 1 ≤ w21.heap.size := by have h9 := hbw21.size; (try simp at h9); omega
  have hs22 := hs20.step hbw21
  clear k0_0 k0_1 k1_0 k1_1 k1_2 k2_0 k2_1
  have k0_0 := hs22.cellAt 0 rfl 0 rfl
  have k0_1 := hs22.cellAt 0 rfl 1 rfl
  have k1_0 := hs22.cellAt 1 rfl 0 rfl
  have k1_1 := hs22.cellAt 1 rfl 1 rfl
  have k1_2 := hs22.cellAt 1 rfl 2 rfl
  have k2_0 := hs22.cellAt 2 rfl 0 rfl
  have k2_1 := hs22.cellAt 2 rfl 1 rfl
  cases h1 : fmlOk (size, rs) (fr, vars, l) with
  | false =>
    have H1 := Lib.hid (show instF (size, rs) (fr, vars, l) = ((0, []), 1) by unfold instF; rw [h1]; rfl)
    clear h1
    have g0 := (hs22.freeAt 2 rfl 0)
    have g1 := (hs22.freeAt 2 rfl 1)
    have hs9 := ((hs22.set (p := [_, _]) (by simp <;> omega) 0 (.int .i64 0)).set (p := [_, _]) (by simp <;> omega) 1 (.slice none 0 0))
    have HB9 := Lib.hid hs9.bel
    have y0 := hs9.cellAt 2 rfl 0 rfl
    have y1 := hs9.cellAt 2 rfl 1 rfl
    clear hs9
    go_wp2_with fail
    refine bodyPost_ret (v := .tuple #[.agg #[.int .i64 0, .slice none 0 0], .int .i64 1]) (by simp [results, Tryz.results6, go_sem, y0, y1]) rfl ⟨_, _, by rw [H1.out], ?_, HB9.out⟩
    rw [H1.out]; exact fresh_intc ⟨by decide, by decide⟩ fresh_nil_list
  | true =>
    have H0 := Lib.hid (show instF (size, rs) (fr, vars, l) = if (simpF (fr, vars, l)).2.2.any (fun a => decide (a.1 = -1)) then ((0, []), 4) else (((simpF (fr, vars, l)).2.1, (simpF (fr, vars, l)).2.2), 0) by unfold instF; rw [h1]; rfl)
    have HSH := Lib.hid (fmlOk_short h1)
    have HAV := Lib.hid (fmlOk_atoms h1).1
    have HFR := Lib.hid (fmlOk_frame h1)
    have hlen := lessT_len (mrgF fr vars.toNat l) (mrgF fr vars.toNat l).length
    have hll : (simpF (fr, vars, l)).2.2.length ≤ 16 := by
      have h8 := (fmlOk_atoms h1).2.2.2.2.2
      rw [mrgF_len] at hlen
      show (movL _ (leftF (fr, vars, l))).length ≤ 16
      rw [movL_len]
      show (lessT (mrgF fr vars.toNat l) (mrgF fr vars.toNat l).length).length ≤ 16
      rw [mrgF_len]
      simp only at h8
      omega
    have hI1 : I64 (simpF (fr, vars, l)).2.1 := by
      have h8 := fmlOk_atoms h1
      simp only at h8
      have := varsT_len fr.toNat (leftF (fr, vars, l)) (vars - fr).toNat
      show I64 (((varsT fr.toNat (leftF (fr, vars, l)) (vars - fr).toNat).length : Nat) : Int)
      exact ⟨by omega, by omega⟩
    go_wp2_with fail
    refine (l03Simple_c (t := (size, rs)) (fr, vars, l) _ _ _ (hs22.cellAt 1 rfl 0 rfl) (hs22.cellAt 1 rfl 1 rfl) (hs22.cellAt 1 rfl 2 rfl) (Rd.mono HL.out hs22.bel) h1 HSH.out).mono ?_
    rintro e w23 ⟨vg, rfl, hFg, hbw23⟩
    have hz_w23 : w21.heap.size ≤ w23.heap.size := by have h9 := hbw23.size; (try simp at h9); omega
    have hs24 := hs22.step hbw23
    clear k0_0 k0_1 k1_0 k1_1 k1_2 k2_0 k2_1
    have k0_0 := hs24.cellAt 0 rfl 0 rfl
    have k0_1 := hs24.cellAt 0 rfl 1 rfl
    have k1_0 := hs24.cellAt 1 rfl 0 rfl
    have k1_1 := hs24.cellAt 1 rfl 1 rfl
    have k1_2 := hs24.cellAt 1 rfl 2 rfl
    have k2_0 := hs24.cellAt 2 rfl 0 rfl
    have k2_1 := hs24.cellAt 2 rfl 1 rfl
    clear h1 hlen HSH HAV HFR
    obtain ⟨wS, hwS⟩ : ∃ x, x = w23 := ⟨_, rfl⟩
    subst hwS
    generalize hSF : simpF (fr, vars, l) = GG at *
    obtain ⟨G0, G1, L⟩ := GG
    simp only at hFg H0 hll hI1
    (try simp only)
    obtain ⟨ag, cg, rfl, _⟩ := rd_list hFg.rd
    have hzS : w.heap.size + 1 + 1 + 1 ≤ wS.heap.size := by omega
    obtain ⟨pg, hog, hndg, hpg⟩ := fresh_nodup hFg
    obtain ⟨us, hus, hag⟩ := own_again hog hndg
    clear hFg hog hndg
    have HUSA := Lib.hid hus
    have HAG := Lib.hid hag
    have HPG := Lib.hid hpg
    clear hus hag hpg hSF
    have HBS := Lib.hid (Below.refl wS.heap.size wS)
    have hs25 := hs24.alloc #[.int .i64 G0, .int .i64 G1, .slice ag L.length cg] 41 (n := wS.heap.size) (by simp)
    have HBS_26 := Lib.hid (HBS.out.trans (((belowA _ (.cells #[.int .i64 G0, .int .i64 G1, .slice ag L.length cg] 41))).mono HBS.out.size))
    clear HBS
    clear k0_0 k0_1 k1_0 k1_1 k1_2 k2_0 k2_1
    have k0_0 := hs25.cellAt 0 rfl 0 rfl
    have k0_1 := hs25.cellAt 0 rfl 1 rfl
    have k1_0 := hs25.cellAt 1 rfl 0 rfl
    have k1_1 := hs25.cellAt 1 rfl 1 rfl
    have k1_2 := hs25.cellAt 1 rfl 2 rfl
    have k2_0 := hs25.cellAt 2 rfl 0 rfl
    have k2_1 := hs25.cellAt 2 rfl 1 rfl
    have k3_0 := hs25.cellAt 3 rfl 0 rfl
    have k3_1 := hs25.cellAt 3 rfl 1 rfl
    have k3_2 := hs25.cellAt 3 rfl 2 rfl
    clear k0_0 k0_1 k1_0 k1_1 k1_2 k2_0 k2_1 k3_0 k3_1 k3_2
    have k0_0 := hs25.cellAt 0 rfl 0 rfl
    have k0_1 := hs25.cellAt 0 rfl 1 rfl
    have k1_0 := hs25.cellAt 1 rfl 0 rfl
    have k1_1 := hs25.cellAt 1 rfl 1 rfl
    have k1_2 := hs25.cellAt 1 rfl 2 rfl
    have k2_0 := hs25.cellAt 2 rfl 0 rfl
    have k2_1 := hs25.cellAt 2 rfl 1 rfl
    have k3_0 := hs25.cellAt 3 rfl 0 rfl
    have k3_1 := hs25.cellAt 3 rfl 1 rfl
    have k3_2 := hs25.cellAt 3 rfl 2 rfl
    have kG := (hs25.cellAt 3 rfl 1 rfl)
    have hs27 := hs25.alloc #[.int .i64 G1, .slice none 0 0] 32 (n := wS.heap.size + 1) (by simp)
    have HBS_28 := Lib.hid (HBS_26.out.trans (((belowA _ (.cells #[.int .i64 G1, .slice none 0 0] 32))).mono HBS_26.out.size))
    clear HBS_26
    clear k0_0 k0_1 k1_0 k1_1 k1_2 k2_0 k2_1 k3_0 k3_1 k3_2
    have k0_0 := hs27.cellAt 0 rfl 0 rfl
    have k0_1 := hs27.cellAt 0 rfl 1 rfl
    have k1_0 := hs27.cellAt 1 rfl 0 rfl
    have k1_1 := hs27.cellAt 1 rfl 1 rfl
    have k1_2 := hs27.cellAt 1 rfl 2 rfl
    have k2_0 := hs27.cellAt 2 rfl 0 rfl
    have k2_1 := hs27.cellAt 2 rfl 1 rfl
    have k3_0 := hs27.cellAt 3 rfl 0 rfl
    have k3_1 := hs27.cellAt 3 rfl 1 rfl
    have k3_2 := hs27.cellAt 3 rfl 2 rfl
    have k4_0 := hs27.cellAt 4 rfl 0 rfl
    have k4_1 := hs27.cellAt 4 rfl 1 rfl
    clear k0_0 k0_1 k1_0 k1_1 k1_2 k2_0 k2_1 k3_0 k3_1 k3_2 k4_0 k4_1
    have k0_0 := hs27.cellAt 0 rfl 0 rfl
    have k0_1 := hs27.cellAt 0 rfl 1 rfl
    have k1_0 := hs27.cellAt 1 rfl 0 rfl
    have k1_1 := hs27.cellAt 1 rfl 1 rfl
    have k1_2 := hs27.cellAt 1 rfl 2 rfl
    have k2_0 := hs27.cellAt 2 rfl 0 rfl
    have k2_1 := hs27.cellAt 2 rfl 1 rfl
    have k3_0 := hs27.cellAt 3 rfl 0 rfl
    have k3_1 := hs27.cellAt 3 rfl 1 rfl
    have k3_2 := hs27.cellAt 3 rfl 2 rfl
    have k4_0 := hs27.cellAt 4 rfl 0 rfl
    have k4_1 := hs27.cellAt 4 rfl 1 rfl
    have HS6 := Lib.hid hs27
    have HB6 := Lib.hid HBS_28.out
    go_wp2_with fail
    clear kG
    go_loopw [8] (fun iv wl => ∃ (k : Nat) (av : Option Addr) (cv : Nat), k ≤ L.length ∧ iv = .int .i64 k ∧ Hid (∀ j (hj : j < L.length), j < k → L[j].1 ≠ -1) ∧ (St w (wS.heap.size + 1 + 1) wl [(w.heap.size, #[.int .i64 size, .slice at0 rs.length ct0], 37), (w.heap.size + 1, #[.int .i64 fr, .int .i64 vars, .slice af l.length cf], 41), (w.heap.size + 1 + 1, #[.int .i64 0, .slice none 0 0], 32), (wS.heap.size, #[.int .i64 G0, .int .i64 G1, .slice ag L.length cg], 41), (wS.heap.size + 1, #[.int .i64 G1, .slice av k cv], 32)]) ∧ (Below wS.heap.size wS wl) ∧
      Hid (∀ g, (Value.slice av k cv).ownBlock = some g → wS.heap.size + 1 + 1 ≤ g ∧ g < wl.heap.size) ∧ Hid (RowU us 2 60 wl (.slice av k cv) k)) (fun iv _ => L.length - (intOf iv).toNat)
    case atStart => exact ⟨0, none, 0, Nat.zero_le _, rfl, fun j _ hj => absurd hj (Nat.not_lt_zero _), HS6.out, HB6.out, (fun g hg => by cases hg), RowU.nil _ _ _ _⟩
    case round =>
      clear HS6 HB6
      obtain ⟨k, av, cv, hk, rfl, hne, hst, hbe', hgo, hru⟩ := hrel
      have hbe := Lib.hid hbe'
      clear hbe'
      have hszr : wS.heap.size + 1 + 1 ≤ wr.heap.size := hst.hi
      have HST := Lib.hid hst
      clear hst
      have k0_0 := HST.out.cellAt 0 rfl 0 rfl
      have k0_1 := HST.out.cellAt 0 rfl 1 rfl
      have k1_0 := HST.out.cellAt 1 rfl 0 rfl
      have k1_1 := HST.out.cellAt 1 rfl 1 rfl
      have k1_2 := HST.out.cellAt 1 rfl 2 rfl
      have k2_0 := HST.out.cellAt 2 rfl 0 rfl
      have k2_1 := HST.out.cellAt 2 rfl 1 rfl
      have k3_0 := HST.out.cellAt 3 rfl 0 rfl
      have k3_1 := HST.out.cellAt 3 rfl 1 rfl
      have k3_2 := HST.out.cellAt 3 rfl 2 rfl
      have k4_0 := HST.out.cellAt 4 rfl 0 rfl
      have k4_1 := HST.out.cellAt 4 rfl 1 rfl
      have HBS := hbe
      by_cases hlt : k < L.length
      · have hkl : (k : Int) < L.length := by omega
        obtain ⟨hr1, b, o, rfl, hca⟩ := HUSA.out k hlt
        obtain ⟨ci, a1, c1, hUS, hci, hIc⟩ := us_two hr1
        have HUS := Lib.hid hUS
        have q0 := hca 0 (by rw [hUS]; exact Nat.zero_lt_two)
        have q1 := hca 1 (by rw [hUS]; exact Nat.one_lt_two)
        rw [hUS] at q0 q1
        simp only [List.getElem?_cons_zero, List.getElem?_cons_succ, Nat.add_zero, show sz OpT = 2 from rfl] at q0 q1
        have HLU := Lib.hid (show ∀ i, i ≤ k → (us i).length = 2 from fun i hi => Rep.rd_len (HUSA.out i (by omega)).1)
        clear hr1 hca hUS
        obtain ⟨xs, hrow, hel⟩ := hru.out
        have HEL := Lib.hid hel
        have HRW := Lib.hid hrow
        clear hrow hel hru
        have r0 := cellL hbe.out q0
        have r1 := cellL hbe.out q1
        have hbX : b < wS.heap.size := World.block_lt_of_cell? wS _ q0
        clear q0 q1
        clear k0_0 k0_1 k1_0 k1_1 k1_2 k2_0 k2_1 k3_0 k3_1 k3_2 k4_0 k4_1
        have k0_0 := HST.out.cellAt 0 rfl 0 rfl
        have k0_1 := HST.out.cellAt 0 rfl 1 rfl
        have k1_0 := HST.out.cellAt 1 rfl 0 rfl
        have k1_1 := HST.out.cellAt 1 rfl 1 rfl
        have k1_2 := HST.out.cellAt 1 rfl 2 rfl
        have k2_0 := HST.out.cellAt 2 rfl 0 rfl
        have k2_1 := HST.out.cellAt 2 rfl 1 rfl
        have k3_0 := HST.out.cellAt 3 rfl 0 rfl
        have k3_1 := HST.out.cellAt 3 rfl 1 rfl
        have k3_2 := HST.out.cellAt 3 rfl 2 rfl
        have k4_0 := HST.out.cellAt 4 rfl 0 rfl
        have k4_1 := HST.out.cellAt 4 rfl 1 rfl
        by_cases h : ci = -1
        · subst h
          have H1 := Lib.hid (show instF (size, rs) (fr, vars, l) = ((0, []), 4) by rw [H0.out, any_eq hlt hci]; rfl)
          clear hci
          have g0 := (HST.out.freeAt 2 rfl 0)
          have g1 := (HST.out.freeAt 2 rfl 1)
          have hs9 := ((HST.out.set (p := [_, _]) (by simp <;> omega) 0 (.int .i64 0)).set (p := [_, _]) (by simp <;> omega) 1 (.slice none 0 0))
          have HB9 := Lib.hid hs9.bel
          have y0 := hs9.cellAt 2 rfl 0 rfl
          have y1 := hs9.cellAt 2 rfl 1 rfl
          clear hs9
          go_wp2_with fail
          refine bodyPost_ret (v := .tuple #[.agg #[.int .i64 0, .slice none 0 0], .int .i64 4]) (by simp [results, Tryz.results6, go_sem, y0, y1]) rfl ⟨_, _, by rw [H1.out], ?_, HB9.out⟩
          rw [H1.out]; exact fresh_intc ⟨by decide, by decide⟩ fresh_nil_list
        · have h1 : (ci == -1) = false := by simp [h]
          have HNX := Lib.hid (show ∀ j (hj : j < L.length), j < k + 1 → L[j].1 ≠ -1 from fun j hj hjk => by
            rcases Nat.lt_or_ge j k with h2 | h2
            · exact hne.out j hj h2
            · obtain rfl : j = k := by omega
              rw [hci]; exact h)
          clear h hne hci
          go_upto_region 10 with fail
          refine wp_region_noPanic (wp_region_tree4 (fun w' => w'.cell? ⟨w.heap.size, 0, none⟩ = some (.int .i64 size) ∧ w'.cell? ⟨w.heap.size, 1, none⟩ = some (.slice at0 rs.length ct0) ∧ w'.cell? ⟨w.heap.size + 1, 0, none⟩ = some (.int .i64 fr) ∧ w'.cell? ⟨w.heap.size + 1, 1, none⟩ = some (.int .i64 vars) ∧ w'.cell? ⟨w.heap.size + 1, 2, none⟩ = some (.slice af l.length cf) ∧ w'.cell? ⟨w.heap.size + 1 + 1, 0, none⟩ = some (.int .i64 0) ∧ w'.cell? ⟨w.heap.size + 1 + 1, 1, none⟩ = some (.slice none 0 0) ∧ w'.cell? ⟨wS.heap.size, 0, none⟩ = some (.int .i64 G0) ∧ w'.cell? ⟨wS.heap.size, 1, none⟩ = some (.int .i64 G1) ∧ w'.cell? ⟨wS.heap.size, 2, none⟩ = some (.slice (some ⟨b, o, none⟩) L.length cg) ∧ w'.cell? ⟨wS.heap.size + 1, 0, none⟩ = some (.int .i64 G1) ∧ w'.cell? ⟨wS.heap.size + 1, 1, none⟩ = some (.slice av k cv) ∧ w'.cell? ⟨b, o + k * 2, none⟩ = some (.int .i64 ci) ∧ w'.cell? ⟨b, o + k * 2 + 1, none⟩ = some (.slice a1 L[k].2.length c1)) (.float 0 (.float 1 (.float 2 (.float 3 (.float 4 (.float 5 (.float 6 (.float 7 (.float 8 (.float 9 (.float 10 (.float 11 (.float 12 (.float 13 (.float 14 (.hard 15 (.hard 16 (.float 17 (.last 18 .nil))))))))))))))))))) (by kernel_rfl) (by kernel_rfl) (by kernel_rfl) rfl ?_ (fun _ _ _ _ _ h => h) ?_)
          · exact ⟨(HST.out.drew).cellAt 0 rfl 0 rfl, (HST.out.drew).cellAt 0 rfl 1 rfl, (HST.out.drew).cellAt 1 rfl 0 rfl, (HST.out.drew).cellAt 1 rfl 1 rfl, (HST.out.drew).cellAt 1 rfl 2 rfl, (HST.out.drew).cellAt 2 rfl 0 rfl, (HST.out.drew).cellAt 2 rfl 1 rfl, (HST.out.drew).cellAt 3 rfl 0 rfl, (HST.out.drew).cellAt 3 rfl 1 rfl, (HST.out.drew).cellAt 3 rfl 2 rfl, (HST.out.drew).cellAt 4 rfl 0 rfl, (HST.out.drew).cellAt 4 rfl 1 rfl, cellL (belowD _) r0, cellL (belowD _) r1⟩
          have hs29 := HST.out.drew
          have r0_30 := cellL (belowD _) r0
          clear r0
          have r1_31 := cellL (belowD _) r1
          clear r1
          have HBS_32 := Lib.hid (HBS.out.trans (((belowD _)).mono HBS.out.size))
          clear HBS
          have HRW_33 := Lib.hid (ownsRow_below HRW.out (belowD _))
          clear HRW
          clear k0_0 k0_1 k1_0 k1_1 k1_2 k2_0 k2_1 k3_0 k3_1 k3_2 k4_0 k4_1
          have hz_wd34 : wr.heap.size ≤ (wr.drew).heap.size := by simp
          generalize hgen_wd34 : wr.drew = wd34 at *
          have HG_wd34 := Lib.hid hgen_wd34
          clear hgen_wd34
          (repeat (first | (apply t4_skip rfl (by rfl); try simp only [Act.put, List.setIfInBounds_toArray, List.set_cons_zero, List.set_cons_succ]) | (apply t4_float rfl (by rfl); (· (intro w' hS; go_simp <;> with_reducible rfl)); (try simp only [Act.put, List.setIfInBounds_toArray, List.set_cons_zero, List.set_cons_succ]))))
          refine t4_hard rfl (by rfl) (fun K hK => ?_)
          go_wp2_with fail
          have hs35 := hs29.alloc #[.int .i64 ci, .slice a1 L[k].2.length c1] 60 (n := wd34.heap.size) (by simp)
          have r0_36 := cellL (belowA _ (.cells #[.int .i64 ci, .slice a1 L[k].2.length c1] 60)) r0_30
          clear r0_30
          have r1_37 := cellL (belowA _ (.cells #[.int .i64 ci, .slice a1 L[k].2.length c1] 60)) r1_31
          clear r1_31
          have HBS_38 := Lib.hid (HBS_32.out.trans (((belowA _ (.cells #[.int .i64 ci, .slice a1 L[k].2.length c1] 60))).mono HBS_32.out.size))
          clear HBS_32
          have HRW_39 := Lib.hid (ownsRow_below HRW_33.out (belowA _ (.cells #[.int .i64 ci, .slice a1 L[k].2.length c1] 60)))
          clear HRW_33
          refine ⟨⟨hs35.cellAt 0 rfl 0 rfl, hs35.cellAt 0 rfl 1 rfl, hs35.cellAt 1 rfl 0 rfl, hs35.cellAt 1 rfl 1 rfl, hs35.cellAt 1 rfl 2 rfl, hs35.cellAt 2 rfl 0 rfl, hs35.cellAt 2 rfl 1 rfl, hs35.cellAt 3 rfl 0 rfl, hs35.cellAt 3 rfl 1 rfl, hs35.cellAt 3 rfl 2 rfl, hs35.cellAt 4 rfl 0 rfl, hs35.cellAt 4 rfl 1 rfl, r0_36, r1_37⟩, ?_⟩
          (repeat (first | (apply t4_skip rfl (by rfl); try simp only [Act.put, List.setIfInBounds_toArray, List.set_cons_zero, List.set_cons_succ]) | (apply t4_float rfl (by rfl); (· (intro w' hS; go_simp <;> with_reducible rfl)); (try simp only [Act.put, List.setIfInBounds_toArray, List.set_cons_zero, List.set_cons_succ]))))
          refine t4_hard rfl (by rfl) (fun K hK => ?_)
          refine wp_append_row _ _ _ _ rfl E_cons (v := .slice av k cv) rfl HRW_39.out (vs := [.int .i64 ci, .slice a1 L[k].2.length c1]) rfl (fun u hu => by simp only [List.mem_cons, List.not_mem_nil, or_false] at hu; rcases hu with rfl | rfl <;> rfl) ⟨wd34.heap.size, 0, none⟩ 1 rfl (news2 (hs35.cellAt 5 rfl 0 rfl) (hs35.cellAt 5 rfl 1 rfl)) (by omega) ?_
          intro gN cN w8 hat hrowN hbutN hltN
          have hsW := hs35.hi
          have hB8 := hbutN.butP (A := fun z => wS.heap.size + 1 + 1 ≤ z ∧ z < wr.heap.size) (fun z hz => hgo.out z (by simpa using hz))
          have hz8 := hB8.size
          (try simp at hz8)
          have HG8 := Lib.hid (show wS.heap.size + 1 + 1 ≤ gN ∧ gN < w8.heap.size from ⟨by
            rcases hat with h | h
            · exact (hgo.out gN h).1
            · rw [h]; (try simp); omega, hltN⟩)
          rw [← HUS.out] at hrowN
          have HR8 := Lib.hid (RowU.snoc (us := us) (s := 2) HRW_39.out HEL.out HLU.out hrowN)
          have HBS8 := Lib.hid (HBS_38.out.trans (hB8.below (B := wS.heap.size) (fun z hz => by omega) (by (try simp) <;> omega)))
          have hs8 := hs35.butP hB8 (fun z hz => by omega) (fun x hx hA => by have h1 := hA.1; have h2 := hA.2; simp at hx; rcases hx with rfl | rfl | rfl | rfl | rfl | rfl <;> (try simp only at h1 h2) <;> omega)
          clear hat hrowN hbutN hltN
          clear HRW_39
          clear HBS_38
          have r0_40 := cellB hB8 r0_36 (fun h => by have := h.1; omega)
          clear r0_36
          have r1_41 := cellB hB8 r1_37 (fun h => by have := h.1; omega)
          clear r1_37
          refine hK _ _ ⟨⟨hs8.cellAt 0 rfl 0 rfl, hs8.cellAt 0 rfl 1 rfl, hs8.cellAt 1 rfl 0 rfl, hs8.cellAt 1 rfl 1 rfl, hs8.cellAt 1 rfl 2 rfl, hs8.cellAt 2 rfl 0 rfl, hs8.cellAt 2 rfl 1 rfl, hs8.cellAt 3 rfl 0 rfl, hs8.cellAt 3 rfl 1 rfl, hs8.cellAt 3 rfl 2 rfl, hs8.cellAt 4 rfl 0 rfl, hs8.cellAt 4 rfl 1 rfl, r0_40, r1_41⟩, ?_⟩
          (repeat (first | (apply t4_skip rfl (by rfl); try simp only [Act.put, List.setIfInBounds_toArray, List.set_cons_zero, List.set_cons_succ]) | (apply t4_float rfl (by rfl); (· (intro w' hS; go_simp <;> with_reducible rfl)); (try simp only [Act.put, List.setIfInBounds_toArray, List.set_cons_zero, List.set_cons_succ]))))
          refine t4_last rfl (by rfl) (fun K hK => ?_)
          have k0_0 := hs8.cellAt 0 rfl 0 rfl
          have k0_1 := hs8.cellAt 0 rfl 1 rfl
          have k1_0 := hs8.cellAt 1 rfl 0 rfl
          have k1_1 := hs8.cellAt 1 rfl 1 rfl
          have k1_2 := hs8.cellAt 1 rfl 2 rfl
          have k2_0 := hs8.cellAt 2 rfl 0 rfl
          have k2_1 := hs8.cellAt 2 rfl 1 rfl
          have k3_0 := hs8.cellAt 3 rfl 0 rfl
          have k3_1 := hs8.cellAt 3 rfl 1 rfl
          have k3_2 := hs8.cellAt 3 rfl 2 rfl
          have k4_0 := hs8.cellAt 4 rfl 0 rfl
          have k4_1 := hs8.cellAt 4 rfl 1 rfl
          have k5_0 := hs8.cellAt 5 rfl 0 rfl
          have k5_1 := hs8.cellAt 5 rfl 1 rfl
          have hs42 := hs8.low (B' := wS.heap.size + 1 + 1) (bx' := [(w.heap.size, #[.int .i64 size, .slice at0 rs.length ct0], 37), (w.heap.size + 1, #[.int .i64 fr, .int .i64 vars, .slice af l.length cf], 41), (w.heap.size + 1 + 1, #[.int .i64 0, .slice none 0 0], 32), (wS.heap.size, #[.int .i64 G0, .int .i64 G1, .slice (some ⟨b, o, none⟩) L.length cg], 41), (wS.heap.size + 1, #[.int .i64 G1, .slice av k cv], 32)]) (by omega) (by (try simp) <;> omega) (fun x hx => by simp only [List.mem_cons, List.not_mem_nil, or_false] at hx; rcases hx with rfl | rfl | rfl | rfl | rfl <;> (refine ⟨?_, ?_⟩ <;> (try simp) <;> (try omega)))
          have f4_0 := hs42.freeAt 4 rfl 0
          have f4_1 := hs42.freeAt 4 rfl 1
          have HR9 := Lib.hid (RowU.frame (w' := World.setCell w8 ⟨wS.heap.size + 1, 1, none⟩ (.slice (some ⟨gN, 0, none⟩) (k + 1) cN)) HR8.out (fun g hg => Below.heap_setCell _ _ _ _ (fun e => by
            simp only [Value.ownBlock, Option.some.injEq] at hg
            have := HG8.out.1
            simp only at e
            omega)))
          have HBS := HBS8
          clear HBS8
          go_wp2_with fail
          refine t4_nil (NoPanic.normal ?_)
          have hs43 := hs42.set (p := [_, _, _, _]) (by simp <;> omega) 1 (.slice (some ⟨gN, 0, none⟩) (k + 1) cN)
          have r0_44 := (cell_put (b' := wS.heap.size + 1) (o' := 1) (u := .slice (some ⟨gN, 0, none⟩) (k + 1) cN) r0_40 (by (try simp) <;> omega))
          clear r0_40
          have r1_45 := (cell_put (b' := wS.heap.size + 1) (o' := 1) (u := .slice (some ⟨gN, 0, none⟩) (k + 1) cN) r1_41 (by (try simp) <;> omega))
          clear r1_41
          have HBS_46 := Lib.hid (HBS.out.setCell (p := ⟨wS.heap.size + 1, 1, none⟩) (by (try simp) <;> omega) (.slice (some ⟨gN, 0, none⟩) (k + 1) cN))
          clear HBS
          clear k0_0 k0_1 k1_0 k1_1 k1_2 k2_0 k2_1 k3_0 k3_1 k3_2 k4_0 k4_1 k5_0 k5_1
          have hz_wP : w8.heap.size ≤ ((w8.setCell ⟨wS.heap.size + 1, 1, none⟩ (.slice (some ⟨gN, 0, none⟩) (k + 1) cN))).heap.size := by simp [World.setCell]
          generalize hgen_wP : (w8.setCell ⟨wS.heap.size + 1, 1, none⟩ (.slice (some ⟨gN, 0, none⟩) (k + 1) cN)) = wP at *
          clear hgen_wP
          have k0_0 := hs43.cellAt 0 rfl 0 rfl
          have k0_1 := hs43.cellAt 0 rfl 1 rfl
          have k1_0 := hs43.cellAt 1 rfl 0 rfl
          have k1_1 := hs43.cellAt 1 rfl 1 rfl
          have k1_2 := hs43.cellAt 1 rfl 2 rfl
          have k2_0 := hs43.cellAt 2 rfl 0 rfl
          have k2_1 := hs43.cellAt 2 rfl 1 rfl
          have k3_0 := hs43.cellAt 3 rfl 0 rfl
          have k3_1 := hs43.cellAt 3 rfl 1 rfl
          have k3_2 := hs43.cellAt 3 rfl 2 rfl
          have k4_0 := hs43.cellAt 4 rfl 0 rfl
          have k4_1 := hs43.cellAt 4 rfl 1 rfl
          go_wp2_with fail
          go_roundw
          case rel => exact ⟨k + 1, some ⟨gN, 0, none⟩, cN, hlt, by go_num, HNX.out, hs43, HBS_46.out, (fun g hg => by simp only [Value.ownBlock, Option.some.injEq] at hg; subst hg; exact ⟨HG8.out.1, by have := HG8.out.2; omega⟩), HR9.out⟩
          case measure => simp [intOf]; omega
      · obtain rfl : k = L.length := by omega
        have hnl : ¬ ((L.length : Int) < L.length) := by omega
        have H1 := Lib.hid (show instF (size, rs) (fr, vars, l) = ((G1, L), 0) by rw [H0.out, any_ne (fun j hj => hne.out j hj hj)]; rfl)
        have HFR := Lib.hid (show Fresh (w.heap.size + 1 + 1 + 1) wr [.slice av L.length cv] L from
          Ip.fresh (HAG.out wr _ _ HBS.out hru.out (fun z hz => by have := (hgo.out z hz).1; omega)) (fun z hz => by
            rcases hz with h | h
            · have := HPG.out z h; omega
            · omega))
        clear hru hgo hne
        have g0 := (HST.out.freeAt 2 rfl 0)
        have g1 := (HST.out.freeAt 2 rfl 1)
        have hs9 := ((HST.out.set (p := [_, _]) (by simp <;> omega) 0 (.int .i64 G1)).set (p := [_, _]) (by simp <;> omega) 1 (.slice av L.length cv))
        have HF9 := Lib.hid (show Fresh w.heap.size ((wr.setCell ⟨w.heap.size + 1 + 1, 0, none⟩ (.int .i64 G1)).setCell ⟨w.heap.size + 1 + 1, 1, none⟩ (.slice av L.length cv)) [.int .i64 G1, .slice av L.length cv] (G1, L) from
          fresh_intc hI1 (((HFR.out.setCell (a := ⟨w.heap.size + 1 + 1, 0, none⟩) (by simp <;> omega) (.int .i64 G1)).setCell (a := ⟨w.heap.size + 1 + 1, 1, none⟩) (by simp <;> omega) (.slice av L.length cv)).lower (by omega)))
        have HB9 := Lib.hid hs9.bel
        have y0 := hs9.cellAt 2 rfl 0 rfl
        have y1 := hs9.cellAt 2 rfl 1 rfl
        clear hs9
        go_wp2_with fail
        refine bodyPost_ret (v := .tuple #[.agg #[.int .i64 G1, .slice av L.length cv], .int .i64 0]) (by simp [results, Tryz.results6, go_sem, y0, y1]) rfl ⟨_, _, by rw [H1.out], ?_, HB9.out⟩
        rw [H1.out]; exact HF9.out

end Go.Proofs.YtnefmhhemaenkaaGreat
